import Derived.Test.YthnkfhfcgjoieaaGreatDoorO16
import Derived.Test.YthnkfhfcgjoieaaGreatDoorO11
import Derived.Test.YthnkfhfcgjoieaaGreatDoorO20
import Derived.Test.YthnkfhfcgjoieaaGreatDoorO17
import Derived.Test.YthnkfhfcgjoieaaGreatDoorO14
import Derived.Test.YthnkfhfcgjoieaaGreatDoorO13
import Derived.Test.YthnkfhfcgjoieaaGreatDoorO15
set_option linter.unusedVariables false
set_option linter.unusedSimpArgs false
set_option linter.unusedSectionVars false
open Go.Proofs.Tryz
namespace Go.Proofs.YthnkfhfcgjoieaaGreatDoor
open Go.RowKit QM SX LA
section
attribute [local irreducible] bK bO bM bS bN qv bZ mf PrP qOk zOk vP dx lz vF cq rqv dI aX bG aV dN jn sq aW qS zS tS tbS plS mdS zmd
theorem eU:mD.length < 4294967281:=by have e:mD.length=226:=rfl;omega
theorem asI:ah prog 66 [.v (str mD),.v (str (([32]++mG)++[32]))] (.v (.bool true)):=aO eU z6
theorem ark:ah prog 66 [.v (str mG),.v (str [32])] (.v (.bool false)):=aO zc z6
theorem kS{z:Int}{K:Nat}(h:z.natAbs < WB ^ K)(h1:1<=K)(hK:K<=100000):ah prog 65 [.agg (vlA (vI z))] (.v (.bool true)):=
 (Cv.one (n:=0) (.num _ (RB.ofI h h1):Sh K (bW (z:Rat)))).F hK zc
theorem abQ{r c:Nat}(hr:r<=64)(hc:c<=64):ah prog 46 [.v (str mG),.r (aB 15 vlE [vI r,vI c])] (.tup [.agg (vlA (iJ r c ((lX c (fun _ _=>0) r).map fun z:Int=>(z:Rat)))),eNo 0]):=by
 refine lW (n0:=0) zc zc (zqc rfl) (fun v hv=>?_) asI ark (fun k f hk _=>absurd hk (zvj _)) (fun f hf=>?_)
 ·rcases zy3.1 hv with rfl|hv
  ·exact kS (aar hr) (zq6 1) zc
  ·rw[zxi]at hv;subst hv;exact kS (aar hc) (zq6 1) zc
 ·cases hf;exact abj hr hc
end
attribute [local irreducible] IntKind.wrap Go1 Reg WP aJ aN bF bD aM aA ak aj aT Sat
section
def qdn(x d:Rat):Nat->Rat
 |0=>x
 |k+1=>qdn x d k / d
theorem aqn{x d:Rat}{K L:Nat}(hx:RB x K)(hd:RB d L)(h0:d≠0):∀k,RB (qdn x d k) (K+k*L)
 |0=>by rw[zw3];exact hx
 |k+1=>by
  have:=(aqn hx hd h0 k).div hd h0;rw[show K+(k+1)*L=K+k*L+L by rw[zv8];omega]
  exact this
def aem(n:Nat)(zs:List Int):Int:=aln (zgM (zat zs n) n n) n
def akW(n:Nat)(vs:List Rat):Rat:=qdn ((aem n (oK vs):Int):Rat) (((jl vs:Nat):Int):Rat) n
abbrev nTra:List UInt8:=[116,114,97,110,115,112,111,115,101]
abbrev om:List UInt8:=[100,101,116]
abbrev nInv:List UInt8:=[105,110,118]
abbrev nRnk:List UInt8:=[114,97,110,107]
abbrev anZ:List Atom:=[.c (.val (.int .i64 0)),.c (.val (.bool false)),.c (.val (.slice none 0 0)),.c (.val (.bool false)),.c (.val (.slice none 0 0)),.c (.val (.int .i64 0)),.c (.val (.int .i64 0)),.c (.val (.slice none 0 0)),.c (.val (.slice none 0 0)),.c (.val (.int .u64 0)),.c (.val (.int .i64 0)),.c (.val (.int .i64 0)),.c (.val (.slice none 0 0)),.c (.val (.slice none 0 0)),.c (.val (.slice none 0 0)),.c (.val (.int .i64 0)),.c (.val (.bool false))]
attribute [local irreducible] bK bO bM bS bN qv bZ mf PrP qOk zOk vP dx lz vF cq rqv dI aX bG aV dN jn sq aW qS zS tS tbS plS mdS zmd aem qdn
theorem alb{n K:Nat}{zs:List Int}(hl:zs.length=n*n)(hn:n<=64)(hz:∀z∈zs,z.natAbs < WB ^ K)(hK1:1<=K)(hkz:kz K n<=1000000):
  ah prog 221 [.agg (aay n n zs)] (.tup [.agg (zN (aem n zs)),eNo 0]):=by
 have hl2:(zs.map z2v).length=n*n:=by rw[zq5];exact hl
 have hKK:=akl n K;have cF:ah prog 194 [.agg (zO n n (aB 2 zC zs))] (.v (.bool true)):=by
  have h:=ait (cells:=(zs.map z2v).flatMap z2C) (qp.nat hn hn hl2);have e:ah prog 194 [.agg (adp n n (zs.map z2v))] (.v (.bool true)):=h;rw[<-acn]at e;exact e
 unfold aem;refine aoV (x:=aB 2 zC zs) (va:=zat zs n) hn cF (fun i k hi hk=>?_) (fun i k hi hk=>?_) hK1 hkz
 ·have h:=akp (r:=n) (c:=n) (MZ.made hz) hl2 hn hn hi hk zE
  rw[<-acn]at h;exact h
 ·exact hz _ (zq4 (aej hl hi hk))
theorem asf{n K:Nat}{zs:List Int}(hl:zs.length=n*n)(hz:∀z∈zs,z.natAbs < WB ^ K)(hK1:1<=K):(aem n zs).natAbs < WB ^ kz K n:=by
 unfold aem;exact aqO (ahW (fun i k hi hk=>hz _ (zq4 (aej hl hi hk))) hK1)
theorem zG{n K:Nat}{vs:List Rat}(hl:vs.length=n*n)(hn:n<=64)(hv:∀v∈vs,RB v K)(hK1:1<=K)(hB0:1+(n*n+1)*K<=50000)(hkz:kz (K+(1+vs.length*K)) n<=10000)(hnk:n*(1+vs.length*K)<=10000):
  ah prog 124 [.agg (wY n n ((vs.map cq).map rq))] (.agg (iW (bW (akW n vs)) 0 true)):=by
 have cC:=alR (r:=n) (c:=n) (MV.cq hv) (by rw[zq5,zq5];exact hl) hn hn hK1 hB0
 have hcz:=arW hv;have hcl:(oK vs).length=n*n:=by unfold oK;rw[zq5];exact hl
 have hkk:=akl n (K+(1+vs.length*K));have cD:=alb hcl hn hcz zE zE
 have hdl:=asf hcl hcz zE
 have hL:=wJ hv vs.length;rw[zy8]at hL;have hp:=vR vs;unfold akW;generalize aem n (oK vs)=d at*;generalize jl vs=m at*;generalize oK vs=zs at*;have hm1:((m:Nat):Int).natAbs < WB ^ (1+vs.length*K):=by rw[zxa];exact hL
 haveI iD:Bd d (kz (K+(1+vs.length*K)) n):=⟨hdl⟩
 haveI iM:Bd ((m:Nat):Int) (1+vs.length*K):=⟨hm1⟩
 have rd:RB ((d:Int):Rat) (kz (K+(1+vs.length*K)) n):=RB.ofI hdl zE
 have rm:RB (((m:Nat):Int):Rat) (1+vs.length*K):=RB.ofI hm1 zE
 have hm0:(((m:Nat):Int):Rat)≠0:=fun h=>by
  have:((m:Nat):Int)=0:=by exact_mod_cast h
  omega
 have hRB:=aqn rd rm hm0;have cO1:ah prog 23 [.agg (zN d)] (.agg (qA ((d:Int):Rat))):=tu.h zE
 have cO2:ah prog 23 [.agg (zN ((m:Nat):Int))] (.agg (qA (((m:Nat):Int):Rat))):=tu.h zE
 generalize ((d:Int):Rat)=x at*;generalize hy:(((m:Nat):Int):Rat)=y at*;have cN:=jJ (q:=q4v (qdn x y n)) (hRB n).ra (by
  omega)
 have cf:=mh (bW (qdn x y n));have e0:qdn x y 0=x:=by unfold qdn;rfl
 have es:∀k,qdn x y (k+1)=qdn x y k / y:=fun k=>by conv=>lhs;unfold qdn
 refine ah.fq func124 results124 ntmps124 fun _ _ _ _ _=>?_
 refine zg ?_;refine W.loop (fun k=>k<=n) (fun k=>[(1,.ptr 1 0),(2,.ptr 2 0),(4,.ptr 4 0),(8,.ptr 8 0),(28,.v (.int .i64 (n:Int))),(29,.v (.int .i64 (k:Int)))]) (fun k=>[(1,.box 31 (wY n n ((vs.map cq).map rq))),(2,.box 130 anZ),(4,.box 25 (zN ((m:Nat):Int))),(8,.box 27 (qA (qdn x y k)))]) (fun k=>n - k) 0 (zq8 _) (fun k hk=>?_)
  (by
   rw[e0];refine St.bV [] zt ?_ ?_ rfl
   ·exact ya
   ·exact⟨ay.same rfl rfl,ay.same rfl rfl,ay.same rfl rfl,ay.same rfl rfl,trivial⟩)
 by_cases h:k < n
 ·have ik:=(hRB k).ra;have iy:=rm.ra;have hkn:=zx1 (1+vs.length*K) (show k+1<=n from h)
  rw[zv8]at hkn;have cQ:ah prog 233 [.agg (qA (qdn x y k)),.agg (qA y)] (.tup [.agg (qA (qdn x y (k+1))),.one (.c (.val (.bool (decide (y≠0)))))]):=by
   rw[es];exact afR.h zE
  refine zg ?_;refine W.next (k+1) h zE (by
   refine St.bV [] zt ?_ ?_ rfl
   ·exact ya
   ·exact⟨ay.same rfl rfl,ay.same rfl rfl,ay.same rfl rfl,ay.same rfl rfl,trivial⟩)
 ·obtain rfl:k=n:=zE
  refine zg ?_;refine fK ak.dW ?_;exact zv _
section
variable{t:List UInt8}{vs:List Vl}(ht:t=nTra\/t=om\/t=nInv\/t=nRnk)
include ht
theorem alT:ah prog 67 [.agg (bR t vs)] (.agg nk):=by
 rcases ht with rfl|rfl|rfl|rfl <;> (
  refine ah.fq func67 results67 ntmps67 fun _ _ _ _ _=>?_
  refine zg ?_;exact mH ak.dW
 )
theorem al1:ah prog 68 [.agg (bR t vs)] (.agg nk):=by
 rcases ht with rfl|rfl|rfl|rfl <;> (
  refine ah.fq func68 results68 ntmps68 fun _ _ _ _ _=>?_
  refine zg ?_;exact mH ak.dW
 )
theorem ag0:ah prog 69 [.agg (bR t vs)] (.agg nk):=by
 rcases ht with rfl|rfl|rfl|rfl <;> (
  refine ah.fq func69 results69 ntmps69 fun _ _ _ _ _=>?_
  refine zg ?_;exact mH ak.dW
 )
end
theorem as_x{t:List UInt8}{r c:Nat}{vs:List Rat}:ah prog 94 [.agg (bR t [iJ r c vs]),.v (str t),.v (str [120])] (.v (.bool true)):=by
 have cS:=aif (iJ r c vs);rw[decide_eq_true rfl]at cS;exact oz (so:=[120]) (fun _=>true) rfl (zqc rfl) fun i v hv=>by
  match i,hv with
  |0,hv=>cases hv;exact cS
theorem wz{n:Nat}{vs:List Rat}{r:Vl}(cD:ah prog 124 [.agg (wY n n ((vs.map cq).map rq))] (.agg (iW r 0 true))):ah prog 70 [.agg (bR om [iJ n n vs])] (.agg (iW r 0 true)):=by
 have hv:[iJ n n vs][0]? =some (iJ n n vs):=rfl;have ca:=as_x (t:=om) (r:=n) (c:=n) (vs:=vs);refine ah.fq func70 results70 ntmps70 fun _ _ _ _ _=>?_
 refine zg ?_;refine fK ak.dW ?_;exact zv _
theorem auy:ah prog 66 [.v (str mD),.v (str (([32]++om)++[32]))] (.v (.bool true)):=aO eU z6
theorem au7:ah prog 66 [.v (str om),.v (str [32])] (.v (.bool false)):=aO zc z6
theorem ad8{n K:Nat}{vs:List Rat}(hl:vs.length=n*n)(hn:n<=64)(hv:∀v∈vs,RB v K)(hK1:1<=K)(hKK:K<=10000)(hB0:1+(n*n+1)*K<=50000)(hkz:kz (K+(1+vs.length*K)) n<=10000)(hnk:n*(1+vs.length*K)<=10000):
  ah prog 46 [.v (str om),.r (aB 15 vlE [iJ n n vs])] (.tup [.agg (vlA (bW (akW n vs))),eNo 0]):=by
 refine lW (n0:=3) zc zc (zqc rfl) (fun u hu=>?_) auy au7 (fun k f hk hf=>?_) (fun f hf=>?_)
 ·rw[zxi]at hu;subst hu;exact(Cv.one (n:=0) (.mat n n _ (by rw[hl]) hn hn hv:Sh K _)).F zE zc
 ·match k,hk,hf with
  |0,_,hf=>cases hf;exact alT (.inr (.inl rfl))
  |1,_,hf=>cases hf;exact al1 (.inr (.inl rfl))
  |2,_,hf=>cases hf;exact ag0 (.inr (.inl rfl))
 ·cases hf;exact wz (zG hl hn hv hK1 hB0 hkz hnk)
end
section
attribute [local irreducible] bK bO bM bS bN qv bZ mf PrP qOk zOk vP dx lz vF cq rqv dI aX bG aV dN jn sq aW qS zS tS tbS plS mdS zmd aem qdn
theorem ar0{e:Int}:(AV0.agg [.c (.val (.int .i64 0)),.c (.val (.bool false)),.c (.val (.slice none 0 0)),.c (.val (.bool false)),.c (.val (.slice none 0 0)),.c (.val (.int .i64 0)),.c (.val (.int .i64 0)),.c (.val (.slice none 0 0)),.c (.val (.slice none 0 0)),.c (.val (.int .u64 0)),.c (.val (.int .i64 0)),.c (.val (.int .i64 0)),.c (.val (.slice none 0 0)),.c (.val (.slice none 0 0)),.c (.val (.slice none 0 0)),.c (.val (.int .i64 e)),.c (.val (.bool true))]).imp (.agg (iW v0 e true)):=
 jA ⟨aF.refl _,aF.refl _,aF.qU,aF.refl _,aF.qU,aF.refl _,aF.refl _,aF.nil,aF.nil,aF.refl _,aF.refl _,aF.refl _,aF.nil,aF.nil,aF.nil,aF.refl _,aF.refl _,trivial⟩
theorem al7{e:Int}(h:e≠0):ah prog 104 [.agg vlZ,.v (.int .i64 e)] (.agg (iW v0 e true)):=by
 refine ah.fq func104 results104 ntmps104 fun _ _ _ _ _=>?_
 refine zg ?_;exact fK ak.dW ar0
theorem adf{t:List UInt8}{vs:List Vl}{r:Vl}{e:Int}{n0:Nat}(htl:t.length<=1000)(hn:n0 < 7)(hl:vs.length<=100000)(hF:∀v∈vs,ah prog 65 [.agg (vlA v)] (.v (.bool true)))
  (c1:ah prog 66 [.v (str mD),.v (str (([32]++t)++[32]))] (.v (.bool true))) (c2:ah prog 66 [.v (str t),.v (str [32])] (.v (.bool false)))
  (hno:∀(k:Nat) f,k < n0->groups[k]? =some f->ah prog f [.agg (bR t vs)] (.agg nk)) (hyes:∀f,groups[n0]? =some f->ah prog f [.agg (bR t vs)] (.agg (iW r e true))):
  ah prog 46 [.v (str t),.r (aB 15 vlE vs)] (.tup [.agg (vlA r),eNo e]):=by
 have hg:groups.length=7:=rfl;refine ah.fq func46 results46 ntmps46 fun _ _ _ _ _=>?_
 refine zg ?_;refine W.loop (fun k=>k<=vs.length) (fun k=>[(0,.v (str t)),(1,.r (aB 15 vlE vs)),(4,.ptr 4 0),(12,.r (aB 15 vlE vs)),(13,.v (.int .i64 (vs.length:Int))),(14,.v (.int .i64 (k:Int)))]) (fun k=>[(4,.box 40 vlZ)]) (fun k=>vs.length - k) 0 (zq8 _) (fun k hk=>?_)
 by_cases h:k < vs.length
 ·obtain⟨v,hv⟩:∃v,vs[k]? =some v:=⟨_,zyh h⟩
  have cF:=hF v (zq4 hv);refine zg ?_;exact W.next (k+1) h zE
 ·obtain rfl:k=vs.length:=zE
  refine zg ?_;refine SX.Go1.yZ (n:=7) (size:=1) (m:=[.val (.func (.func 67) #[] #[]),.val (.func (.func 68) #[] #[]),.val (.func (.func 69) #[] #[]),.val (.func (.func 70) #[] #[]),.val (.func (.func 71) #[] #[]),.val (.func (.func 72) #[] #[]),.val (.func (.func 73) #[] #[])]) (l:=[.c (.val (.func (.func 67) #[] #[])),.c (.val (.func (.func 68) #[] #[])),.c (.val (.func (.func 69) #[] #[])),.c (.val (.func (.func 70) #[] #[])),.c (.val (.func (.func 71) #[] #[])),.c (.val (.func (.func 72) #[] #[])),.c (.val (.func (.func 73) #[] #[]))]) rfl rfl rfl rfl rfl z6 rfl rfl ?_
  refine zg ?_;refine W.loop (fun k=>k<=n0) (fun k=>[(4,.ptr 4 0),(8,.ptr 8 0),(36,.r (aB 1 fnC groups)),(37,.v (.int .i64 7)),(38,.v (.int .i64 (k:Int)))]) (fun k=>[(4,.box 40 vlZ),(8,.box 125 (bR t vs))]) (fun k=>n0 - k) 0 (zq8 _) (fun k hk=>?_)
  obtain⟨f,hf⟩:∃f,groups[k]? =some f:=⟨_,zyh zE⟩
  by_cases h2:k < n0
  ·have cV:=FnV.val (hno k f h2 hf);refine zg ?_;exact W.next (k+1) h2 zE
  ·obtain rfl:k=n0:=zE
   have cV:=FnV.val (hyes f hf);refine zg ?_;exact .ok (aA.mk2 ak.gL (ak.tmp rfl))
section
variable{r c:Nat}{vs:List Rat}
end
end
section
section
abbrev vrC(vs:List Vl):List CA:=[.sat (aB 15 vlE vs)]
instance:eY vrC 1:=⟨fun _=>rfl⟩
abbrev rcq(v:Rat):Q4:=rq (cq v)
theorem auS{c n:Nat}{vs:List Rat}{x:Rat}(hx:vs[n]? =some x):((vs.take n).map rcq).flatMap q4C++q4C (rcq x)=((vs.take (n+1)).map rcq).flatMap q4C:=acr (enc:=q4C) (f:=rcq) hx
attribute [local irreducible] bK bO bM bS bN qv bZ mf PrP qOk zOk vP dx lz vF cq rqv dI aX bG aV dN jn sq aW qS zS tS tbS plS mdS zmd fT jw nmC
theorem abV{L:List (List Vl)}{r c K:Nat}{vs:List Rat}(hL:L.length=r)(hrow:∀(i:Nat) R,L[i]? =some R->R.length=c/\∀k,k < c->∃x,vs[i*c+k]? =some x/\R[k]? =some (bW x))(hl:vs.length=r*c)(hr1:1<=r)(hr:r<=64)(hc:c<=64)(hb:∀v∈vs,RB v K)(hK:K<=10000):
  ah prog 463 [.r (aB 1 vrC L)] (.tup [.agg (vlA (iJ r c vs)),eNo 0]):=by
 have cM:=aaS (r:=r) (c:=c) (MV.cq hb) (by rw[zq5,zq5];exact hl) hr hc zE
 obtain⟨R0,h0⟩:∃R,L[0]? =some R:=⟨_,zyh zE⟩
 obtain⟨hR0,_⟩:=hrow 0 R0 h0;subst hL hR0;have e3:(vs.map cq).map rq=vs.map rcq:=zv4 ..;have e4:(vs.map rcq).length=vs.length:=zq5 _;have hLc:=zxd hr hc;have hd0:decide ((R0.length:Int)<=64)=true:=decide_eq_true zE
 refine ah.fq func463 results463 ntmps463 fun _ _ _ _ hB=>?_
 refine zg ?_;rw[hd0];refine W.loop (fun i=>i<=L.length) (fun i=>[(2,.ptr 2 0),(4,.ptr 4 0),(5,.v (.bool true)),(25,.r (aB 1 vrC L)),(26,.v (.int .i64 (L.length:Int))),(27,.v (.int .i64 (i:Int)))]) (fun i=>[(2,.box 40 vlZ),(4,.box 31 [.c (.val (.int .i64 (L.length:Int))),.c (.val (.int .i64 (R0.length:Int))),.own 100]),(100,.row 27 4 (i*R0.length) (((vs.take (i*R0.length)).map rcq).flatMap q4C))]) (fun i=>L.length - i) 0 (zq8 _) (fun i hi=>?_)
  (by
   refine St.bV [(100,none)] zt ?_ ?_ rfl
   ·exact ya
   ·exact⟨ay.same rfl rfl,ay.nW rfl rfl ⟨aD.same rfl,aD.same rfl,aD.nil rfl,trivial⟩,by rw[zw3];exact ay.dZ rfl,trivial⟩)
 by_cases h:i < L.length
 ·obtain⟨R,hR⟩:∃R,L[i]? =some R:=⟨_,zyh h⟩
  obtain⟨hRl,hRv⟩:=hrow i R hR;have hd:decide ((R.length:Int)=(R0.length:Int))=true:=decide_eq_true zE
  have hlen:i*R0.length+R0.length<=4096:=by
   have:=zx1 R0.length (show i+1<=L.length by omega)
   rw[zv8]at this;omega
  refine zg ?_;rw[hd];refine W.loop (fun k=>k<=R.length) (fun k=>[(2,.ptr 2 0),(4,.ptr 4 0),(5,.v (.bool true)),(25,.r (aB 1 vrC L)),(26,.v (.int .i64 (L.length:Int))),(27,.v (.int .i64 (i:Int))),(39,.r (aB 15 vlE R)),(40,.v (.int .i64 (R.length:Int))),(41,.v (.int .i64 (k:Int)))]) (fun k=>[(2,.box 40 vlZ),(4,.box 31 [.c (.val (.int .i64 (L.length:Int))),.c (.val (.int .i64 (R0.length:Int))),.own 100]),(100,.row 27 4 (i*R0.length+k) (((vs.take (i*R0.length+k)).map rcq).flatMap q4C))]) (fun k=>R.length - k) 0 (zq8 _) (fun k hk=>?_)
   (by
    have e:Ent.row 27 4 (i*R0.length) (((vs.take (i*R0.length)).map rcq).flatMap q4C)=Ent.row 27 4 (i*R0.length+0) (((vs.take (i*R0.length+0)).map rcq).flatMap q4C):=by rw[zvi]
    refine St.bV [] zt ?_ ?_ rfl
    ·exact ya
    ·exact⟨ay.same rfl rfl,ay.same rfl rfl,ay.eq rfl e rfl,trivial⟩)
  by_cases h2:k < R.length
  ·obtain⟨x,hx,hv⟩:=hRv k zE
   have e2:=auS (c:=R0.length) hx;refine zg ?_;refine W.next (k+1) h2 zE (by
    refine St.bV [(100,some 54)] zt ?_ ?_ rfl
    ·exact ya
    ·exact⟨ay.same rfl rfl,ay.nW rfl rfl ⟨aD.same rfl,aD.same rfl,aD.own rfl,trivial⟩,ay.row rfl rfl zE e2,trivial⟩)
  ·have hkR:k=R0.length:=zE
   subst hkR;refine zg ?_;refine W.next (i+1) h zE (by
    have e2:Ent.row 27 4 (i*R0.length+R0.length) (((vs.take (i*R0.length+R0.length)).map rcq).flatMap q4C)=Ent.row 27 4 ((i+1)*R0.length) (((vs.take ((i+1)*R0.length)).map rcq).flatMap q4C):=by rw[zv8]
    refine St.bV [] zt ?_ ?_ rfl
    ·exact ya
    ·exact⟨ay.same rfl rfl,ay.same rfl rfl,ay.eq rfl e2 rfl,trivial⟩)
 ·obtain rfl:i=L.length:=zE
  rw[<-hl,zy8];rw[e3]at cM;rw[<-e4];refine WP.freeze 100 hB rfl ?_;refine zg ?_;exact .ok (aA.mk2 ak.gL (ak.tmp rfl))
theorem avi{B:Nat}{nm:Nms}(ns:List Nd)(ks:List Nat)(vss:List (List Vl))(hk:ks.length=ns.length)(hv:vss.length=ns.length)(hl:ns.length<=100000)
  (h:∀(i:Nat) n k vs,ns[i]? =some n->ks[i]? =some k->vss[i]? =some vs->AL B nm n.kids k vs) {v:Vl} (cM:ah prog 463 [.r (aB 1 vrC vss)] (.tup [.agg (vlA v),eNo 0])) (F:Nat) (u:Bool) (la:Vl) (tx:List UInt8) (hF:F+(ks.sum+ns.length)<=1000000000):
  aj prog 396 [.ptr 81 0,.r (aB 3 ndE ns)] (ME (F+(ks.sum+ns.length)) B nm u la tx) ⟨.tup [.agg (vlA v),eNo 0],MO F B nm u la tx⟩:=by
 cases u with
 |false=>
  refine aj.fnM func396 results396 ntmps396 rfl rfl rfl rfl (by first|rfl|(cases u <;> rfl)) (by first|rfl|(cases u <;> rfl)) (by first|rfl|(cases u <;> rfl)) (fun w0 Tw Bw E0 hB=>?_)
  refine zg ?_;refine W.nZ (fun k fu=>k<=ns.length/\fu=F+((ks.drop k).sum+(ns.length - k))) (fun k fu=>[(0,.ptr 81 0),(4,.ptr 4 0),(6,.own 100),(9,.r (aB 3 ndE ns)),(10,.v (.int .i64 (ns.length:Int))),(11,.v (.int .i64 (k:Int)))]) (fun k fu=>[(81,MB fu B false la),(82,.abs (iT (nmC nm))),(84,uL tx),(4,.box 40 vlZ),(100,.row 38 1 k ((vss.take k).flatMap vrC))]) (fun k _=>ns.length - k) 0 (F+(ks.sum+ns.length)) ⟨zq8 _,rfl⟩ (fun k fu ⟨hkn,hfu⟩=>?_)
   (by
    refine St.bV [(100,none)] (by intro b h;exact SX.dX h rfl) ?_ ?_ rfl
    ·exact yf
    ·exact⟨ay.same rfl rfl,ay.same rfl rfl,ay.same rfl rfl,ay.same rfl rfl,ay.dZ rfl,trivial⟩)
  by_cases hlt:k < ns.length
  ·obtain⟨n,hn⟩:∃n,ns[k]? =some n:=⟨_,zyh hlt⟩
   obtain⟨c,hc⟩:∃c,ks[k]? =some c:=⟨_,zyh zE⟩
   obtain⟨vs,hvk⟩:∃vs,vss[k]? =some vs:=⟨_,zyh zE⟩
   have hsum:(ks.drop k).sum=c+(ks.drop (k+1)).sum:=by
    obtain⟨hk2,e⟩:=zxg.1 hc
    rw[zy4 hk2,e,List.sum_cons]
   have hle:(ks.drop k).sum<=ks.sum:=by
    conv=>rhs;rw[<-zv5 k ks,List.sum_append]
    omega
   obtain⟨f',rfl⟩:∃f',fu=f'+c+1:=⟨F+((ks.drop (k+1)).sum+(ns.length - (k+1))),zE⟩
   have c1:=nR (f'+c) B nm false la tx zE
   have cE:aj prog 397 [.ptr 81 0,.r (aB 3 ndC n.kids)] (ME (f'+c) B nm false la tx) ⟨.r (aB 15 vlE vs),MO f' B nm false la tx⟩:=by rw[show ndC=ndE from funext aI];exact h k n c vs hn hc hvk f' false la tx zE
   have e2:(vss.take k).flatMap vrC++vrC vs=(vss.take (k+1)).flatMap vrC:=by rw[lI hvk];simp
   refine zg ?_;refine W.nM (k+1) f' ⟨hlt,zE⟩ zE (by
    refine St.bV [(100,some 29)] (by intro b h;exact SX.dX h rfl) ?_ ?_ rfl
    ·exact yb
    ·exact⟨ay.same rfl rfl,ay.same rfl rfl,ay.same rfl rfl,ay.same rfl rfl,ay.row rfl rfl rfl e2,trivial⟩)
  ·obtain rfl:k=vss.length:=zE
   rw[List.drop_of_length_le zE,List.sum_nil]at hfu
   obtain rfl:fu=F:=zE
   rw[zy8];refine WP.ajk 100 hB rfl rfl rfl rfl ?_;refine zg ?_;exact gG (xs:=[.agg (vlA v),eNo 0]) ⟨ak.gL rfl rfl rfl,ak.tmp rfl,trivial⟩ ⟨rfl,rfl,rfl,trivial⟩
 |true=>
  refine aj.fnM func396 results396 ntmps396 rfl rfl rfl rfl (by first|rfl|(cases u <;> rfl)) (by first|rfl|(cases u <;> rfl)) (by first|rfl|(cases u <;> rfl)) (fun w0 Tw Bw E0 hB=>?_)
  refine zg ?_;refine W.nZ (fun k fu=>k<=ns.length/\fu=F+((ks.drop k).sum+(ns.length - k))) (fun k fu=>[(0,.ptr 81 0),(4,.ptr 4 0),(6,.own 100),(9,.r (aB 3 ndE ns)),(10,.v (.int .i64 (ns.length:Int))),(11,.v (.int .i64 (k:Int)))]) (fun k fu=>[(81,MB fu B true la),(82,.abs (iT (nmC nm))),(84,uL tx),(4,.box 40 vlZ),(100,.row 38 1 k ((vss.take k).flatMap vrC))]) (fun k _=>ns.length - k) 0 (F+(ks.sum+ns.length)) ⟨zq8 _,rfl⟩ (fun k fu ⟨hkn,hfu⟩=>?_)
   (by
    refine St.bV [(100,none)] (by intro b h;exact SX.dX h rfl) ?_ ?_ rfl
    ·exact yf
    ·exact⟨ay.same rfl rfl,ay.same rfl rfl,ay.same rfl rfl,ay.same rfl rfl,ay.dZ rfl,trivial⟩)
  by_cases hlt:k < ns.length
  ·obtain⟨n,hn⟩:∃n,ns[k]? =some n:=⟨_,zyh hlt⟩
   obtain⟨c,hc⟩:∃c,ks[k]? =some c:=⟨_,zyh zE⟩
   obtain⟨vs,hvk⟩:∃vs,vss[k]? =some vs:=⟨_,zyh zE⟩
   have hsum:(ks.drop k).sum=c+(ks.drop (k+1)).sum:=by
    obtain⟨hk2,e⟩:=zxg.1 hc
    rw[zy4 hk2,e,List.sum_cons]
   have hle:(ks.drop k).sum<=ks.sum:=by
    conv=>rhs;rw[<-zv5 k ks,List.sum_append]
    omega
   obtain⟨f',rfl⟩:∃f',fu=f'+c+1:=⟨F+((ks.drop (k+1)).sum+(ns.length - (k+1))),zE⟩
   have c1:=nR (f'+c) B nm true la tx zE
   have cE:aj prog 397 [.ptr 81 0,.r (aB 3 ndC n.kids)] (ME (f'+c) B nm true la tx) ⟨.r (aB 15 vlE vs),MO f' B nm true la tx⟩:=by rw[show ndC=ndE from funext aI];exact h k n c vs hn hc hvk f' true la tx zE
   have e2:(vss.take k).flatMap vrC++vrC vs=(vss.take (k+1)).flatMap vrC:=by rw[lI hvk];simp
   refine zg ?_;refine W.nM (k+1) f' ⟨hlt,zE⟩ zE (by
    refine St.bV [(100,some 29)] (by intro b h;exact SX.dX h rfl) ?_ ?_ rfl
    ·exact yb
    ·exact⟨ay.same rfl rfl,ay.same rfl rfl,ay.same rfl rfl,ay.same rfl rfl,ay.row rfl rfl rfl e2,trivial⟩)
  ·obtain rfl:k=vss.length:=zE
   rw[List.drop_of_length_le zE,List.sum_nil]at hfu
   obtain rfl:fu=F:=zE
   rw[zy8];refine WP.ajk 100 hB rfl rfl rfl rfl ?_;refine zg ?_;exact gG (xs:=[.agg (vlA v),eNo 0]) ⟨ak.gL rfl rfl rfl,ak.tmp rfl,trivial⟩ ⟨rfl,rfl,rfl,trivial⟩
end
section
theorem abb{B:Nat}:∀{l:List Nat} {b:Nat},(∀x∈l,x<=B)->b<=B->l.foldl max b<=B
 |[],b,_,h=>h
 |x::l,b,h,hb=>abb (l:=l) (b:=max b x) (fun y hy=>h y (zy2 _ hy)) (by have:=h x zq9;omega)
theorem aeR{α β:Type}[Inhabited β]{l:List α}{P:α->β->Prop}(h:∀x∈l,∃b,P x b):∃g:α->β,∀x∈l,P x (g x):=by
 classical
 exact⟨fun x=>if hx:x∈l then(h x hx).choose else default,fun x hx=>by simp only[dif_pos hx];exact(h x hx).choose_spec⟩
theorem atJ{x K:Nat}(h:x < 2 ^ K):bitLen x<=K:=by
 by_cases h0:x=0
 ·rw[nQ.2 h0];omega
 ·have h1:=(bitLen_spec x).2 h0;have h2:2 ^ (bitLen x - 1) < 2 ^ K:=zxb h1 h;have:=(Nat.pow_lt_pow_iff_right (a:=2) zE).1 h2
  omega
theorem sS{x k:Nat}(h:x < WB ^ k):bitLen x<=64*k:=by
 refine atJ (zqf h ?_);rw[ko,<-Nat.pow_mul];exact zq6 _
theorem aiz{x:Rat}{K:Nat}(h:RB x K):qB x<=64*K:=by
 have h1:=sS h.n;have h2:=sS h.d;unfold qB;omega
attribute [local irreducible] bK bO bM bS bN qv bZ mf PrP qOk zOk vP dx lz vF cq rqv dI aX bG aV dN jn sq aW qS zS tS tbS plS mdS zmd fT jw nmC qB
theorem bN0:ah prog 35 [.r (bU (0:Int).natAbs)] (.v (.int .i64 0)):=by
 haveI:BdN 0 1:=⟨by rw[dn];decide⟩
 exact(tT (a:= .sat (bU 0))).h zc
theorem akI{r c:Nat}{vs:List Rat}{K:Nat}(h:∀v∈vs,RB v K)(hK:K<=1000)(hl:vs.length<=10000):ah prog 489 [.agg (vlA (iJ r c vs))] (.v (.int .i64 (((vs.map qB).foldl max 0:Nat):Int))):=by
 have cO:=anv 0 zc zc
 have cB:=bN0;have m1:((vs.map cq).map rq).length=vs.length:=ag8 vs;have m2:((iJ r c vs).a.map rq).length=vs.length:=ag8 vs;refine ah.fq func489 results489 ntmps489 fun _ _ _ _ _=>?_
 refine zg ?_;refine W.nZ (fun k m=>k<=vs.length/\m<=64000/\m=((vs.take k).map qB).foldl max 0) (fun k m=>[(3,.v (.int .i64 (m:Int))),(25,.r (aB 4 q4C (mq vs))),(26,.v (.int .i64 (vs.length:Int))),(27,.v (.int .i64 (k:Int)))]) (fun _ _=>[]) (fun k _=>vs.length - k) 0 0 ⟨zq8 _,zq8 _,rfl⟩ (fun k m ⟨hk,hm,hmm⟩=>?_)
  (by
   refine St.bV [] zt ?_ ?_ rfl
   ·exact yi
   ·exact trivial)
 by_cases hk2:k < vs.length
 ·obtain⟨x,hx⟩:∃x,vs[k]? =some x:=⟨_,zyh hk2⟩
  have hx':(mq vs)[k]? =some (rq (cq x)):=by rw[zqa,zqa,hx];rfl
  have h':k < (mq vs).length:=by rw[ag8];exact hk2
  have hb:=h x (zq4 hx);have cx:=acL (q:=cq x) (by have:=(vZ0.num hb (show K<=100000 by omega)).q.2;dsimp only at this;omega)
  rw[ku]at cx;have hq:=aiz hb;have e1:((vs.take (k+1)).map qB).foldl max 0=max m (qB x):=by rw[zw7,hx,hmm];simp
  refine zg ?_;exact W.nM (k+1) (max m (qB x)) ⟨hk2,zE,e1.symm⟩ zE
 ·obtain rfl:k=vs.length:=zE
  rw[zy8]at hmm;refine zg ?_;refine iw ?_;rw[<-hmm]
theorem akP{zs:List Int}{K:Nat}(h:∀z∈zs,z.natAbs < WB ^ K)(hK:K<=1000)(hl:zs.length<=10000):ah prog 489 [.agg (vlA (uS zs))] (.v (.int .i64 (((zs.map fun z=>bitLen z.natAbs).foldl max 0:Nat):Int))):=by
 have cO:=anv 0 zc zc
 have cB:=bN0;have m1:((zs.map cz).map rz).length=zs.length:=aic zs;have m2:((uS zs).po.map rz).length=zs.length:=aic zs;refine ah.fq func489 results489 ntmps489 fun _ _ _ _ _=>?_
 refine zg ?_;refine W.nZ (fun k m=>k<=zs.length/\m<=64000/\m=((zs.take k).map fun z=>bitLen z.natAbs).foldl max 0) (fun k m=>[(3,.v (.int .i64 (m:Int))),(39,.r (aB 2 z2C (mz zs))),(40,.v (.int .i64 (zs.length:Int))),(41,.v (.int .i64 (k:Int)))]) (fun _ _=>[]) (fun k _=>zs.length - k) 0 0 ⟨zq8 _,zq8 _,rfl⟩ (fun k m ⟨hk,hm,hmm⟩=>?_)
  (by
   refine St.bV [] zt ?_ ?_ rfl
   ·exact yi
   ·exact trivial)
 by_cases hk2:k < zs.length
 ·obtain⟨z,hz⟩:∃z,zs[k]? =some z:=⟨_,zyh hk2⟩
  have hz':(mz zs)[k]? =some (rz (cz z)):=by rw[zqa,zqa,hz];rfl
  have h':k < (mz zs).length:=by rw[aic];exact hk2
  have hb:=h z (zq4 hz);have hlen:(cz z).2.length<=K:=mJ hb;have cx:ah prog 305 [.agg [.c (.val (.bool (cz z).1)),.c (.sat (bL (cz z).2))]] (.v (.int .i64 (bitLen (rzv (cz z)).natAbs:Int))):=(fF (h:=ZI.raw (cz z).1 (cz z).2)).h zE
  rw[pW]at cx;have hq:=sS hb;have e1:((zs.take (k+1)).map fun z=>bitLen z.natAbs).foldl max 0=max m (bitLen z.natAbs):=by rw[zw7,hz,hmm];simp
  refine zg ?_;exact W.nM (k+1) (max m (bitLen z.natAbs)) ⟨hk2,zE,e1.symm⟩ zE
 ·obtain rfl:k=zs.length:=zE
  rw[zy8]at hmm;refine zg ?_;refine iw ?_;rw[<-hmm]
theorem akf(v:Vl)(h:v.k=4\/v.k=5)(hp:v.p < WB):ah prog 489 [.agg (vlA v)] (.v (.int .i64 (bitLen v.p:Int))):=by
 have cO:=nOf v.p hp;have cB:ah prog 35 [.r (bU v.p)] (.v (.int .i64 (bitLen v.p:Int))):=by
  haveI:BdN v.p 1:=⟨by rw[zxh];exact hp⟩
  exact(tT (a:= .sat (bU v.p))).h zc
 have hk:¬v.k=1/\¬v.k=2/\¬v.k=3/\¬v.k=6:=zE
 obtain⟨h1,h2,h3,h6⟩:=hk;refine ah.fq func489 results489 ntmps489 fun _ _ _ _ _=>?_
 refine zg ?_;exact iw rfl
theorem asb(v:Vl)(g:Vl->Nat)(h:v.k=6)(hp:v.p=0)(hl:v.li.length<=1000000)(hg:∀x∈v.li,g x<=64000)(hx:∀x∈v.li,ah prog 489 [.agg (vlA x)] (.v (.int .i64 (g x:Int)))):
  ah prog 489 [.agg (vlA v)] (.v (.int .i64 (((v.li.map g).foldl max 0:Nat):Int))):=by
 have cO:ah prog 38 [.v (.int .u64 (v.p:Int))] (.r (bU (0:Int).natAbs)):=by rw[hp];exact anv 0 zc zc
 have cB:=bN0;rw[amD];refine ah.fq func489 results489 ntmps489 fun _ _ _ _ _=>?_
 refine zg ?_;refine W.nZ (fun k m=>k<=v.li.length/\m<=64000/\m=((v.li.take k).map g).foldl max 0) (fun k m=>[(3,.v (.int .i64 (m:Int))),(53,.r (aB 15 vlE v.li)),(54,.v (.int .i64 (v.li.length:Int))),(55,.v (.int .i64 (k:Int)))]) (fun _ _=>[]) (fun k _=>v.li.length - k) 0 0 ⟨zq8 _,zq8 _,rfl⟩ (fun k m ⟨hk,hm,hmm⟩=>?_)
 by_cases hlt:k < v.li.length
 ·obtain⟨x,hx'⟩:∃x,v.li[k]? =some x:=⟨_,zyh hlt⟩
  have c:=hx x (zq4 hx');have hgx:=hg x (zq4 hx');have e1:((v.li.take (k+1)).map g).foldl max 0=max m (g x):=by rw[zw7,hx',hmm];simp
  refine zg ?_;exact W.nM (k+1) (max m (g x)) ⟨hlt,zE,e1.symm⟩ zE
 ·obtain rfl:k=v.li.length:=zE
  rw[zy8]at hmm;refine zg ?_;refine iw ?_;rw[<-hmm]
theorem auK{v:Vl}{b:Nat}(hF:ah prog 65 [.agg (vlA v)] (.v (.bool true)))(h:ah prog 489 [.agg (vlA v)] (.v (.int .i64 (b:Int)))):ah prog 461 [.agg (vlA v)] (.v (.int .i64 (b:Int))):=by
 refine ah.fq func461 results461 ntmps461 fun _ _ _ _ _=>?_
 refine zg ?_;exact iw rfl
end
inductive fJ:List UInt8->List Wrd->Prop
 |nil {s:List UInt8} (h:s.drop (gp false s)=[]):fJ s []
 |cons {s t:List UInt8} {w:Wrd} {ws:List Wrd} (h:s.drop (gp false s)=w.2++t) (h1:fst (w.2++t)=⟨w.1,w.2,0⟩) (h2:w.1≠0) (h3:w.2≠[]) (k:fJ t ws):fJ s (w::ws)
theorem fJ.W{l s:List UInt8}{ws:List Wrd}(h:fJ s ws):∀k,l.drop k=s->(qQ l (k+gp false s)).2=none/\(qQ l (k+gp false s)).1.map kt=ws:=by
 induction h with
 | @nil s h=>
  intro k hk;have hl:l.length<=k+gp false s:=by
   rw[<-hk,List.drop_drop,hk]at h;exact List.drop_eq_nil_iff.1 h
  rw[qQ.eq_1,dif_pos hl];exact⟨rfl,rfl⟩
 | @cons s t w ws h h1 h2 h3 _ ih=>
  intro k hk;have hd:l.drop (k+gp false s)=w.2++t:=by rw[<-List.drop_drop,hk,h]
  have hd2:l.drop (k+gp false s+w.2.length)=t:=by rw[<-List.drop_drop,hd,List.drop_left' rfl]
  have ih:=ih _ hd2;have hw:w.2.length≠0:=by simpa using h3
  have hlen:=congrArg List.length hd;rw[zxe,zqi]at hlen;generalize k+gp false s=j at*;have hf:fst (l.drop j)=⟨w.1,w.2,0⟩:=by rw[hd];exact h1
  rw[qQ.eq_1,dif_neg zE,hf]
  rw[dif_neg (by
   rintro(h4|h4)
   ·exact h2 h4
   ·exact hw h4)]
  show ((qQ l (j+w.2.length+gp false (l.drop (j+w.2.length)))).2=none/\(kt ⟨w.1,w.2,j⟩::(qQ l (j+w.2.length+gp false (l.drop (j+w.2.length)))).1.map kt)=w::ws);rw[hd2];exact⟨ih.1,by rw[ih.2];rfl⟩
theorem fJ.R{l:List UInt8}{ws:List Wrd}(h:fJ l ws)(hl:l.length<=20000):∃ts,adC l=(ts,0,0)/\ts.map kt=ws/\ts.all jc=true:=by
 obtain⟨h1,h2⟩:=h.W 0 List.drop_zero;rw[zv7]at h1 h2;refine⟨(qQ l (gp false l)).1,?_,h2,(akz l _).2.1⟩;unfold adC;rw[if_neg zE,h1]
def NW(r:List UInt8):Prop:=r=[]\/∃c m,r=c::m/\wrd c=false
theorem gp_c{c:UInt8}{r:List UInt8}(h:srt c≠1)(h2:c.toNat≠35):gp false (c::r)=0:=by
 rw[gp,if_neg h,if_neg h2]
theorem fJ.sp{c:UInt8}{r:List UInt8}{ws:List Wrd}(hc:srt c=1)(h:fJ r ws):fJ (c::r) ws:=by
 have e:(c::r).drop (gp false (c::r))=r.drop (gp false r):=by
  rw[gp,if_pos hc,Nat.add_comm,List.drop_succ_cons]
 cases h with
 |nil h=>exact .nil (by rw[e];exact h)
 |cons h h1 h2 h3 k=>exact .cons (by rw[e];exact h) h1 h2 h3 k
theorem apg(l r:List UInt8)(h:l.all wrd=true)(hr:NW r):run (l++r)=l.length:=by
 have hr0:r.takeWhile wrd=[]:=by
  rcases hr with rfl|⟨c,m,rfl,hc⟩
  ·rfl
  ·rw[List.takeWhile_cons,hc];rfl
 unfold run;rw[List.takeWhile_append_of_pos (by simpa using h),hr0,zqb]
theorem fJ.num{w r:List UInt8}{ws:List Wrd}(hw:num w=true)(hr:NW r)(h:fJ r ws):fJ (w++r) ((1,w)::ws):=by
 obtain⟨h1,c,m,e,hc⟩:=acZ hw;have hg:gp false (w++r)=0:=by
  rw[e,List.cons_append];exact gp_c zE (by rw[srt2]at hc;omega)
 refine .cons (by rw[hg];rfl) ?_ (by decide:(1:Int)≠0) (by rw[e];simp) h
 show fst (w++r)=_;unfold fst;rw[apg w r h1 hr,List.take_left' rfl,if_pos hw]
theorem fJ.nam{w r:List UInt8}{ws:List Wrd}(hw:nam w=true)(hr:NW r)(h:fJ r ws):fJ (w++r) ((2,w)::ws):=by
 obtain⟨h1,c,m,e,hc⟩:=acH hw;have hg:gp false (w++r)=0:=by
  rw[e,List.cons_append];exact gp_c zE (by rw[srt3]at hc;omega)
 have hn:Go.Proofs.YthnkfhfcgjoieaaGreatDoor.num w=false:=by
  cases h2:Go.Proofs.YthnkfhfcgjoieaaGreatDoor.num w with
  |false=>rfl
  |true=>
   obtain⟨_,c',m',e',hc'⟩:=acZ h2;rw[e]at e';cases e';omega
 refine .cons (by rw[hg];rfl) ?_ (by decide:(2:Int)≠0) (by rw[e];simp) h
 show fst (w++r)=_;unfold fst;rw[apg w r h1 hr,List.take_left' rfl,hn,if_neg zc,if_pos hw]
def sgc(c:UInt8):Bool:=!wrd c&&sg1 [c]&&!decide (srt c=1)&&!decide (c.toNat=35)&&!decide (c=61)&&!decide (c=33)&&!decide (c=60)&&!decide (c=46)
theorem fJ.sg{c:UInt8}{r:List UInt8}{ws:List Wrd}(hc:sgc c=true)(h:fJ r ws):fJ (c::r) (Go.Proofs.YthnkfhfcgjoieaaGreatDoor.sg [c]::ws):=by
 unfold sgc at hc;simp only[zx4,Bool.not_eq_true',decide_eq_false_iff_not]at hc;obtain⟨⟨⟨⟨⟨⟨⟨h1,h2⟩,h3⟩,h4⟩,h5⟩,h6⟩,h7⟩,h8⟩:=hc;refine .cons (w:=Go.Proofs.YthnkfhfcgjoieaaGreatDoor.sg [c]) (t:=r) (by rw[gp_c h3 h4];rfl) ?_ (fun e=>by have e':(3:Int)=0:=e;omega) (fun e=>by cases e) h
 show fst (c::r)=_;have hr:run (c::r)=0:=by unfold run;rw[List.takeWhile_cons,h1];rfl
 have hn:Go.Proofs.YthnkfhfcgjoieaaGreatDoor.num []=false:=by unfold Go.Proofs.YthnkfhfcgjoieaaGreatDoor.num;rfl
 have hm:Go.Proofs.YthnkfhfcgjoieaaGreatDoor.nam []=false:=by unfold Go.Proofs.YthnkfhfcgjoieaaGreatDoor.nam;rfl
 unfold fst;rw[hr,List.take_zero,hn,if_neg zc,hm,if_neg zc,if_neg ?_,show (c::r).take 1=[c]from rfl,if_pos h2]
 rintro⟨_,h9⟩;have hh:∀d:UInt8,c≠d->∀e,(c::r).take 2≠[d,e]:=fun d hd e h=>by
  rw[List.take_succ_cons]at h;exact hd (List.cons.inj h).1
 rcases h9 with h9|h9|h9|h9
 ·exact hh _ h5 _ h9
 ·exact hh _ h6 _ h9
 ·exact hh _ h7 _ h9
 ·exact hh _ h8 _ h9
theorem qZ{x:Nat}(h:(aW x).length<=2000):num (aW x)=true:=by
 have hk:∀l:List UInt8,l.all isD=true->dgL l=true:=fun l hl=>by
  unfold dgL;rw[zqh]at*;intro c hc;have:=hl c hc;unfold isD at this;rw[decide_eq_true_iff,srt2];simpa using this
 unfold num;rw[zx4,decide_eq_true_iff];unfold aW at h ⊢;by_cases h0:x=0
 ·rw[if_pos h0];exact⟨⟨zc,zc,.inl rfl⟩,by unfold dgL;simp only[List.all_cons,List.all_nil,Bool.and_true,decide_eq_true_iff,srt2];decide⟩
 ·rw[if_neg h0]at h ⊢;obtain⟨f1,f2,f3⟩:=yh x;exact⟨⟨(f3 h0).2,h,.inr (f3 h0).1⟩,hk _ f1⟩
def LV(s:List UInt8)(ws:List Wrd):Prop:=∀r rw,NW r->fJ r rw->fJ (s++r) (ws++rw)
theorem ahB{c:UInt8}{r:List UInt8}(h:wrd c=false):NW (c::r):= .inr ⟨c,r,rfl,h⟩
theorem LV.num{w:List UInt8}(h:num w=true):LV w [(1,w)]:=fun r rw hr h2=>fJ.num h hr h2
theorem LV.sg{c:UInt8}{s:List UInt8}{ws:List Wrd}(hc:sgc c=true)(h:LV s ws):LV (c::s) (Go.Proofs.YthnkfhfcgjoieaaGreatDoor.sg [c]::ws):=fun r rw hr h2=>fJ.sg hc (h r rw hr h2)
theorem LV.nil:LV [] []:=fun r rw hr h2=>h2
theorem acj{c:UInt8}(h:sgc c=true):wrd c=false:=by
 unfold sgc at h;simp only[zx4,Bool.not_eq_true']at h;exact h.1.1.1.1.1.1.1
theorem LV.mid{c:UInt8}{s t:List UInt8}{us ws:List Wrd}(h1:LV s us)(hc:sgc c=true)(h:LV t ws):LV (s++c::t) (us++Go.Proofs.YthnkfhfcgjoieaaGreatDoor.sg [c]::ws):=fun r rw hr h2=>by
 have h3:=h1 (c::(t++r)) _ (ahB (acj hc)) (fJ.sg hc (h r rw hr h2));simpa using h3
theorem LV.midB{c:UInt8}{s t:List UInt8}{us ws:List Wrd}(h1:LV s us)(hc:sgc c=true)(h:LV t ws):LV (s++c::32::t) (us++Go.Proofs.YthnkfhfcgjoieaaGreatDoor.sg [c]::ws):=fun r rw hr h2=>by
 have h3:=h1 (c::32::(t++r)) _ (ahB (acj hc)) (fJ.sg hc (fJ.sp (by unfold srt;decide) (h r rw hr h2)))
 simpa using h3
theorem LV.nam{c:UInt8}{w t:List UInt8}{ws:List Wrd}(hw:nam w=true)(hc:sgc c=true)(h:LV t ws):LV (w++c::t) ((2,w)::Go.Proofs.YthnkfhfcgjoieaaGreatDoor.sg [c]::ws):=fun r rw hr h2=>by
 have h3:=fJ.nam hw (ahB (acj hc)) (fJ.sg hc (h r rw hr h2));simpa using h3
theorem LV.end{c:UInt8}{s:List UInt8}{us:List Wrd}(h1:LV s us)(hc:sgc c=true):LV (s++[c]) (us++[Go.Proofs.YthnkfhfcgjoieaaGreatDoor.sg [c]]):=LV.mid h1 hc LV.nil
theorem LV.jn{c:UInt8}(hc:sgc c=true):∀(l:List (List UInt8×List Wrd)),(∀x∈l,LV x.1 x.2)->LV (jn c (l.map (·.1))) (abq (Go.Proofs.YthnkfhfcgjoieaaGreatDoor.sg [c]) (l.map (·.2)))
 |[],_=>LV.nil
 |[x],h=>h x (zq9 ..)
 |x::y::l,h=>LV.midB (h x (zq9 ..)) hc (LV.jn hc (y::l) fun z hz=>h z (zy2 _ hz))
theorem gX:sgc 45=true/\sgc 47=true/\sgc 44=true/\sgc 59=true/\sgc 91=true/\sgc 93=true/\sgc 40=true/\sgc 41=true/\sgc 123=true/\sgc 125=true:=by
 refine⟨?_,?_,?_,?_,?_,?_,?_,?_,?_,?_⟩ <;> (unfold sgc wrd sg1 srt;decide)
theorem ag6:nam [122,101,114,111]=true/\nam [112,111,108,121]=true/\nam [109,111,100]=true:=by
 refine⟨?_,?_,?_⟩ <;> (unfold nam run wrd srt;decide)
theorem LV.zS{z:Int}(h:(aW z.natAbs).length<=2000):LV (zS z) (if z < 0 then [Go.Proofs.YthnkfhfcgjoieaaGreatDoor.sg [45],(1,aW z.natAbs)]else [(1,aW z.natAbs)]):=by
 unfold Go.Proofs.YthnkfhfcgjoieaaGreatDoor.zS
 split
 ·exact LV.sg gX.1 (LV.num (qZ h))
 ·exact LV.num (qZ h)
def PW(ws:List Wrd)(m:Nd):Prop:=∀(l:List Tok) f o r,agb r->(ws++r).length < f->o+2*dep m+1<=600->∀a,rst l a=ws++r->(lev 600 l f).1 a o= .ok m (a+ws.length)
abbrev WN:=List Wrd×Nd
abbrev jW(ks:List WN):List Wrd:=abq (sg [44]) (ks.map (·.1))
abbrev kN(ks:List WN):List Nd:=ks.map (·.2)
abbrev noE:List (List UInt8):=[[91],[94],[42],[47],[43],[45],[61,61],[33,61],[60],[60,61],[40],[44]]
theorem auU{e:List UInt8}(he:e∉noE)(r:List Wrd):agb (sg e::r):=sZ (fun h=>he (List.mem_append_left [[44]] h)) r
theorem afy{l:List Tok}{f o:Nat}{e:List UInt8}(he:e∉noE):∀(ks:List WN) (acc:List Nd) (g a:Nat) (r:List Wrd),ks≠[]->(∀k∈ks,PW k.1 k.2/\o+2*dep k.2+1<=600)->
  (jW ks++sg e::r).length < f->(jW ks++sg e::r).length < g+1->rst l a=jW ks++sg e::r->sJ l (lev 600 l f).1 e g acc a o= .ok (.mk 0 [] (acc++kN ks)) (a+(jW ks).length+1)
 |[],_,_,_,_,h,_,_,_,_=>absurd rfl h
 |[k],acc,g,a,r,_,hP,hf,hg,hr=>by
  obtain⟨h1,h2⟩:=hP k zp
  have hj:jW [k]=k.1:=rfl;rw[hj]at hf hg hr ⊢;rw[zqi,zx6]at hg;obtain⟨g,rfl⟩:∃k,g=k+1:=⟨g - 1,zE⟩
  unfold sJ;rw[h1 l f o _ (auU he r) hf h2 a hr];show (if isS l (a+k.1.length) e then _ else _)=_
  rw[dA,kI hr,if_pos (by simp[hS])];rfl
 |k::k2::ks,acc,g,a,r,_,hP,hf,hg,hr=>by
  obtain⟨h1,h2⟩:=hP k zp
  have hj:jW (k::k2::ks)=k.1++sg [44]::jW (k2::ks):=rfl;have hr':rst l a=k.1++sg [44]::(jW (k2::ks)++sg e::r):=by rw[hr,hj];simp
  have hlen:(k.1++sg [44]::(jW (k2::ks)++sg e::r)).length=(jW (k::k2::ks)++sg e::r).length:=by rw[hj];simp
  have hlen2:(jW (k::k2::ks)++sg e::r).length=k.1.length+1+(jW (k2::ks)++sg e::r).length:=by rw[hj];simp;omega
  obtain⟨g,rfl⟩:∃k,g=k+1:=⟨g - 1,zE⟩
  have he':agb (sg [44]::(jW (k2::ks)++sg e::r)):=sZ zc _
  unfold sJ;rw[h1 l f o _ he' (by rw[hlen];exact hf) h2 a hr']
  show (if isS l (a+k.1.length) e then _ else if isS l (a+k.1.length) [44]then _ else _)=_
  have hrr:=kI hr';have hne:e≠[44]:=fun h=>he (by rw[h];decide)
  rw[dA,hrr,if_neg (by simp[hS,Ne.symm hne]),dA,hrr,if_pos (by simp[hS])]
  rw[afy he (k2::ks) (acc++[k.2]) g (a+k.1.length+1) r zp (fun x hx=>hP x (by simp at hx ⊢;exact .inr hx)) zE zE (nY hrr)]
  rw[hj];simp;omega
def HD(ws:List Wrd)(e:List UInt8):Prop:=∃w r,ws=w::r/\∀r',hS (w::r') e=false
theorem ame{l:List Tok}{f o:Nat}{e:List UInt8}(he:e∉noE){ks:List WN}{a:Nat}{r:List Wrd}(hP:∀k∈ks,PW k.1 k.2/\o+2*dep k.2+1<=600/\HD k.1 e)
  (hf:(jW ks++sg e::r).length < f) (hr:rst l a=jW ks++sg e::r):kg l (lev 600 l f).1 e a o= .ok (.mk 0 [] (kN ks)) (a+(jW ks).length+1):=by
 unfold kg;cases ks with
 |nil=>
  have hr:rst l a=sg e::r:=hr;rw[dA,hr,if_pos (by simp[hS])];rfl
 |cons k ks=>
  have hh:∀r',hS (jW (k::ks)++r') e=false:=by
   intro r';obtain⟨w,u,hw,h1⟩:=(hP k zp).2.2
   cases ks with
   |nil=>rw[show jW [k]=k.1 from rfl,hw];exact h1 _
   |cons k2 ks=>rw[show jW (k::k2::ks)=k.1++sg [44]::jW (k2::ks)from rfl,hw];exact h1 _
  have hl:=aiN hr zp
  rw[dA,hr,if_neg (by rw[hh];decide),afy he (k::ks) [] (l.length+1) a r zp (fun x hx=>⟨(hP x hx).1,(hP x hx).2.1⟩) hf zE hr];rfl
theorem adD{l:List Tok}{f o:Nat}{e:List UInt8}(he:e=[59]\/e=[93])(rs:List Nd):∀(ks:List WN) (acc:List Nd) (g a:Nat) (r:List Wrd),ks≠[]->(∀k∈ks,PW k.1 k.2/\o+2*dep k.2+1<=600)->
  (jW ks++sg e::r).length < f->(jW ks++sg e::r).length < g+1->rst l a=jW ks++sg e::r->∃g',(sg e::r).length < g'+2/\
  rP l (lev 600 l f).1 g rs acc a o=if e=[59]then rP l (lev 600 l f).1 g' (rs++[.mk 15 [] (acc++kN ks)]) [] (a+(jW ks).length+1) o else .ok (.mk 14 [] (rs++[.mk 15 [] (acc++kN ks)])) (a+(jW ks).length+1)
 |[],_,_,_,_,h,_,_,_,_=>absurd rfl h
 |[k],acc,g,a,r,_,hP,hf,hg,hr=>by
  obtain⟨h1,h2⟩:=hP k zp
  have hj:jW [k]=k.1:=rfl;rw[hj]at hf hg hr ⊢;rw[zqi]at hg;have hgl:1<=(sg e::r).length:=by simp
  obtain⟨g,rfl⟩:∃k,g=k+1:=⟨g - 1,zE⟩
  refine⟨g,zE,?_⟩
  have he':agb (sg e::r):=sZ (by rcases he with rfl|rfl <;> decide) r
  rw[rP]
  dsimp only
  rw[h1 l f o _ he' hf h2 a hr];show (if isS l (a+k.1.length) [44]then _ else if isS l (a+k.1.length) [59]then _ else if isS l (a+k.1.length) [93]then _ else _)=_
  rw[dA,dA,dA,kI hr];rcases he with rfl|rfl
  ·rfl
  ·rfl
 |k::k2::ks,acc,g,a,r,_,hP,hf,hg,hr=>by
  obtain⟨h1,h2⟩:=hP k zp
  have hj:jW (k::k2::ks)=k.1++sg [44]::jW (k2::ks):=rfl;have hr':rst l a=k.1++sg [44]::(jW (k2::ks)++sg e::r):=by rw[hr,hj];simp
  have hlen:(k.1++sg [44]::(jW (k2::ks)++sg e::r)).length=(jW (k::k2::ks)++sg e::r).length:=by rw[hj];simp
  have hlen2:(jW (k::k2::ks)++sg e::r).length=k.1.length+1+(jW (k2::ks)++sg e::r).length:=by rw[hj];simp;omega
  obtain⟨g,rfl⟩:∃k,g=k+1:=⟨g - 1,zE⟩
  have he':agb (sg [44]::(jW (k2::ks)++sg e::r)):=sZ zc _
  have hrr:=kI hr';obtain⟨g',hg',ih⟩:=adD (f:=f) (o:=o) he rs (k2::ks) (acc++[k.2]) g (a+k.1.length+1) r zp (fun x hx=>hP x (by simp at hx ⊢;exact .inr hx)) zE zE (nY hrr)
  refine⟨g',hg',?_⟩;rw[rP]
  dsimp only
  rw[h1 l f o _ he' (by rw[hlen];exact hf) h2 a hr']
  show (if isS l (a+k.1.length) [44]then _ else _)=_
  rw[dA,hrr,if_pos (by rfl),ih]
  have e1:a+k.1.length+1+(jW (k2::ks)).length+1=a+(jW (k::k2::ks)).length+1:=by rw[hj];simp;omega
  rw[e1,zqj];rfl
abbrev jM(rs:List (List WN)):List Wrd:=abq (sg [59]) (rs.map jW)
abbrev kM(rs:List (List WN)):List Nd:=rs.map fun ks=> .mk 15 [] (kN ks)
theorem akj{l:List Tok}{f o:Nat}:∀(rs:List (List WN)) (acc:List Nd) (g a:Nat) (r:List Wrd),rs≠[]->(∀x∈rs,x≠[])->(∀x∈rs,∀k∈x,PW k.1 k.2/\o+2*dep k.2+1<=600)->
  (jM rs++sg [93]::r).length < f->(jM rs++sg [93]::r).length < g+1->rst l a=jM rs++sg [93]::r->
  rP l (lev 600 l f).1 g acc [] a o= .ok (.mk 14 [] (acc++kM rs)) (a+(jM rs).length+1)
 |[],_,_,_,_,h,_,_,_,_,_=>absurd rfl h
 |[x],acc,g,a,r,_,hx,hP,hf,hg,hr=>by
  have hj:jM [x]=jW x:=rfl;rw[hj]at hf hg hr ⊢;obtain⟨g',_,h1⟩:=adD (f:=f) (o:=o) (.inr rfl) acc x [] g a r (hx x zp) (hP x zp) hf hg hr
  rw[h1,if_neg zc];rfl
 |x::y::rs,acc,g,a,r,_,hx,hP,hf,hg,hr=>by
  have hj:jM (x::y::rs)=jW x++sg [59]::jM (y::rs):=rfl;have hr':rst l a=jW x++sg [59]::(jM (y::rs)++sg [93]::r):=by rw[hr,hj];simp
  have hlen:(jW x++sg [59]::(jM (y::rs)++sg [93]::r)).length=(jM (x::y::rs)++sg [93]::r).length:=by rw[hj];simp
  have hlen2:(jW x++sg [59]::(jM (y::rs)++sg [93]::r)).length=(jW x).length+1+(jM (y::rs)++sg [93]::r).length:=by simp;omega
  obtain⟨g',hg',h1⟩:=adD (f:=f) (o:=o) (.inl rfl) acc x [] g a _ (hx x zp) (hP x zp) (by rw[hlen];exact hf) (by rw[hlen];exact hg) hr'
  rw[zx6]at hg';rw[h1,if_pos rfl,zvd,akj (f:=f) (o:=o) (y::rs) (acc++[Nd.mk 15 [] (kN x)]) g' (a+(jW x).length+1) r zp (fun z hz=>hx z (by simp at hz ⊢;exact .inr hz)) (fun z hz=>hP z (by simp at hz ⊢;exact .inr hz)) zE zE (nY (kI hr'))]
  rw[hj];simp;omega
theorem PW.prim{w:Wrd}{u:List Wrd}{m:Nd}(hh:∀r,hS (w::r) [45]=false)
  (h:∀(l:List Tok) f o r,hS r [40]=false->(w::(u++r)).length < f+1->o+2*dep m+1<=600->∀a,rst l a=w::(u++r)->qM 600 l (lev 600 l f).1 a o= .ok m (a+(u.length+1))):PW (w::u) m:=fun l f o r hr hf ho a ha=>by
 have hpos:1<=(w::u++r).length:=by simp
 obtain⟨f,rfl⟩:∃k,f=k+1:=⟨f - 1,zE⟩
 show abR l (unG 600 l (lev 600 l f).1 (lev 600 l f).2) a o=_;have hend:=kI ha;have hp:=h l f o r (hr [40] zc) (by simpa using hf) ho a (by simpa using ha)
 have hlen:(w::u).length=u.length+1:=rfl;rw[hlen]at hend ⊢;exact ag7 (abd (abd (afD hp (by rw[ha];exact hh _) (by rw[hend];exact hr _ zc) (by rw[hend];exact hr _ zc)) (by rw[hend];exact hr _ zc) (by rw[hend];exact hr _ zc)) (by rw[hend];exact hr _ zc) (by rw[hend];exact hr _ zc)) (by rw[hend];exact hr _ zc) (by rw[hend];exact hr _ zc) (by rw[hend];exact hr _ zc) (by rw[hend];exact hr _ zc)
abbrev nmN(t:List UInt8):Nd:= .mk 1 t []
theorem PW.num(t:List UInt8):PW [(1,t)] (nmN t):=PW.prim (w:=(1,t)) (u:=[]) (fun r=>rfl) fun l f o r _ _ _ a ha=>by
 rw[rU (w:=(1,t)) (r:=r) ha,if_pos rfl];rfl
theorem PW.call{t:List UInt8}(ht:tx 2 t=true){ks:List WN}(hk:∀k∈ks,PW k.1 k.2/\HD k.1 [41]):PW ((2,t)::sg [40]::(jW ks++[sg [41]])) (.mk 13 t (kN ks)):=
 PW.prim (w:=(2,t)) (u:=sg [40]::(jW ks++[sg [41]])) (fun r=>by
  show (!decide ((2:Int)=1)&&decide (t=[45]))=false;simp[at7 ht (c:=45) (m:=[]) zc]) fun l f o r hr hf ho a h=>by
 have h:rst l a=(2,t)::sg [40]::(jW ks++sg [41]::r):=by rw[h];simp
 have hf:((2,t)::sg [40]::(jW ks++sg [41]::r)).length < f+1:=by simpa using hf
 rw[rU h,if_neg (show¬(2:Int)=1 by decide),agX ht,if_pos rfl,if_pos (by rfl)]
 have hL:=ame (l:=l) (f:=f) (o:=o+1) (e:=[41]) zc (ks:=ks) (a:=a+2) (r:=r) (fun k hkm=>⟨(hk k hkm).1,by have:=adx (o:=13) (t:=t) (show k.2∈kN ks from List.mem_map_of_mem hkm);omega,(hk k hkm).2⟩) (by simp only[zx6]at hf;omega) (nY (nY h))
 refine aiy zE ?_
 show jm _ (kg l (lev 600 l f).1 [41] (a+2) (o+1))=_;rw[hL];show Res.ok _ _=_
 congr 1;simp;omega
theorem PW.mat{rs:List (List WN)}(h0:rs≠[])(hx:∀x∈rs,x≠[])(hk:∀x∈rs,∀k∈x,PW k.1 k.2):PW (sg [91]::(jM rs++[sg [93]])) (.mk 14 [] (kM rs)):=
 PW.prim (w:=sg [91]) (u:=jM rs++[sg [93]]) (fun r=>rfl) fun l f o r hr hf ho a h=>by
 have h:rst l a=sg [91]::(jM rs++sg [93]::r):=by rw[h];simp
 have hf:(sg [91]::(jM rs++sg [93]::r)).length < f+1:=by simpa using hf
 rw[rU h,if_neg zc,if_neg (by simp[hN]),if_neg (by simp[hS]),if_pos (by rfl)]
 rw[zx6]at hf;have hl:=aiN h zp
 rw[zx6]at hl;have hL:=akj (l:=l) (f:=f) (o:=o+1) rs [] (l.length+1) (a+1) r h0 hx (fun x hx k hkx=>by
  have d1:=adx (o:=15) (t:=[]) (show k.2∈kN x from List.mem_map_of_mem hkx)
  have d2:=adx (o:=14) (t:=[]) (k:= .mk 15 [] (kN x)) (ks:=kM rs) (zqg.2 ⟨x,hx,rfl⟩);exact⟨hk x hx k hkx,zE⟩) zE zE (nY h)
 refine aiy zE ?_
 rw[hL];show Res.ok _ _=_
 congr 1;simp;omega
theorem ahh{l:List Tok}{f o a:Nat}{t:List UInt8}{r:List Wrd}(h:rst l a=(1,t)::r)(h1:hS r [91]=false)(h2:hS r [94]=false)(U:Gr):unG 600 l (lev 600 l f).1 U a o= .ok (nmN t) (a+1):=by
 refine afD (by rw[rU (w:=(1,t)) (r:=r) h,if_pos rfl]) (by rw[h];rfl) ?_ ?_
 ·rw[nY h];exact h1
 ·rw[nY h];exact h2
theorem au3{l:List Tok}{f o a:Nat}{t:List UInt8}{r:List Wrd}(h:rst l a=sg [45]::(1,t)::r)(h1:hS r [91]=false)(h2:hS r [94]=false)(ho:o+1<=600)(hf:1<=f):unG 600 l (lev 600 l f).1 (lev 600 l f).2 a o= .ok (.mk 3 [] [nmN t]) (a+2):=by
 obtain⟨f,rfl⟩:∃k,f=k+1:=⟨f - 1,zE⟩
 unfold unG;rw[dA,h,if_pos (by rfl)]
 refine aiy ho ?_;show jm _ (unG 600 l (lev 600 l f).1 (lev 600 l f).2 (a+1) (o+1))=_;rw[ahh (nY h) h1 h2];rfl
def zWd(z:Int):List Wrd:=if z < 0 then [sg [45],(1,aW z.natAbs)]else [(1,aW z.natAbs)]
def zNd(z:Int):Nd:=if z < 0 then .mk 3 [] [nmN (aW z.natAbs)]else nmN (aW z.natAbs)
theorem un_z{l:List Tok}{f o a:Nat}{z:Int}{r:List Wrd}(h:rst l a=zWd z++r)(h1:hS r [91]=false)(h2:hS r [94]=false)(ho:o+1<=600)(hf:1<=f):unG 600 l (lev 600 l f).1 (lev 600 l f).2 a o= .ok (zNd z) (a+(zWd z).length):=by
 unfold zWd at h ⊢;unfold zNd
 split at h
 ·rename_i hz;rw[if_pos hz,if_pos hz];exact au3 h h1 h2 ho hf
 ·rename_i hz;rw[if_neg hz,if_neg hz];exact ahh h h1 h2 _
theorem PW.z(z:Int):PW (zWd z) (zNd z):=fun l f o r hr hf ho a ha=>by
 have hpos:1<=(zWd z).length:=by unfold zWd;split <;> simp
 rw[zqi]at hf;obtain⟨f,rfl⟩:∃k,f=k+1:=⟨f - 1,zE⟩
 show abR l (unG 600 l (lev 600 l f).1 (lev 600 l f).2) a o=_;have hend:=kI ha;exact ag7 (abd (abd (un_z ha (hr _ zc) (hr _ zc) zE zE) (by rw[hend];exact hr _ zc) (by rw[hend];exact hr _ zc)) (by rw[hend];exact hr _ zc) (by rw[hend];exact hr _ zc)) (by rw[hend];exact hr _ zc) (by rw[hend];exact hr _ zc) (by rw[hend];exact hr _ zc) (by rw[hend];exact hr _ zc)
theorem PW.frac(z:Int)(t:List UInt8):PW (zWd z++sg [47]::[(1,t)]) (.mk 7 [] [zNd z,nmN t]):=fun l f o r hr hf ho a ha=>by
 have hpos:1<=(zWd z).length:=by unfold zWd;split <;> simp
 rw[zqi,zqi]at hf;obtain⟨f,rfl⟩:∃k,f=k+1:=⟨f - 1,zE⟩
 show abR l (unG 600 l (lev 600 l f).1 (lev 600 l f).2) a o=_;have ha:rst l a=zWd z++(sg [47]::((1,t)::r)):=by rw[ha];simp
 have e1:=kI ha;have e2:=nY e1;have e3:=nY e2;have u1:=un_z (f:=f) (o:=o) ha rfl rfl zE zE
 have u2:=ahh (f:=f) (o:=o) e2 (hr _ zc) (hr _ zc) (lev 600 l f).2
 have hc:=apD (l:=l) (s1:=[42]) (s2:=[47]) (x:=6) (y:=7) u1 (by rw[e1];rfl) (by rw[e1];rfl) u2 (by rw[e3];exact hr _ zc) (by rw[e3];exact hr _ zc)
 have hfin:a+(zWd z).length+1+1=a+(zWd z++sg [47]::[(1,t)]).length:=by simp;omega
 rw[<-hfin];exact ag7 (abd hc (by rw[e3];exact hr _ zc) (by rw[e3];exact hr _ zc)) (by rw[e3];exact hr _ zc) (by rw[e3];exact hr _ zc) (by rw[e3];exact hr _ zc) (by rw[e3];exact hr _ zc)
theorem aeN{t s:List UInt8}(h:tx 2 t=true)(hs:ownB s=true):t≠s:=fun e=>by
 have:=apo h;rw[e,hs]at this;cases this
theorem aeQ{t s:List UInt8}(h:tx 2 t=true)(hs:ownB s=true)(r:List Wrd):hS ((2,t)::r) s=false:=by
 show (!decide ((2:Int)=1)&&decide (t=s))=false;simp[aeN h hs]
def SW(ws:List Wrd)(n:Nd):Prop:=∀(l:List Tok) (a:Nat) (r:List Wrd),rst l a=ws++r->agV 600 l (l.length+1) a 0= .ok n (a+ws.length)
def HX(ws:List Wrd):Prop:=∀r,hS (ws++sg [59]::r) [105,102]=false/\hS (ws++sg [59]::r) [102,111,114]=false/\(hN (ws++sg [59]::r)&&hS ((ws++sg [59]::r).drop 1) [61])=false
theorem aja{l:List Tok}{a:Nat}{u:List Wrd}(h:rst l a=u):u.length<=l.length:=by
 rw[<-h];unfold rst;rw[zxe,zq5];omega
theorem SW.show{ws:List Wrd}{m:Nd}(h:PW ws m)(hd:dep m<=200)(hx:HX ws):SW (ws++[sg [59]]) (.mk 19 [] [m]):=fun l a r hr=>by
 have hr:rst l a=ws++sg [59]::r:=by rw[hr];simp
 obtain⟨h1,h2,h3⟩:=hx r;have hle:=aja hr;have he:agb (sg [59]::r):=sZ zc r
 have hm:=h l (l.length+1) 0 (sg [59]::r) he zE zE a hr
 have hend:=kI hr;show stG l (lev 600 l (l.length+1)).1 _ a 0=_;have h31:(nO l a&&isS l (a+1) [61])=false:=by
  rw[abw,dA,hr,<-h3];unfold rst at hr ⊢;rw[<-List.drop_drop,hr]
 unfold stG;rw[dA,hr,h1,if_neg zc,dA,hr,h2,if_neg zc,h31,if_neg zc,hm]
 show (if isS l (a+ws.length) [59]then _ else _)=_
 rw[dA,hend,if_pos (by rfl)]
 congr 1;simp;omega
theorem SW.set{t:List UInt8}{ws:List Wrd}{m:Nd}(ht:tx 2 t=true)(h:PW ws m)(hd:dep m<=200):SW ((2,t)::sg [61]::(ws++[sg [59]])) (.mk 18 t [m]):=fun l a r hr=>by
 have hr:rst l a=(2,t)::sg [61]::(ws++sg [59]::r):=by rw[hr];simp
 have hle:=aja hr;have he:agb (sg [59]::r):=sZ zc r
 have r1:=nY hr;have r2:=nY r1;rw[zx6,zx6]at hle;have hm:=h l (l.length+1) 0 (sg [59]::r) he zE zE (a+1+1) r2
 have hend:=kI r2;have n1:hS ((2,t)::sg [61]::(ws++sg [59]::r)) [105,102]=false:=aeQ ht (by rfl) _
 have n2:hS ((2,t)::sg [61]::(ws++sg [59]::r)) [102,111,114]=false:=aeQ ht (by rfl) _
 have h31:(nO l a&&isS l (a+1) [61])=true:=by
  rw[abw,dA,hr,r1,agX ht];rfl
 show stG l (lev 600 l (l.length+1)).1 _ a 0=_;unfold stG;rw[dA,hr,n1,if_neg zc,dA,hr,n2,if_neg zc,h31,if_pos rfl,asE hr,hm]
 show (if isS l (a+1+1+ws.length) [59]then _ else _)=_
 rw[dA,hend,if_pos (by rfl)]
 congr 1;simp;omega
theorem agr{l:List Tok}:∀(ks:List WN) (acc:List Nd) (g a:Nat),(∀k∈ks,SW k.1 k.2/\1<=k.1.length)->
  ks.length < g->rst l a=(ks.map (·.1)).flatten->a+(ks.map (·.1)).flatten.length=l.length->vM l (agV 600 l (l.length+1)) g acc a 0= .ok (.mk 0 [] (acc++kN ks)) l.length
 |[],acc,g,a,hk,hg,h,hl=>by
  obtain⟨g,rfl⟩:∃k,g=k+1:=⟨g - 1,by simp at hg;omega⟩
  have hl:a=l.length:=by simpa using hl
  rw[vM]
  dsimp only
  rw[if_neg zE,hl];simp
 |k::ks,acc,g,a,hk,hg,h,hl=>by
  rw[zx6]at hg;obtain⟨g,rfl⟩:∃k,g=k+1:=⟨g - 1,zE⟩
  obtain⟨k3,hp⟩:=hk k zp
  have h:rst l a=k.1++(ks.map (·.1)).flatten:=by rw[h];simp
  rw[zy6,List.flatten_cons,zqi]at hl;rw[vM]
  dsimp only
  rw[if_pos zE,k3 l a _ h]
  dsimp only
  rw[agr ks (acc++[k.2]) g (a+k.1.length) (fun x hx=>hk x (by simp[hx])) zE (kI h) zE]
  simp
theorem afp:∀{ks:List WN},(∀k∈ks,1<=k.1.length)->ks.length<=(ks.map (·.1)).flatten.length
 |[],_=>by simp
 |k::ks,h=>by
  have:=h k zp
  have:=afp (ks:=ks) fun x hx=>h x (by simp[hx])
  simp only[zy6,List.flatten_cons,zqi,zx6];omega
theorem afG{l:List Tok}{ks:List WN}(hw:l.map kt=(ks.map (·.1)).flatten)(ht:l.all jc=true)(hk:∀k∈ks,SW k.1 k.2/\1<=k.1.length)(hd:kY (kN ks)<=200):uP l 200=(kN ks,0,0):=by
 have hlen:l.length=(ks.map (·.1)).flatten.length:=by rw[<-zq5 (f:=kt),hw]
 have hg:=afp fun k hkm=>(hk k hkm).2
 have h0:rst l 0=(ks.map (·.1)).flatten:=by unfold rst;rw[List.drop_zero,hw]
 have hp:afO l= .ok (.mk 0 [] (kN ks)) l.length:=by
  unfold afO;rw[agr ks [] (l.length+1) 0 hk zE h0 zE]
  simp
 unfold uP;rw[if_neg zE,ht,if_pos rfl,hp]
 show akS (kN ks) 200=_;unfold akS;rw[if_neg zE]
theorem fJ.len{s:List UInt8}{ws:List Wrd}(h:fJ s ws):ws.length<=s.length/\∀w∈ws,w.2.length<=s.length:=by
 induction h with
 |nil h=>exact⟨zq8 _,by simp⟩
 | @cons s t w ws h h1 h2 h3 _ ih=>
  have hl:=congrArg List.length h;rw[zxe,zqi]at hl;have hw:w.2.length≠0:=by simpa using h3
  refine⟨by rw[zx6];omega,fun x hx=>?_⟩
  rcases zy3.1 hx with rfl|hx
  ·omega
  ·have:=ih.2 x hx;omega
theorem ahQ{s:List UInt8}{ks:List WN}(hs:fJ s (ks.map (·.1)).flatten)(hl:s.length<=20000)(hk:∀k∈ks,SW k.1 k.2/\1<=k.1.length)(hd:kY (kN ks)<=200):∃ts,adC s=(ts,0,0)/\(ts.length<=1000000/\∀t∈ts,t.text.length<=9223372036854775807)/\uP ts 200=(kN ks,0,0):=by
 obtain⟨ts,h1,h2,h3⟩:=hs.R hl;have hb:=hs.len;refine⟨ts,h1,⟨?_,fun t ht=>?_⟩,afG h2 h3 hk hd⟩
 ·have:=hb.1;rw[<-h2,zq5]at this;omega
 ·have:=hb.2 (kt t) (h2▸List.mem_map_of_mem ht);have e:(kt t).2=t.text:=rfl;rw[e]at this;omega
theorem aj9{α:Type}{f:α->Nat}:∀{l:List α} {x:α},x∈l->f x<=(l.map f).sum
 |y::l,x,h=>by
  rw[zy6,List.sum_cons];rcases zy3.1 h with rfl|h
  ·omega
  ·have:=aj9 (f:=f) h;omega
theorem qg{α:Type}{f g:α->Nat}:∀{l:List α},(∀x∈l,f x<=g x)->(l.map f).sum<=(l.map g).sum
 |[],_=>zq6 _
 |x::l,h=>by
  rw[zy6,zy6,List.sum_cons,List.sum_cons];have h1:=h x zq9;have h2:=qg (l:=l) fun y hy=>h y (zy2 _ hy)
  omega
theorem zf(s:UInt8):∀l:List (List UInt8),(l.map List.length).sum<=(jn s l).length
 |[]=>zq6 _
 |[a]=>by simp[jn]
 |a::b::l=>by
  have:=zf s (b::l);rw[zy6,List.sum_cons];show a.length+((b::l).map List.length).sum<=(a++(s::32::jn s (b::l))).length;rw[zqi,zx6,zx6];omega
theorem ajd{l:List (List UInt8)}(h:∀x∈l,1<=x.length):l.length<=(l.map List.length).sum:=by
 have h2:=qg (f:=fun _=>1) (g:=List.length) (l:=l) h
 have e:(l.map fun _=>1).sum=l.length:=by
  clear h h2
  induction l with
  |nil=>rfl
  |cons a l ih=>rw[zy6,List.sum_cons,ih,zx6];omega
 omega
theorem agN{c:Nat}:∀{r:Nat} {l:List (List UInt8)},l.length=r*c->(∀x∈l,1<=x.length)->r*c<=(((chk c r l).map (jn 44)).map List.length).sum
 |0,l,_,_=>by rw[zw3];exact zq8 _
 |r+1,l,hl,h=>by
  rw[zv8]at hl ⊢;show _<=(((l.take c::chk c r (l.drop c)).map (jn 44)).map List.length).sum;rw[zy6,zy6,List.sum_cons];have h1:=agN (c:=c) (r:=r) (l:=l.drop c) (by rw[zxe];omega) (fun x hx=>h x (zw9 hx))
  have h2:=zf 44 (l.take c);have h3:=ajd (l:=l.take c) fun x hx=>h x (zv3 hx)
  rw[zx3]at h3;omega
theorem ape{r c:Nat}{l:List (List UInt8)}(hl:l.length=r*c)(h:∀x∈l,1<=x.length):l.length<=(tbS r c l).length:=by
 unfold tbS
 split
 ·next h0=>
  have:r*c=0:=by rcases h0 with rfl|rfl <;> simp
  omega
 ·have h1:=agN hl h;have h2:=zf 59 ((chk c r l).map (jn 44));rw[zx6,zqi];omega
theorem amS{l:List (List UInt8)}(h:∀x∈l,1<=x.length):l.length<=(plS l).length:=by
 have h1:=zf 44 l;have h2:=ajd h;unfold plS;rw[zqi,zqi];omega
theorem aq3(s:List UInt8)(p:Nat):s.length<=(mdS s p).length:=by
 unfold mdS;rw[zqi,zqi];omega
theorem ne1{l:List UInt8}{c:UInt8}{m:List UInt8}(h:l=c::m):1<=l.length:=by rw[h];simp
theorem qS_1(x:Rat):1<=(qS x).length:=by obtain⟨c,m,h,_⟩:=qS_ne x;exact ne1 h
theorem zS_1(x:Int):1<=(zS x).length:=by obtain⟨c,m,h,_⟩:=asO x;exact ne1 h
theorem ahx(x:Nat):1<=(aW x).length:=by obtain⟨c,m,h,_⟩:=aiA x;exact ne1 h
theorem afV{α:Type}{f:α->List UInt8}{l:List α}(h:∀x,1<=(f x).length):∀y∈l.map f,1<=y.length:=fun y hy=>by
 obtain⟨x,_,rfl⟩:=zqg.1 hy;exact h x
theorem auD{l:List Vl}{x:Vl}(h:x∈l):(tS x).length+2<=(tS (dz l)).length:=by
 rw[aoD,zx6,zqi];have h1:=zf 44 (l.map tS);have h2:=aj9 (f:=List.length) (List.mem_map_of_mem (f:=tS) h);have e:([125]:List UInt8).length=1:=rfl;omega
structure IV(d b s:Nat)(v:Vl):Prop where
 n:ah prog 460 [.agg (vlA v)] (.v (.int .i64 (d:Int)))
 b:ah prog 489 [.agg (vlA v)] (.v (.int .i64 (b:Int)))
 s:ah prog 462 [.agg (vlA v)] (.v (.int .i64 (s:Int)))
theorem IV.of{K n:Nat}{v:Vl}(h:Cv K n v)(hK:K<=100)(hn:n<=15):(tS v).length<=100000->∃d b s:Nat,d<=n/\b<=64000/\s<=(tS v).length/\IV d b s v:=by
 induction h with
 | @one n v h=>
  intro hl;cases h with
  |num x h=>
   have hq:=aiz h;refine⟨0,qB x,1,zq8 _,zE,by rw[air];exact qS_1 x,lV _ (fun h=>by have h':(1:Int)=6:=h;omega),akH h zE,?_⟩
   exact ac5 (bW x) (fun _=>0) ⟨fun h=>by have h':(1:Int)=2:=h;omega,fun h=>by have h':(1:Int)=3:=h;omega,fun h=>by have h':(1:Int)=4:=h;omega,fun h=>by have h':(1:Int)=5:=h;omega⟩ (zqc rfl) (zqc rfl) (fun x hx=>by cases hx)
  |mat r c vs hvl hr hc h=>
   have hrc:=zxd hr hc;have e:((iJ r c vs).a).length=vs.length:=zq5 _;refine⟨0,_,vs.length,zq8 _,abb (fun x hx=>?_) (zq8 _),?_,lV _ (fun h=>by have h':(2:Int)=6:=h;omega),akI h zE zE,?_⟩
   ·obtain⟨y,hy,rfl⟩:=zqg.1 hx;have:=aiz (h y hy);omega
   ·rw[uG];have:=ape (r:=r) (c:=c) (l:=vs.map qS) (by rw[zq5];exact hvl) (afV qS_1)
    rwa [zq5]at this
   ·have:=ams (iJ r c vs) rfl (by rw[e];omega)
    rwa [e]at this
  |pol zs hzl hpn h=>
   have e:((uS zs).po).length=zs.length:=zq5 _;refine⟨0,_,zs.length,zq8 _,abb (fun x hx=>?_) (zq8 _),?_,lV _ (fun h=>by have h':(3:Int)=6:=h;omega),akP h zE hzl,?_⟩
   ·obtain⟨y,hy,rfl⟩:=zqg.1 hx;have:=sS (h y hy);omega
   ·rw[au1];have:=amS (l:=zs.map zS) (afV zS_1)
    rwa [zq5]at this
   ·have:=alv (uS zs) rfl (by rw[e];omega)
    rwa [e]at this
  |fld p r c l hp hll hr hc h=>
   have hrc:=zxd hr hc;have hpl:=hp.lt;have hpW:p < WB:=by rw[dn];omega
   refine⟨0,bitLen p,l.length,zq8 _,?_,?_,lV _ (fun h=>by have h':(4:Int)=6:=h;omega),akf (uF p r c l) (.inl rfl) hpW,alK (uF p r c l) rfl (show l.length<=1000000 by omega)⟩
   ·have:=sS (k:=1) (by rw[zxh];exact hpW);omega
   ·rw[au5];have:=ape (r:=r) (c:=c) (l:=l.map aW) (by rw[zq5];exact hll) (afV ahx)
    rw[zq5]at this;exact zxf this (aq3 _ _)
  |rng p l hp hll hwn h=>
   have hpl:=hp.lt;have hpW:p < WB:=by rw[dn];omega
   refine⟨0,bitLen p,l.length,zq8 _,?_,?_,lV _ (fun h=>by have h':(5:Int)=6:=h;omega),akf (wM p l) (.inr rfl) hpW,amv (wM p l) rfl (show l.length<=1000000 by omega)⟩
   ·have:=sS (k:=1) (by rw[zxh];exact hpW);omega
   ·rw[aup];have:=amS (l:=l.map aW) (afV ahx);rw[zq5]at this;exact zxf this (aq3 _ _)
 | @lst n l hll h ih=>
  intro hl;obtain⟨g,hg⟩:=aeR (β:=Nat×Nat×Nat) (P:=fun x t=>t.1<=n/\t.2.1<=64000/\t.2.2<=(tS x).length/\IV t.1 t.2.1 t.2.2 x) (l:=l) (fun x hx=>by
   have hm:=auD hx;obtain⟨d,b,s,h1,h2,h3,h4⟩:=ih x hx zE zE
   exact⟨(d,b,s),h1,h2,h3,h4⟩)
  have hs:(l.map fun x=>(g x).2.2).sum+2<=(tS (dz l)).length:=by
   rw[aoD,zx6,zqi];have h1:=zf 44 (l.map tS);have h2:=qg (f:=fun x=>(g x).2.2) (g:=fun x=>(tS x).length) (l:=l) (fun x hx=>(hg x hx).2.2.1)
   rw[zv4]at h1;have h3:(l.map (List.length ∘ tS)).sum=(l.map fun x=>(tS x).length).sum:=rfl
   have e:([125]:List UInt8).length=1:=rfl;omega
  refine⟨1+(l.map fun x=>(g x).1).foldl max 0,(l.map fun x=>(g x).2.1).foldl max 0,1+(l.map fun x=>(g x).2.2).sum,?_,?_,zE,?_,?_,?_⟩
  ·have:=abb (B:=n) (l:=l.map fun x=>(g x).1) (b:=0) (fun y hy=>by obtain⟨x,hx,rfl⟩:=zqg.1 hy;exact(hg x hx).1) (zq8 _)
   omega
  ·exact abb (fun y hy=>by obtain⟨x,hx,rfl⟩:=zqg.1 hy;exact(hg x hx).2.1) (zq8 _)
  ·exact afI (dz l) (fun x=>(g x).1) rfl (show l.length<=1000000 by omega) (fun x hx=>by have:=(hg x hx).1;omega) (fun x hx=>(hg x hx).2.2.2.n)
  ·exact asb (dz l) (fun x=>(g x).2.1) rfl rfl (show l.length<=1000000 by omega) (fun x hx=>(hg x hx).2.1) (fun x hx=>(hg x hx).2.2.2.b)
  ·exact ac5 (dz l) (fun x=>(g x).2.2) ⟨fun h=>by have h':(6:Int)=2:=h;omega,fun h=>by have h':(6:Int)=3:=h;omega,fun h=>by have h':(6:Int)=4:=h;omega,fun h=>by have h':(6:Int)=5:=h;omega⟩ (show (l.map fun x=>(g x).2.2).sum<=1000000 by omega) (show l.length<=1000000 by omega) (fun x hx=>(hg x hx).2.2.2.s)
theorem VI.of{K n B:Nat}{v:Vl}(h:Cv K n v)(hK:K<=100)(hn:n<=15)(hl:(tS v).length<=100000)(hB:64000<=B):∃s:Nat,s<=(tS v).length/\VI B s v:=by
 obtain⟨d,b,s,h1,h2,h3,h4⟩:=IV.of h hK hn hl;exact⟨s,h3,⟨d,zE,h4.n⟩,⟨b,zE,auK (h.F zE hn) h4.b⟩,h4.s⟩
section
theorem lH{x k:Nat}(h:x < WB ^ k):(aW x).length<=20*k+1:=by
 unfold aW
 split
 ·simp
 ·have:WB ^ k<=10 ^ (20*k):=by rw[Nat.pow_mul];exact Nat.pow_le_pow_left (by rw[dn];decide) _
  have:=ad7 (zqf h this);omega
attribute [local irreducible] bK bO bM bS bN qv bZ mf PrP qOk zOk vP dx lz vF cq rqv dI aX bG aV dN jn sq aW qS zS tS tbS plS mdS zmd fT jw nmC qB
theorem apn{v n:Vl}{e:Int}(hF:ah prog 65 [.agg (vlA v)] (.v (.bool true)))(h:ah prog 490 [.agg (vlA v)] (.tup [.agg (vlA n),eNo e])):
  ah prog 464 [.v (.int .i64 3),.agg (vlA v)] (.tup [.agg (vlA n),eNo e]):=by
 refine ah.fq func464 results464 ntmps464 fun _ _ _ _ _=>?_
 refine zg ?_;exact .ok (aA.mk2 ak.gL (ak.tmp rfl))
theorem AL.one{B:Nat}{nm:Nms}{m:Nd}{k:Nat}{v:Vl}(h:EX B nm m k v):AL B nm [m] k [v]:=by
 have:=aoS B nm [m] [k] [v] rfl rfl (zqc rfl) (fun i n k' v' h1 h2 h3=>by
  match i,h1,h2,h3 with
  |0,h1,h2,h3=>cases h1;cases h2;cases h3;exact h)
 simpa using this
theorem AL.two{B:Nat}{nm:Nms}{m m':Nd}{k k':Nat}{v v':Vl}(h:EX B nm m k v)(h':EX B nm m' k' v'):AL B nm [m,m'] (k+k') [v,v']:=by
 have:=aoS B nm [m,m'] [k,k'] [v,v'] rfl rfl (zqc rfl) (fun i n k1 v1 h1 h2 h3=>by
  match i,h1,h2,h3 with
  |0,h1,h2,h3=>cases h1;cases h2;cases h3;exact h
  |1,h1,h2,h3=>cases h1;cases h2;cases h3;exact h')
 simpa using this
section
variable{B K:Nat}(hB:64000<=B)(hB0:B<=1000000000)(h1:1<=K)(hK:K<=90)
include hB hB0 h1 hK
omit hB0 in
theorem VI.num{x:Rat}(hx:RB x K):∃s:Nat,s<=(qS x).length/\VI B s (bW x):=by
 have hl:(tS (bW x)).length<=100000:=by
  rw[air,zx];have d1:=lH hx.n;have d2:=lH hx.d;have z1:(zS x.num).length<=(aW x.num.natAbs).length+1:=by unfold zS;split <;> simp
  have z2:(zS (x.den:Int)).length=(aW x.den).length:=by rw[aav]
  split
  ·omega
  ·rw[zqi,zx6];omega
 have h:=VI.of (B:=B) (Cv.one (n:=0) (.num x hx)) zE zE hl hB
 rwa [air]at h
theorem aex{x:Nat}(hx:x < WB ^ K):∃k:Nat,k<=2*(aW x).length/\∀nm,EX B nm (nmN (aW x)) k (vI x):=by
 have hb:((x:Nat):Int).natAbs < WB ^ K:=hx;have hd:=lH hx;obtain⟨s,hs,hv⟩:=VI.num hB h1 hK (RB.ofI hb h1);have e:qS ((x:Int):Rat)=aW x:=by rw[zx,if_pos (Rat.den_intCast _),Rat.num_intCast,aav]
 rw[e]at hs;have hp:=ahx x;have cZ:=ahU (aW x) zE
 have hz:=apj (z:=(x:Int)) (k:=K) ⟨hb⟩ zE
 rw[aav]at hz;rw[hz.1,hz.2]at cZ;have cW:ah prog 6 [.agg (zN (x:Int))] (.agg (vlA (vI x))):=dY (q:=z2v (x:Int)) (ZQ.made hb) h1 zE
 exact⟨s+1,zE,fun nm=>EX.num hB0 (n:=nmN (aW x)) rfl cZ cW hv⟩
theorem atM{z:Int}(hz:z.natAbs < WB ^ K):∃k:Nat,k<=3*(zS z).length/\∀nm,EX B nm (zNd z) k (vI z):=by
 obtain⟨k,hk,hE⟩:=aex hB hB0 h1 hK hz;by_cases h:z < 0
 ·have e1:zNd z= .mk 3 [] [nmN (aW z.natAbs)]:=by unfold zNd;rw[if_pos h]
  have e2:zS z=45::aW z.natAbs:=by unfold zS;rw[if_pos h]
  have e3:(z:Rat)= -(((z.natAbs:Nat):Int):Rat):=by
   rw[<-Rat.intCast_neg];congr 1;omega
  have hb:(((z.natAbs:Nat):Int)).natAbs < WB ^ K:=by simpa using hz
  obtain⟨s,hs,hv⟩:=VI.num hB h1 hK (RB.ofI hz h1);have e4:qS (z:Rat)=zS z:=by rw[zx,if_pos (Rat.den_intCast _),Rat.num_intCast]
  rw[e4]at hs;have cN:=apn (kS hb h1 zE) (aot (RB.ofI hb h1) zE)
  have e5:bW (-(((z.natAbs:Nat):Int):Rat))=vI z:=by rw[<-e3]
  rw[e5]at cN;refine⟨s+k+1,by rw[e2]at hs ⊢;rw[zx6]at*;omega,fun nm=>?_⟩
  rw[e1];exact EX.opr hB0 (n:= .mk 3 [] [nmN (aW z.natAbs)]) ⟨fun h=>by have h':(3:Int)=1:=h;omega,fun h=>by have h':(3:Int)=2:=h;omega,fun h=>by have h':(3:Int)=14:=h;omega⟩ (AL.one (hE nm)) (apC rfl cN) hv
 ·have e1:zNd z=nmN (aW z.natAbs):=by unfold zNd;rw[if_neg h]
  have e2:zS z=aW z.natAbs:=by unfold zS;rw[if_neg h]
  have e3:((z.natAbs:Nat):Int)=z:=zE
  rw[e3]at hE;refine⟨k,by rw[e2];omega,fun nm=>?_⟩
  rw[e1];exact hE nm
end
end
section
def FW(ws:List Wrd):Prop:=HD ws [41]/\HD ws [125]/\HX ws
theorem FW.num(t:List UInt8)(r:List Wrd):FW ((1,t)::r):=⟨⟨_,_,rfl,fun r'=>rfl⟩,⟨_,_,rfl,fun r'=>rfl⟩,fun r'=>⟨rfl,rfl,rfl⟩⟩
theorem FW.min(r:List Wrd):FW (sg [45]::r):=⟨⟨_,_,rfl,fun r'=>rfl⟩,⟨_,_,rfl,fun r'=>rfl⟩,fun r'=>⟨rfl,rfl,rfl⟩⟩
theorem FW.mat(r:List Wrd):FW (sg [91]::r):=⟨⟨_,_,rfl,fun r'=>rfl⟩,⟨_,_,rfl,fun r'=>rfl⟩,fun r'=>⟨rfl,rfl,rfl⟩⟩
theorem FW.zero(r:List Wrd):FW ((2,mG)::sg [40]::r):=⟨⟨_,_,rfl,fun r'=>rfl⟩,⟨_,_,rfl,fun r'=>rfl⟩,fun r'=>⟨rfl,rfl,rfl⟩⟩
theorem FW.z(z:Int)(r:List Wrd):FW (zWd z++r):=by
 unfold zWd
 split
 ·exact FW.min _
 ·exact FW.num _ _
def OP(m:Nd):Prop:=m.op<=8\/13<=m.op
theorem op_z(z:Int):OP (zNd z):=by
 unfold zNd
 split
 ·exact .inl (show (3:Int)<=8 by decide)
 ·exact .inl (show (1:Int)<=8 by decide)
structure RD(B:Nat)(s:List UInt8)(v:Vl)(c d:Nat):Prop where
 h:∃(ws:List Wrd) (m:Nd) (k:Nat),LV s ws/\PW ws m/\FW ws/\dep m<=d/\k<=c*s.length/\(∀nm,EX B nm m k v)/\OP m
theorem aa4(t:List UInt8):dep (nmN t)=0:=by rw[ab0];rfl
theorem atx(z:Int):dep (zNd z)<=1:=by
 unfold zNd
 split
 ·rw[ab0];show (if([nmN (aW z.natAbs)]:List Nd).isEmpty then 0 else 1+kY [nmN (aW z.natAbs)])<=1
  rw[kT,mg,aa4];exact zq6 1
 ·rw[aa4];omega
theorem aaw{d:Nat}:∀{ks:List Nd},(∀k∈ks,dep k<=d)->kY ks<=d
 |[],_=>by rw[mg];omega
 |k::ks,h=>by
  rw[kT];have h1:=h k zp
  have h2:=aaw (ks:=ks) fun x hx=>h x (by simp[hx])
  omega
theorem uX{o:Int}{t:List UInt8}{ks:List Nd}{d:Nat}(h:∀k∈ks,dep k<=d):dep (.mk o t ks)<=d+1:=by
 rw[ab0];show (if ks.isEmpty then 0 else 1+kY ks)<=d+1
 have:=aaw h
 split <;> omega
attribute [local irreducible] bK bO bM bS bN qv bZ mf PrP qOk zOk vP dx lz vF cq rqv dI aX bG aV dN jn sq aW qS zS tS tbS plS mdS zmd fT jw nmC qB
section
variable{B K:Nat}(hB:64000<=B)(hB0:B<=1000000000)(h1:1<=K)(hK:K<=90)
include hB hB0 h1 hK
theorem RD.q{x:Rat}(hx:RB x K):RD B (qS x) (bW x) 4 2:=by
 obtain⟨kz,hkz,hEz⟩:=atM hB hB0 h1 hK hx.n;obtain⟨kd,hkd,hEd⟩:=aex hB hB0 h1 hK hx.d;have hdn:=lH hx.n;have hdd:=lH hx.d;obtain⟨s,hs,hv⟩:=VI.num hB h1 hK hx;have hself:=jq x;unfold qv at hself;by_cases h:x.den=1
 ·have e:qS x=zS x.num:=by rw[zx,if_pos h]
  have e2:((x.num:Int):Rat)=x:=by rw[h]at hself;rw[<-hself];grind
  have hw:=FW.z x.num [];rw[zqb]at hw;refine⟨zWd x.num,zNd x.num,kz,by rw[e];exact LV.zS zE,PW.z _,hw,by have:=atx x.num;omega,by rw[e];omega,fun nm=>?_,op_z _⟩
  have:=hEz nm
  rwa [show vI x.num=bW x from congrArg bW e2]at this
 ·have e:qS x=zS x.num++47::aW x.den:=by rw[zx,if_neg h,aav]
  have hd0:((x.den:Int):Rat)≠0:=c0 (pR x);have hbn:=RB.ofI hx.n h1;have hbd:RB ((x.den:Int):Rat) K:=RB.ofI (z:=(x.den:Int)) hx.d h1;have cQ:=apr hbn hbd zE hd0
  rw[hself]at cQ;have cB:=amG (kS hx.n h1 zE) (kS (z:=(x.den:Int)) hx.d h1 zE) cQ
  have hlen:(qS x).length=(zS x.num).length+1+(aW x.den).length:=by rw[e,zqi,zx6];omega
  refine⟨zWd x.num++sg [47]::[(1,aW x.den)],.mk 7 [] [zNd x.num,nmN (aW x.den)],s+(kz+kd)+1,?_,PW.frac _ _,FW.z _ _,?_,zE,fun nm=>?_,.inl (show (7:Int)<=8 by decide)⟩
  ·rw[e];exact LV.mid (LV.zS zE) gX.2.1 (LV.num (qZ zE))
  ·refine uX (d:=1) fun k hk=>?_
   rcases zy3.1 hk with rfl|hk
   ·exact atx _
   ·rw[zxi]at hk;subst hk;rw[aa4];omega
  ·exact EX.opr hB0 (n:= .mk 7 [] [zNd x.num,nmN (aW x.den)]) ⟨fun h=>by have h':(7:Int)=1:=h;omega,fun h=>by have h':(7:Int)=2:=h;omega,fun h=>by have h':(7:Int)=14:=h;omega⟩ (AL.two (hEz nm) (hEd nm)) (atZ (n:= .mk 7 [] [zNd x.num,nmN (aW x.den)]) ⟨show (4:Int)<=7 by decide,show (7:Int)<=12 by decide⟩ cB) hv
end
end
section
instance:Inhabited (WN×Nat):=⟨(([],nmN []),0)⟩
structure RG(B:Nat)(s:List UInt8)(v:Vl)(c d:Nat)(g:WN×Nat):Prop where
 lv:LV s g.1.1
 pw:PW g.1.1 g.1.2
 fw:FW g.1.1
 dp:dep g.1.2<=d
 k:g.2<=c*s.length
 ex:∀nm,EX B nm g.1.2 g.2 v
 op:OP g.1.2
theorem RD.g{B:Nat}{s:List UInt8}{v:Vl}{c d:Nat}(h:RD B s v c d):∃g,RG B s v c d g:=by
 obtain⟨ws,m,k,h1,h2,h3,h4,h5,h6,h7⟩:=h.h;exact⟨((ws,m),k),h1,h2,h3,h4,h5,h6,h7⟩
section
variable{α:Type}{B c d:Nat}{l:List α}{s:α->List UInt8}{v:α->Vl}{g:α->WN×Nat}(h:∀x∈l,RG B (s x) (v x) c d (g x))
include h
theorem RG.al(nm:Nms)(hl:l.length<=100000):AL B nm (l.map fun x=>(g x).1.2) ((l.map fun x=>(g x).2).sum) (l.map v):=by
 refine aoS B nm _ _ _ (by rw[zq5,zq5]) (by rw[zq5,zq5]) (by rw[zq5];exact hl) fun i n k w h1 h2 h3=>?_
 rw[zqa]at h1 h2 h3
 cases hx:l[i]? with
 |none=>rw[hx]at h1;cases h1
 |some x=>
  rw[hx]at h1 h2 h3;cases h1;cases h2;cases h3;exact(h x (zq4 hx)).ex nm
theorem RG.sum:(l.map fun x=>(g x).2).sum<=c*(l.map fun x=>(s x).length).sum:=by
 induction l with
 |nil=>exact zq8 _
 |cons x l ih=>
  rw[zy6,zy6,List.sum_cons,List.sum_cons,Nat.mul_add];have h1:=(h x zq9).k;have h2:=ih fun y hy=>h y (zy2 _ hy)
  omega
theorem RG.jn:LV (jn 44 (l.map s)) (jW (l.map fun x=>(g x).1)):=by
 have:=LV.jn gX.2.2.1 (l.map fun x=>(s x,(g x).1.1)) (fun y hy=>by
  obtain⟨x,hx,rfl⟩:=zqg.1 hy;exact(h x hx).lv)
 rw[zv4,zv4]at this;show LV _ (abq _ ((l.map fun x=>(g x).1).map (·.1)))
 rw[zv4];exact this
end
theorem asq:tx 2 mG=true:=by
 have h:=ag6.1;have h2:ownB mG=false:=by rfl
 unfold tx jc;rw[h2];simp[h]
theorem afz{α β:Type}(f:α->β)(c:Nat):∀(r:Nat) (l:List α),chk c r (l.map f)=(chk c r l).map (List.map f)
 |0,_=>rfl
 |r+1,l=>by
  show (l.map f).take c::chk c r ((l.map f).drop c)=(l.take c).map f::(chk c r (l.drop c)).map (List.map f);rw[<-List.map_take,<-List.map_drop,afz f c r]
theorem nN{α:Type}(c:Nat):∀(r:Nat) (l:List α),(chk c r l).length=r
 |0,_=>rfl
 |r+1,l=>by
  show (l.take c::chk c r (l.drop c)).length=_;rw[zx6,nN c r]
theorem adA{α:Type}{c:Nat}:∀{r i:Nat} {l:List α},i < r->(chk c r l)[i]? =some ((l.drop (i*c)).take c)
 |0,i,l,h=>absurd h (zvj _)
 |r+1,0,l,h=>by
  show (l.take c::chk c r (l.drop c))[0]? =_;rw[zw3];rfl
 |r+1,i+1,l,h=>by
  show (l.take c::chk c r (l.drop c))[i+1]? =_;rw[List.getElem?_cons_succ,adA zE,List.drop_drop]
  congr 3
  rw[zv8];omega
theorem afn{α:Type}{c:Nat}:∀{r:Nat} {l row:List α} {x:α},row∈chk c r l->x∈row->x∈l
 |0,l,row,x,h,_=>by cases h
 |r+1,l,row,x,h,hx=>by
  rcases zy3.1 h with rfl|h
  ·exact zv3 hx
  ·exact zw9 (afn h hx)
theorem asy{α:Type}{c r:Nat}{l row:List α}(hl:l.length=r*c)(h:row∈chk c r l):row.length=c:=by
 obtain⟨i,hi⟩:=List.mem_iff_getElem?.1 h;have hir:i < r:=by have:=qJ hi;rwa [nN]at this
 rw[adA hir]at hi;cases hi;rw[zx3,zxe];have:=zx1 c (show i+1<=r by omega)
 rw[zv8]at this;omega
attribute [local irreducible] bK bO bM bS bN qv bZ mf PrP qOk zOk vP dx lz vF cq rqv dI aX bG aV dN sq aW qS zS tS mdS zmd fT jw nmC qB
section
variable{B K:Nat}(hB:64000<=B)(hB0:B<=1000000000)(h1:1<=K)(hK:K<=90)
include hB hB0 h1 hK
end
end
section
theorem arG{α:Type}{c:Nat}{f:α->Nat}(l:List α):(l.map fun x=>c*f x).sum=c*(l.map f).sum:=by
 induction l with
 |nil=>rfl
 |cons x l ih=>rw[zy6,zy6,List.sum_cons,List.sum_cons,ih,Nat.mul_add]
attribute [local irreducible] bK bO bM bS bN qv bZ mf PrP qOk zOk vP dx lz vF cq rqv dI aX bG aV dN sq aW qS zS tS zmd fT jw nmC qB
section
variable{B K:Nat}(hB:64000<=B)(hB0:B<=1000000000)(h1:1<=K)(hK:K<=90)
include hB hB0 h1 hK
theorem RD.zero{r c:Nat}(hr:r<=64)(hc:c<=64)(h0:r=0\/c=0):RD B (tbS r c []) (iJ r c []) 6 4:=by
 have hw:64 < WB ^ K:=by
  have:=zx2 aZ h1;rw[zxh]at this;have e:=dn;omega
 have hr':r < WB ^ K:=zE
 have hc':c < WB ^ K:=zE
 obtain⟨kr,hkr,hEr⟩:=aex hB hB0 h1 hK hr';obtain⟨kc,hkc,hEc⟩:=aex hB hB0 h1 hK hc';have dr:=lH hr';have dc:=lH hc';have hrc:r*c=0:=by rcases h0 with rfl|rfl <;> simp
 have e0:tbS r c []=[122,101,114,111,40]++(aW r++([44,32]++(aW c++[41]))):=by unfold tbS;rw[if_pos h0]
 have hlen:(tbS r c []).length=8+(aW r).length+(aW c).length:=by
  rw[e0,zqi,zqi,zqi,zqi];have a1:([122,101,114,111,40]:List UInt8).length=5:=rfl;have a2:([44,32]:List UInt8).length=2:=rfl;have a3:([41]:List UInt8).length=1:=rfl;omega
 obtain⟨s,hs,hv⟩:=VI.of (B:=B) (Cv.one (n:=0) (.mat r c [] (by rw[hrc];rfl) hr hc (fun v h=>by cases h):Sh K _)) zE zE (by rw[uG];show (tbS r c []).length<=_;omega) hB
 rw[uG]at hs;have hs':s<=(tbS r c []).length:=hs;have ez:lX c (fun _ _=>0) r=[]:=List.length_eq_zero_iff.1 (by rw[wQ];exact hrc)
 have cC:=abQ hr hc;rw[ez]at cC;refine⟨(2,mG)::sg [40]::(jW [([(1,aW r)],nmN (aW r)),([(1,aW c)],nmN (aW c))]++[sg [41]]),.mk 13 mG [nmN (aW r),nmN (aW c)],s+(kr+kc)+1,?_,?_,FW.zero _,?_,zE,fun nm=>?_,.inr (show (13:Int)<=13 by decide)⟩
 ·rw[e0];exact LV.nam (w:=mG) ag6.1 gX.2.2.2.2.2.2.1 (LV.midB (LV.num (qZ zE)) gX.2.2.1 (LV.end (LV.num (qZ zE)) gX.2.2.2.2.2.2.2.1))
 ·refine PW.call asq (ks:=[([(1,aW r)],nmN (aW r)),([(1,aW c)],nmN (aW c))]) fun k hk=>?_
  rcases zy3.1 hk with rfl|hk
  ·exact⟨PW.num _,(FW.num _ _).1⟩
  ·rw[zxi]at hk;subst hk;exact⟨PW.num _,(FW.num _ _).1⟩
 ·refine zxf (uX (d:=0) fun k hk=>?_) zc
  rcases zy3.1 hk with rfl|hk
  ·rw[aa4];exact zq6 0
  ·rw[zxi]at hk;subst hk;rw[aa4];exact zq6 0
 ·exact EX.opr hB0 (n:= .mk 13 mG [nmN (aW r),nmN (aW c)]) ⟨fun h=>by have h':(13:Int)=1:=h;omega,fun h=>by have h':(13:Int)=2:=h;omega,fun h=>by have h':(13:Int)=14:=h;omega⟩ (AL.two (hEr nm) (hEc nm)) (ajX (n:= .mk 13 mG [nmN (aW r),nmN (aW c)]) rfl cC) hv
theorem RD.mat{r c:Nat}{vs:List Rat}(hvl:vs.length=r*c)(hr:r<=64)(hc:c<=64)(h:∀v∈vs,RB v K)(ht:(tbS r c (vs.map qS)).length<=100000):RD B (tbS r c (vs.map qS)) (iJ r c vs) 6 4:=by
 by_cases h0:r=0\/c=0
 ·have hrc:r*c=0:=by rcases h0 with rfl|rfl <;> simp
  obtain rfl:vs=[]:=List.length_eq_zero_iff.1 zE
  exact RD.zero hB hB0 h1 hK hr hc h0
 ·obtain⟨g,hg⟩:=aeR (P:=fun x gx=>RG B (qS x) (bW x) 4 2 gx) (l:=vs) (fun x hx=>(RD.q hB hB0 h1 hK (h x hx)).g)
  have hr1:1<=r:=zE
  have hc1:1<=c:=zE
  obtain⟨s,hs,hv⟩:=VI.of (B:=B) (Cv.one (n:=0) (.mat r c vs hvl hr hc h)) zE zE (by rw[uG];exact ht) hB
  rw[uG]at hs;have erows:(chk c r (vs.map qS)).map (jn 44)=(chk c r vs).map fun row=>jn 44 (row.map qS):=by rw[afz,zv4];rfl
  have e0:tbS r c (vs.map qS)=91::(jn 59 ((chk c r vs).map fun row=>jn 44 (row.map qS))++[93]):=by unfold tbS;rw[if_neg h0,erows]
  generalize hJ:jn 59 ((chk c r vs).map fun row=>jn 44 (row.map qS))=J at e0
  have hlen:(tbS r c (vs.map qS)).length=J.length+2:=by rw[e0,zx6,zqi];rfl
  have hJ1:=zf 59 ((chk c r vs).map fun row=>jn 44 (row.map qS))
  rw[hJ,zv4]at hJ1;have hgr:∀row∈chk c r vs,∀x∈row,RG B (qS x) (bW x) 4 2 (g x):=fun row hrow x hx=>hg x (afn hrow hx)
  have hks:((chk c r vs).map fun row=>(row.map fun x=>(g x).2).sum).sum<=4*J.length:=by
   have h2:=qg (f:=fun row:List Rat=>(row.map fun x=>(g x).2).sum) (g:=fun row=>4*(jn 44 (row.map qS)).length) (l:=chk c r vs) (fun row hrow=>by
    have a1:=RG.sum (hgr row hrow);have a2:=zf 44 (row.map qS);rw[zv4]at a2;have a3:(row.map (List.length ∘ qS)).sum=(row.map fun x=>(qS x).length).sum:=rfl
    omega)
   rw[arG]at h2;have h3:((chk c r vs).map (List.length ∘ fun row=>jn 44 (row.map qS))).sum=((chk c r vs).map fun row=>(jn 44 (row.map qS)).length).sum:=rfl
   omega
  have hrJ:r<=J.length:=by
   have a1:=agN (r:=r) (c:=c) (l:=vs.map qS) (by rw[zq5];exact hvl) (afV qS_1)
   rw[erows,zv4]at a1;have a2:=zx8 r hc1;omega
  have erow:∀row:List Rat,kN (row.map fun x=>(g x).1)=row.map fun x=>(g x).1.2:=fun row=>zv4 ..
  have hrne:∀row∈chk c r vs,row.length=c:=fun row hrow=>asy hvl hrow
  refine⟨sg [91]::(jM ((chk c r vs).map fun row=>row.map fun x=>(g x).1)++[sg [93]]),.mk 14 [] (kM ((chk c r vs).map fun row=>row.map fun x=>(g x).1)),s+(((chk c r vs).map fun row=>(row.map fun x=>(g x).2).sum).sum+(kM ((chk c r vs).map fun row=>row.map fun x=>(g x).1)).length)+1,?_,?_,FW.mat _,?_,?_,fun nm=>?_,.inr (show (13:Int)<=14 by decide)⟩
  ·rw[e0,<-hJ];have a1:=LV.jn (c:=59) gX.2.2.2.1 ((chk c r vs).map fun row=>(jn 44 (row.map qS),jW (row.map fun x=>(g x).1))) (fun y hy=>by
    obtain⟨row,hrow,rfl⟩:=zqg.1 hy;exact RG.jn (hgr row hrow))
   rw[zv4,zv4]at a1;have a2:jM ((chk c r vs).map fun row=>row.map fun x=>(g x).1)=abq (sg [59]) ((chk c r vs).map (Prod.snd ∘ fun row=>(jn 44 (row.map qS),jW (row.map fun x=>(g x).1)))):=by
    show abq _ _=_;rw[zv4];rfl
   rw[a2];exact LV.sg gX.2.2.2.2.1 (LV.end a1 gX.2.2.2.2.2.1)
  ·refine PW.mat (fun e=>?_) (fun x hx=>?_) (fun x hx k hk=>?_)
   ·have:=congrArg List.length e;rw[zq5,nN,List.length_nil]at this;omega
   ·obtain⟨row,hrow,rfl⟩:=zqg.1 hx;intro e;have:=congrArg List.length e;rw[zq5,hrne row hrow,List.length_nil]at this;omega
   ·obtain⟨row,hrow,rfl⟩:=zqg.1 hx;obtain⟨y,hy,rfl⟩:=zqg.1 hk;exact(hgr row hrow y hy).pw
  ·refine uX (d:=3) fun n hn=>?_
   obtain⟨x,hx,rfl⟩:=zqg.1 hn;obtain⟨row,hrow,rfl⟩:=zqg.1 hx;refine uX (d:=2) fun k hk=>?_
   rw[erow]at hk;obtain⟨y,hy,rfl⟩:=zqg.1 hk;exact(hgr row hrow y hy).dp
  ·rw[zq5,zq5,nN];omega
  ·have cM:=abV (L:=(chk c r vs).map fun row=>row.map bW) (r:=r) (c:=c) (K:=K) (vs:=vs) (by rw[zq5,nN]) (fun i R hR=>by
    rw[zqa]at hR
    have hir:i < r:=by
     cases hx:(chk c r vs)[i]? with
     |none=>rw[hx]at hR;cases hR
     |some y=>have:=qJ hx;rwa [nN]at this
    rw[adA hir]at hR;have hR':=zy7 hR;subst hR';have hlt:=zx1 c (show i+1<=r by omega)
    rw[zv8]at hlt;refine⟨by rw[zq5,zx3,zxe];omega,fun k hk=>⟨vs[i*c+k]' zE,zyh _,?_⟩⟩
    rw[zqa,List.getElem?_take_of_lt hk,zv1,zyh zE];rfl) hvl hr1 hr hc h zE
   refine EX.mat hB0 (n:= .mk 14 [] (kM ((chk c r vs).map fun row=>row.map fun x=>(g x).1))) rfl (fun F u la tx hF=>?_) hv
   refine avi _ ((chk c r vs).map fun row=>(row.map fun x=>(g x).2).sum) _ (by show ((chk c r vs).map _).length=(kM _).length;rw[zq5,zq5,zq5]) (by show _=(kM _).length;rw[zq5,zq5,zq5]) (by show (kM _).length<=_;rw[zq5,zq5,nN];omega) (fun i n k ws hn hk hw=>?_) cM F u la tx hF
   have hn':(kM ((chk c r vs).map fun row=>row.map fun x=>(g x).1))[i]? =some n:=hn
   rw[zqa,zqa]at hn'
   rw[zqa]at hk hw
   cases hx:(chk c r vs)[i]? with
   |none=>rw[hx]at hk;cases hk
   |some row=>
    rw[hx]at hn' hk hw;cases hn';cases hk;cases hw;have hrow:=zq4 hx;show AL B nm (kN (row.map fun x=>(g x).1)) _ _
    rw[erow];exact RG.al (hgr row hrow) nm (by rw[hrne row hrow];omega)
end
end
end
section
attribute [local irreducible] bK bO bM bS bN qv bZ mf PrP qOk zOk vP dx lz vF cq rqv dI aX bG aV dN sq aW qS zS tS zmd fT jw nmC qB
section
variable{B K:Nat}(hB:64000<=B)(hB0:B<=1000000000)(h1:1<=K)(hK:K<=90)
include hB hB0 h1 hK
end
end
section
theorem atA:wrd 61=false/\srt 61≠1:=by unfold wrd srt;decide
theorem run61(r:List UInt8):run (61::r)=0:=by unfold run;rw[List.takeWhile_cons,atA.1];rfl
theorem num0:num []=false:=by unfold num;rfl
theorem nam0:nam []=false:=by unfold nam;rfl
theorem fJ.asg{r:List UInt8}{ws:List Wrd}(h:fJ (32::r) ws):fJ (61::32::r) (Go.Proofs.YthnkfhfcgjoieaaGreatDoor.sg [61]::ws):=by
 refine .cons (w:=Go.Proofs.YthnkfhfcgjoieaaGreatDoor.sg [61]) (t:=32::r) (by rw[gp_c atA.2 zc];rfl) ?_ (fun e=>by have e':(3:Int)=0:=e;omega) (fun e=>by cases e) h
 show fst (61::32::r)=_;unfold fst;rw[run61,List.take_zero,num0,if_neg zc,nam0,if_neg zc,if_neg ?_,show (61::32::r:List UInt8).take 1=[61]from rfl,if_pos (by unfold sg1;decide)]
 rintro⟨_,h9⟩;have e:(61::32::r:List UInt8).take 2=[61,32]:=rfl;rw[e]at h9
 revert h9;decide
theorem aqj:nam [120]=true:=by unfold nam run wrd srt;decide
theorem tx_x:tx 2 [120]=true:=by
 have h:=aqj;have h2:ownB [120]=false:=by rfl
 unfold tx jc;rw[h2];simp[h]
theorem nw32(r:List UInt8):NW (32::r):=ahB (by unfold wrd srt;decide)
theorem sp32:srt 32=1:=by unfold srt;decide
theorem adG{x:Nat}(h:x≠0)(h2:x < 10):aW x=[UInt8.ofNat (48+x)]:=by
 unfold aW;rw[if_neg h,oQ h,show x / 10=0 by omega,kG,show x % 10=x by omega];rfl
theorem ank:aW 2=[50]:=adG zc zc
theorem atX:aW 3=[51]:=adG zc zc
theorem aqJ:aW 1=[49]:=adG zc zc
end
section
attribute [local irreducible] bK bO bM bS bN qv bZ mf PrP qOk zOk vP dx lz vF cq rqv dI aX bG aV dN jn sq aW qS zS tS tbS plS mdS vW jS
section
end
end
section
theorem BL.two{B:Nat}{n n':Nd}{k k':Nat}{σ σ1 σ':Ms}(h:ST B n k σ σ1)(h':ST B n' k' σ1 σ'):BL B [n,n'] (k+k') σ σ':=by
 have:=arf B [n,n'] [k,k'] (fun i=>if i=0 then σ else if i=1 then σ1 else σ') rfl (zqc rfl) (fun i m l h1 h2=>by
  match i,h1,h2 with
  |0,h1,h2=>cases h1;cases h2;exact h
  |1,h1,h2=>cases h1;cases h2;exact h')
 simpa using this
attribute [local irreducible] bK bO bM bS bN qv bZ mf PrP qOk zOk vP dx lz vF cq rqv dI aX bG aV dN jn sq aW qS zS tS tbS plS mdS zmd fT jw nmC qB
section
variable{B K Fu c d:Nat}{s:List UInt8}{v:Vl}(hB:64000<=B)(hB0:B<=1000000000)(hF0:Fu<=1000000000)(hR:RD B s v c d)(hd:d<=190)(hP:ah prog 399 [.agg (vlA v)] (.tup [.one (.c (.val (str s))),eNo 0]))(hl:s.length<=19500)
include hB hB0 hF0 hR hd hP hl
end
end
