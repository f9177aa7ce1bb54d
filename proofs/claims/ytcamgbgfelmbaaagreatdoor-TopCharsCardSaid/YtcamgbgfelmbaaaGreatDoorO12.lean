import Derived.Test.YtcamgbgfelmbaaaGreatDoorO10
import Derived.Test.YtcamgbgfelmbaaaGreatDoorO5
import Derived.Test.YtcamgbgfelmbaaaGreatDoorO13
import Derived.Test.YtcamgbgfelmbaaaGreatDoorO11
import Derived.Test.YtcamgbgfelmbaaaGreatDoorO8
import Derived.Test.YtcamgbgfelmbaaaGreatDoorO7
import Derived.Test.YtcamgbgfelmbaaaGreatDoorO9
import Derived.Test.YtcamgbgfelmbaaaGreatDoorO6
set_option linter.all false
open Go.Proofs.Tryz
namespace Go.Proofs.YtcamgbgfelmbaaaGreatDoor
open Go.RowKit QM SX LA
variable{zs:List Int}{vs:List Rat}{l:List Tok}{e s t w:List UInt8}{B K c f n o:Nat}{m:Nd}{v:Vl}
section
attribute [local irreducible] zmd
def iw:su.length < 4294967281:=by have e:su.length=226:=rfl;omega
def avx:ah prog 146 [.v (str su),.v (str (([32]++nA)++[32]))] (.v (.bool true)):=bg iw yW
def az9:ah prog 146 [.v (str su),.v (str (([32]++mP)++[32]))] (.v (.bool true)):=bg iw yW
def avr:ah prog 146 [.v (str nA),.v (str [32])] (.v (.bool false)):=bg zc yW
def ayE:ah prog 146 [.v (str mP),.v (str [32])] (.v (.bool false)):=bg zc yW
def qc{z:Int}(h:z.natAbs < WB ^ K)(h1:1<=K)(hK:K<=100000):ah prog 44 [.agg (vlA (vI z))] (.v (.bool true)):=
 (Cv.one (n:=0) (.num _ (RB.ofI h h1):Sh K (eY (z:Rat)))).F hK zc
def aei{r:Nat}(hr:r<=64)(hc:c<=64):ah prog 199 [.v (str nA),.r (aD 15 vlE [vI r,vI c])] (.tup [.agg (vlA (dW r c ((fJ c (fun _ _=>0) r).map fun z:Int=>(z:Rat)))),eNo 0]):=by
 refine oN (n0:=0) zc zc (zqc rfl) (fun v hv=>?_) avx avr (fun k f hk _=>absurd hk (zvj _)) (fun f hf=>?_)
 ·rcases zy3.1 hv with rfl|hv
  ·exact qc (yg hr) (zq6 1) zc
  ·rw[zxi]at hv;subst hv;exact qc (yg hc) (zq6 1) zc
 ·cases hf;exact abR hr hc
def yu{w r:Vl}{z:Int}(hF:ah prog 44 [.agg (vlA v)] (.v (.bool true)))(hF':ah prog 44 [.agg (vlA w)] (.v (.bool true)))(h:ah prog 346 [.agg (vlA v)] (.tup [.agg (zN z),.one (.c (.val (.bool false)))]))(hM:ah prog 303 [.agg (bR mP [v,w])] (.agg (kC r 0 true))):
  ah prog 199 [.v (str mP),.r (aD 15 vlE [v,w])] (.tup [.agg (vlA r),eNo 0]):=by
 refine oN (n0:=5) zc zc (zqc rfl) (fun u hu=>?_) az9 ayE (fun k f hk hf=>?_) (fun f hf=>?_)
 ·rcases zy3.1 hu with rfl|hu
  ·exact hF
  ·rw[zxi]at hu;subst hu;exact hF'
 ·match k,hk,hf with
  |0,_,hf=>cases hf;exact atr (.inr rfl)
  |1,_,hf=>cases hf;exact auO (.inr rfl)
  |2,_,hf=>cases hf;exact ajM (.inr rfl)
  |3,_,hf=>cases hf;exact afG (.inr rfl)
  |4,_,hf=>cases hf;exact afj (fun h=>by have h':2=1:=h;omega) (zqc rfl)
 ·cases hf;exact aeo h hM
def avI{p:Nat}{l:List Nat}(h:∀x∈l,x < p):(l.map fun x:Nat=>(x:Int)).map (zmd p)=l:=by
 rw[zv4];refine(zvg fun x hx=>?_).trans (List.map_id l)
 exact aq6 (h x hx)
end
section
section
def qdn(x d:Rat):Nat->Rat
 |0=>x
 |k+1=>qdn x d k / d
def atX{x d:Rat}{K L:Nat}(hx:RB x K)(hd:RB d L)(h0:d≠0):∀k,RB (qdn x d k) (K+k*L)
 |0=>by rw[zw3];exact hx
 |k+1=>by
  have:=(atX hx hd h0 k).div hd h0;rw[show K+(k+1)*L=K+k*L+L by rw[zv8];omega]
  exact this
def aix(n:Nat)(zs:List Int):Int:=aii (zgM (zat zs n) n n) n
def ao7(n:Nat)(vs:List Rat):Rat:=qdn ((aix n (qH vs):Int):Rat) (((jh vs:Nat):Int):Rat) n
abbrev nTra:List UInt8:=[116,114,97,110,115,112,111,115,101]
abbrev ap6:List UInt8:=[100,101,116]
abbrev nInv:List UInt8:=[105,110,118]
abbrev nRnk:List UInt8:=[114,97,110,107]
abbrev anZ:List Atom:=[.c (.val (.int .i64 0)),.c (.val (.bool false)),.c (.val (.slice none 0 0)),.c (.val (.bool false)),.c (.val (.slice none 0 0)),.c (.val (.int .i64 0)),.c (.val (.int .i64 0)),.c (.val (.slice none 0 0)),.c (.val (.slice none 0 0)),.c (.val (.int .u64 0)),.c (.val (.int .i64 0)),.c (.val (.int .i64 0)),.c (.val (.slice none 0 0)),.c (.val (.slice none 0 0)),.c (.val (.slice none 0 0)),.c (.val (.int .i64 0)),.c (.val (.bool false))]
attribute [local irreducible] IntKind.wrap Go1 Reg WP aK aN bD aZ aJ aA aj ak aT Sat
attribute [local irreducible] cq aix qdn
def apM(hl:zs.length=n*n)(hn:n<=64)(hz:∀z∈zs,z.natAbs < WB ^ K)(hK1:1<=K)(hkz:kz K n<=1000000):
  ah prog 372 [.agg (nG n n zs)] (.tup [.agg (zN (aix n zs)),eNo 0]):=by
 have hl2:(zs.map z2v).length=n*n:=by rw[zq5];exact hl
 have hKK:=amR n K;have cF:ah prog 40 [.agg (aaW n n (aD 2 zC zs))] (.v (.bool true)):=by
  have h:=pY (ag:=(zs.map z2v).flatMap z2C) (gX.nat hn hn hl2);have e:ah prog 40 [.agg (og n n (zs.map z2v))] (.v (.bool true)):=h;rw[<-aal]at e;exact e
 unfold aix;refine aql (x:=aD 2 zC zs) (va:=zat zs n) hn cF (fun i k hi hk=>?_) (fun i k hi hk=>?_) hK1 hkz
 ·have h:=ab9 (r:=n) (c:=n) (MZ.made hz) hl2 hn hn hi hk zE
  rw[<-aal]at h;exact h
 ·exact hz _ (zq4 (qh hl hi hk))
def avn(hl:zs.length=n*n)(hz:∀z∈zs,z.natAbs < WB ^ K)(hK1:1<=K):(aix n zs).natAbs < WB ^ kz K n:=by
 unfold aix;exact av5 (alf (fun i k hi hk=>hz _ (zq4 (qh hl hi hk))) hK1)
def aaZ(hl:vs.length=n*n)(hn:n<=64)(hv:∀v∈vs,RB v K)(hK1:1<=K)(hB0:1+(n*n+1)*K<=50000)(hkz:kz (K+(1+vs.length*K)) n<=10000)(hnk:n*(1+vs.length*K)<=10000):
  ah prog 278 [.agg (qp n n ((vs.map cq).map rq))] (.agg (kC (eY (ao7 n vs)) 0 true)):=by
 have cC:=aeX (r:=n) (c:=n) (MV.cq hv) (by rw[zq5,zq5];exact hl) hn hn hK1 hB0
 have hcz:=axt hv;have hcl:(qH vs).length=n*n:=by unfold qH;rw[zq5];exact hl
 have hkk:=amR n (K+(1+vs.length*K));have cD:=apM hcl hn hcz zE zE
 have hdl:=avn hcl hcz zE
 have hL:=yI hv vs.length;rw[zy8]at hL;have hp:=xP vs;unfold ao7;generalize aix n (qH vs)=d at*;generalize jh vs=m at*;generalize qH vs=zs at*;have hm1:((m:Nat):Int).natAbs < WB ^ (1+vs.length*K):=by rw[zxa];exact hL
 haveI iD:Bd d (kz (K+(1+vs.length*K)) n):=⟨hdl⟩
 haveI iM:Bd ((m:Nat):Int) (1+vs.length*K):=⟨hm1⟩
 have rd:RB ((d:Int):Rat) (kz (K+(1+vs.length*K)) n):=RB.ofI hdl zE
 have rm:RB (((m:Nat):Int):Rat) (1+vs.length*K):=RB.ofI hm1 zE
 have hm0:(((m:Nat):Int):Rat)≠0:=fun h=>by
  have:((m:Nat):Int)=0:=by exact_mod_cast h
  omega
 have hRB:=atX rd rm hm0;have cO1:ah prog 30 [.agg (zN d)] (.agg (qA ((d:Int):Rat))):=sF.h zE
 have cO2:ah prog 30 [.agg (zN ((m:Nat):Int))] (.agg (qA (((m:Nat):Int):Rat))):=sF.h zE
 generalize ((d:Int):Rat)=x at*;generalize hy:(((m:Nat):Int):Rat)=y at*;have cN:=ac0 (q:=q4v (qdn x y n)) (hRB n).ra (by
  omega)
 have cf:=acv (eY (qdn x y n));have e0:qdn x y 0=x:=by unfold qdn;rfl
 have es:∀k,qdn x y (k+1)=qdn x y k / y:=fun k=>by conv=>lhs;unfold qdn
 refine ah.fq func278 ?_;intros
 refine zg ?_;refine W.loop (fun k=>k<=n) (fun k=>[(1,.ptr 1 0),(2,.ptr 2 0),(4,.ptr 4 0),(8,.ptr 8 0),(28,.v (.int .i64 (n:Int))),(29,.v (.int .i64 (k:Int)))]) (fun k=>[(1,.box 49 (qp n n ((vs.map cq).map rq))),(2,.box 249 anZ),(4,.box 33 (zN ((m:Nat):Int))),(8,.box 54 (qA (qdn x y k)))]) (fun k=>n - k) 0 (zq8 _) (fun k hk=>?_)
  (by
   rw[e0];refine St.aS [] z6 ?_ ?_ rfl
   ·exact yd
   ·exact⟨ay.same rfl rfl,ay.same rfl rfl,ay.same rfl rfl,ay.same rfl rfl,trivial⟩)
 by_cases h:k < n
 ·have ik:=(hRB k).ra;have iy:=rm.ra;have hkn:=zx1 (1+vs.length*K) (show k+1<=n from h)
  rw[zv8]at hkn;have cQ:ah prog 322 [.agg (qA (qdn x y k)),.agg (qA y)] (.tup [.agg (qA (qdn x y (k+1))),.one (.c (.val (.bool (decide (y≠0)))))]):=by
   rw[es];exact aiJ.h zE
  refine zg ?_;refine W.next (k+1) h zE (by
   refine St.aS [] z6 ?_ ?_ rfl
   ·exact yd
   ·exact⟨ay.same rfl rfl,ay.same rfl rfl,ay.same rfl rfl,ay.same rfl rfl,trivial⟩)
 ·obtain rfl:k=n:=zE
  refine zg ?_;refine jY aj.fF ?_;exact z7 _
section
variable{t:List UInt8}{vs:List Vl}(ht:t=nTra\/t=ap6\/t=nInv\/t=nRnk)
include ht
theorem apv:ah prog 214 [.agg (bR t vs)] (.agg qd):=by
 rcases ht with rfl|rfl|rfl|rfl <;> (
  refine ah.fq func214 ?_;intros
  refine zg ?_;exact mO aj.fF
 )
theorem aop:ah prog 215 [.agg (bR t vs)] (.agg qd):=by
 rcases ht with rfl|rfl|rfl|rfl <;> (
  refine ah.fq func215 ?_;intros
  refine zg ?_;exact mO aj.fF
 )
theorem ai2:ah prog 216 [.agg (bR t vs)] (.agg qd):=by
 rcases ht with rfl|rfl|rfl|rfl <;> (
  refine ah.fq func216 ?_;intros
  refine zg ?_;exact mO aj.fF
 )
end
def as_x{r:Nat}:ah prog 249 [.agg (bR t [dW r c vs]),.v (str t),.v (str [120])] (.v (.bool true)):=by
 have cS:=ako (dW r c vs);rw[decide_eq_true rfl]at cS;exact lI (so:=[120]) (fun _=>true) rfl (zqc rfl) fun i v hv=>by
  match i,hv with
  |0,hv=>cases hv;exact cS
def y9{r:Vl}(cD:ah prog 278 [.agg (qp n n ((vs.map cq).map rq))] (.agg (kC r 0 true))):ah prog 217 [.agg (bR ap6 [dW n n vs])] (.agg (kC r 0 true)):=by
 have hv:[dW n n vs][0]? =some (dW n n vs):=rfl;have ca:=as_x (t:=ap6) (r:=n) (c:=n) (vs:=vs);refine ah.fq func217 ?_;intros
 refine zg ?_;refine jY aj.fF ?_;exact z7 _
def ays:ah prog 146 [.v (str su),.v (str (([32]++ap6)++[32]))] (.v (.bool true)):=bg iw yW
def azL:ah prog 146 [.v (str ap6),.v (str [32])] (.v (.bool false)):=bg zc yW
def af3(hl:vs.length=n*n)(hn:n<=64)(hv:∀v∈vs,RB v K)(hK1:1<=K)(hKK:K<=10000)(hB0:1+(n*n+1)*K<=50000)(hkz:kz (K+(1+vs.length*K)) n<=10000)(hnk:n*(1+vs.length*K)<=10000):
  ah prog 199 [.v (str ap6),.r (aD 15 vlE [dW n n vs])] (.tup [.agg (vlA (eY (ao7 n vs))),eNo 0]):=by
 refine oN (n0:=3) zc zc (zqc rfl) (fun u hu=>?_) ays azL (fun k f hk hf=>?_) (fun f hf=>?_)
 ·rw[zxi]at hu;subst hu;exact(Cv.one (n:=0) (.mat n n _ (by rw[hl]) hn hn hv:Sh K _)).F zE zc
 ·match k,hk,hf with
  |0,_,hf=>cases hf;exact apv (.inr (.inl rfl))
  |1,_,hf=>cases hf;exact aop (.inr (.inl rfl))
  |2,_,hf=>cases hf;exact ai2 (.inr (.inl rfl))
 ·cases hf;exact y9 (aaZ hl hn hv hK1 hB0 hkz hnk)
end
section
abbrev vrC(vs:List Vl):List CA:=[.sat (aD 15 vlE vs)]
instance:dY vrC 1:=⟨fun _=>rfl⟩
abbrev rcq(v:Rat):Q4:=rq (cq v)
def ayZ{c:Nat}{x:Rat}(hx:vs[n]? =some x):((vs.take n).map rcq).flatMap q4C++q4C (rcq x)=((vs.take (n+1)).map rcq).flatMap q4C:=afc (enc:=q4C) (f:=rcq) hx
attribute [local irreducible] IntKind.wrap Go1 Reg WP aK aN bD aZ aJ aA aj ak aT Sat
attribute [local irreducible] cq nmC
def aep{L:List (List Vl)}{r:Nat}(hL:L.length=r)(hrow:∀(i:Nat) R,L[i]? =some R->R.length=c/\∀k,k < c->∃x,vs[i*c+k]? =some x/\R[k]? =some (eY x))(hl:vs.length=r*c)(hr1:1<=r)(hr:r<=64)(hc:c<=64)(hb:∀v∈vs,RB v K)(hK:K<=10000):
  ah prog 197 [.r (aD 1 vrC L)] (.tup [.agg (vlA (dW r c vs)),eNo 0]):=by
 have cM:=xD (r:=r) (c:=c) (MV.cq hb) (by rw[zq5,zq5];exact hl) hr hc zE
 obtain⟨R0,h0⟩:∃R,L[0]? =some R:=⟨_,zyh zE⟩
 obtain⟨hR0,_⟩:=hrow 0 R0 h0;subst hL hR0;have e3:(vs.map cq).map rq=vs.map rcq:=zv4 ..;have e4:(vs.map rcq).length=vs.length:=zq5 _;have hLc:=zxd hr hc;have hd0:decide ((R0.length:Int)<=64)=true:=decide_eq_true zE
 refine ah.fq func197 fun _ _ _ _ hB=>?_
 refine zg ?_;rw[hd0];refine W.loop (fun i=>i<=L.length) (fun i=>[(2,.ptr 2 0),(4,.ptr 4 0),(5,.v (.bool true)),(25,.r (aD 1 vrC L)),(26,.v (.int .i64 (L.length:Int))),(27,.v (.int .i64 (i:Int)))]) (fun i=>[(2,.box 61 vlZ),(4,.box 49 [.c (.val (.int .i64 (L.length:Int))),.c (.val (.int .i64 (R0.length:Int))),.own 100]),(100,.row 54 4 (i*R0.length) (((vs.take (i*R0.length)).map rcq).flatMap q4C))]) (fun i=>L.length - i) 0 (zq8 _) (fun i hi=>?_)
  (by
   refine St.aS [(100,none)] z6 ?_ ?_ rfl
   ·exact yd
   ·exact⟨ay.same rfl rfl,ay.jE rfl rfl ⟨aB.same rfl,aB.same rfl,aB.nil rfl,trivial⟩,by rw[zw3];exact ay.dw rfl,trivial⟩)
 by_cases h:i < L.length
 ·obtain⟨R,hR⟩:∃R,L[i]? =some R:=⟨_,zyh h⟩
  obtain⟨hRl,hRv⟩:=hrow i R hR;have hd:decide ((R.length:Int)=(R0.length:Int))=true:=decide_eq_true zE
  have hlen:i*R0.length+R0.length<=4096:=by
   have:=zx1 R0.length (show i+1<=L.length by omega)
   rw[zv8]at this;omega
  refine zg ?_;rw[hd];refine W.loop (fun k=>k<=R.length) (fun k=>[(2,.ptr 2 0),(4,.ptr 4 0),(5,.v (.bool true)),(25,.r (aD 1 vrC L)),(26,.v (.int .i64 (L.length:Int))),(27,.v (.int .i64 (i:Int))),(39,.r (aD 15 vlE R)),(40,.v (.int .i64 (R.length:Int))),(41,.v (.int .i64 (k:Int)))]) (fun k=>[(2,.box 61 vlZ),(4,.box 49 [.c (.val (.int .i64 (L.length:Int))),.c (.val (.int .i64 (R0.length:Int))),.own 100]),(100,.row 54 4 (i*R0.length+k) (((vs.take (i*R0.length+k)).map rcq).flatMap q4C))]) (fun k=>R.length - k) 0 (zq8 _) (fun k hk=>?_)
   (by
    have e:Ent.row 54 4 (i*R0.length) (((vs.take (i*R0.length)).map rcq).flatMap q4C)=Ent.row 54 4 (i*R0.length+0) (((vs.take (i*R0.length+0)).map rcq).flatMap q4C):=by rw[zvi]
    refine St.aS [] z6 ?_ ?_ rfl
    ·exact yd
    ·exact⟨ay.same rfl rfl,ay.same rfl rfl,ay.eq rfl e rfl,trivial⟩)
  by_cases h2:k < R.length
  ·obtain⟨x,hx,hv⟩:=hRv k zE
   have e2:=ayZ (c:=R0.length) hx;refine zg ?_;refine W.next (k+1) h2 zE (by
    refine St.aS [(100,some 54)] z6 ?_ ?_ rfl
    ·exact yd
    ·exact⟨ay.same rfl rfl,ay.jE rfl rfl ⟨aB.same rfl,aB.same rfl,aB.own rfl,trivial⟩,ay.row rfl rfl zE e2,trivial⟩)
  ·have hkR:k=R0.length:=zE
   subst hkR;refine zg ?_;refine W.next (i+1) h zE (by
    have e2:Ent.row 54 4 (i*R0.length+R0.length) (((vs.take (i*R0.length+R0.length)).map rcq).flatMap q4C)=Ent.row 54 4 ((i+1)*R0.length) (((vs.take ((i+1)*R0.length)).map rcq).flatMap q4C):=by rw[zv8]
    refine St.aS [] z6 ?_ ?_ rfl
    ·exact yd
    ·exact⟨ay.same rfl rfl,ay.same rfl rfl,ay.eq rfl e2 rfl,trivial⟩)
 ·obtain rfl:i=L.length:=zE
  rw[<-hl,zy8];rw[e3]at cM;rw[<-e4];refine WP.freeze 100 hB rfl ?_;refine zg ?_;exact .ok (aA.mk2 aj.fC (aj.tmp rfl))
def ayI{nm:Nms}(ns:List Nd)(ks:List Nat)(vss:List (List Vl))(hk:ks.length=ns.length)(hv:vss.length=ns.length)(hl:ns.length<=100000)(h:∀(i:Nat) n k vs,ns[i]? =some n->ks[i]? =some k->vss[i]? =some vs->AL B nm n.kids k vs)(cM:ah prog 197 [.r (aD 1 vrC vss)] (.tup [.agg (vlA v),eNo 0]))(F:Nat)(u:Bool)(la:Vl)(tx:List UInt8)(hF:F+(ks.sum+ns.length)<=1000000000):
  ak prog 158 [.ptr 81 0,.r (aD 3 ndE ns)] (ME (F+(ks.sum+ns.length)) B nm u la tx) ⟨.tup [.agg (vlA v),eNo 0],MO F B nm u la tx⟩:=by
 cases u with
 |false=>
  refine ak.fnM func158 results158 ntmps158 rfl rfl rfl rfl (by first|rfl|(cases u <;> rfl)) (by first|rfl|(cases u <;> rfl)) (by first|rfl|(cases u <;> rfl)) (fun w0 Tw Bw E0 hB=>?_)
  refine zg ?_;refine W.nu (fun k fu=>k<=ns.length/\fu=F+((ks.drop k).sum+(ns.length - k))) (fun k fu=>[(0,.ptr 81 0),(4,.ptr 4 0),(6,.own 100),(9,.r (aD 3 ndE ns)),(10,.v (.int .i64 (ns.length:Int))),(11,.v (.int .i64 (k:Int)))]) (fun k fu=>[(81,MB fu B false la),(82,.abs (iW (nmC nm))),(84,wO tx),(4,.box 61 vlZ),(100,.row 59 1 k ((vss.take k).flatMap vrC))]) (fun k _=>ns.length - k) 0 (F+(ks.sum+ns.length)) ⟨zq8 _,rfl⟩ (fun k fu ⟨hkn,hfu⟩=>?_)
   (by
    refine St.aS [(100,none)] (by intro b h;exact SX.dB h rfl) ?_ ?_ rfl
    ·exact yk
    ·exact⟨ay.same rfl rfl,ay.same rfl rfl,ay.same rfl rfl,ay.same rfl rfl,ay.dw rfl,trivial⟩)
  by_cases hlt:k < ns.length
  ·obtain⟨n,hn⟩:∃n,ns[k]? =some n:=⟨_,zyh hlt⟩
   obtain⟨c,hc⟩:∃c,ks[k]? =some c:=⟨_,zyh zE⟩
   obtain⟨vs,hvk⟩:∃vs,vss[k]? =some vs:=⟨_,zyh zE⟩
   have hsum:(ks.drop k).sum=c+(ks.drop (k+1)).sum:=by
    obtain⟨hk2,e⟩:=zxg.1 hc
    rw[zy4 hk2,e,List.sum_cons]
   have hle:(ks.drop k).sum<=ks.sum:=by
    conv=>rhs;rw[<-zv5 k ks,List.sum_append]
    omega
   obtain⟨f',rfl⟩:∃f',fu=f'+c+1:=⟨F+((ks.drop (k+1)).sum+(ns.length - (k+1))),zE⟩
   have c1:=pI (f'+c) B nm false la tx zE
   have cE:ak prog 159 [.ptr 81 0,.r (aD 3 ndC n.kids)] (ME (f'+c) B nm false la tx) ⟨.r (aD 15 vlE vs),MO f' B nm false la tx⟩:=by rw[show ndC=ndE from funext aI];exact h k n c vs hn hc hvk f' false la tx zE
   have e2:(vss.take k).flatMap vrC++vrC vs=(vss.take (k+1)).flatMap vrC:=by rw[lQ hvk];simp
   refine zg ?_;refine W.mV (k+1) f' ⟨hlt,zE⟩ zE (by
    refine St.aS [(100,some 29)] (by intro b h;exact SX.dB h rfl) ?_ ?_ rfl
    ·exact ye
    ·exact⟨ay.same rfl rfl,ay.same rfl rfl,ay.same rfl rfl,ay.same rfl rfl,ay.row rfl rfl rfl e2,trivial⟩)
  ·obtain rfl:k=vss.length:=zE
   rw[List.drop_of_length_le zE,List.sum_nil]at hfu
   obtain rfl:fu=F:=zE
   rw[zy8];refine WP.al3 100 hB rfl rfl rfl rfl ?_;refine zg ?_;exact gQ (xs:=[.agg (vlA v),eNo 0]) ⟨aj.fC rfl rfl rfl,aj.tmp rfl,trivial⟩ ⟨rfl,rfl,rfl,trivial⟩
 |true=>
  refine ak.fnM func158 results158 ntmps158 rfl rfl rfl rfl (by first|rfl|(cases u <;> rfl)) (by first|rfl|(cases u <;> rfl)) (by first|rfl|(cases u <;> rfl)) (fun w0 Tw Bw E0 hB=>?_)
  refine zg ?_;refine W.nu (fun k fu=>k<=ns.length/\fu=F+((ks.drop k).sum+(ns.length - k))) (fun k fu=>[(0,.ptr 81 0),(4,.ptr 4 0),(6,.own 100),(9,.r (aD 3 ndE ns)),(10,.v (.int .i64 (ns.length:Int))),(11,.v (.int .i64 (k:Int)))]) (fun k fu=>[(81,MB fu B true la),(82,.abs (iW (nmC nm))),(84,wO tx),(4,.box 61 vlZ),(100,.row 59 1 k ((vss.take k).flatMap vrC))]) (fun k _=>ns.length - k) 0 (F+(ks.sum+ns.length)) ⟨zq8 _,rfl⟩ (fun k fu ⟨hkn,hfu⟩=>?_)
   (by
    refine St.aS [(100,none)] (by intro b h;exact SX.dB h rfl) ?_ ?_ rfl
    ·exact yk
    ·exact⟨ay.same rfl rfl,ay.same rfl rfl,ay.same rfl rfl,ay.same rfl rfl,ay.dw rfl,trivial⟩)
  by_cases hlt:k < ns.length
  ·obtain⟨n,hn⟩:∃n,ns[k]? =some n:=⟨_,zyh hlt⟩
   obtain⟨c,hc⟩:∃c,ks[k]? =some c:=⟨_,zyh zE⟩
   obtain⟨vs,hvk⟩:∃vs,vss[k]? =some vs:=⟨_,zyh zE⟩
   have hsum:(ks.drop k).sum=c+(ks.drop (k+1)).sum:=by
    obtain⟨hk2,e⟩:=zxg.1 hc
    rw[zy4 hk2,e,List.sum_cons]
   have hle:(ks.drop k).sum<=ks.sum:=by
    conv=>rhs;rw[<-zv5 k ks,List.sum_append]
    omega
   obtain⟨f',rfl⟩:∃f',fu=f'+c+1:=⟨F+((ks.drop (k+1)).sum+(ns.length - (k+1))),zE⟩
   have c1:=pI (f'+c) B nm true la tx zE
   have cE:ak prog 159 [.ptr 81 0,.r (aD 3 ndC n.kids)] (ME (f'+c) B nm true la tx) ⟨.r (aD 15 vlE vs),MO f' B nm true la tx⟩:=by rw[show ndC=ndE from funext aI];exact h k n c vs hn hc hvk f' true la tx zE
   have e2:(vss.take k).flatMap vrC++vrC vs=(vss.take (k+1)).flatMap vrC:=by rw[lQ hvk];simp
   refine zg ?_;refine W.mV (k+1) f' ⟨hlt,zE⟩ zE (by
    refine St.aS [(100,some 29)] (by intro b h;exact SX.dB h rfl) ?_ ?_ rfl
    ·exact ye
    ·exact⟨ay.same rfl rfl,ay.same rfl rfl,ay.same rfl rfl,ay.same rfl rfl,ay.row rfl rfl rfl e2,trivial⟩)
  ·obtain rfl:k=vss.length:=zE
   rw[List.drop_of_length_le zE,List.sum_nil]at hfu
   obtain rfl:fu=F:=zE
   rw[zy8];refine WP.al3 100 hB rfl rfl rfl rfl ?_;refine zg ?_;exact gQ (xs:=[.agg (vlA v),eNo 0]) ⟨aj.fC rfl rfl rfl,aj.tmp rfl,trivial⟩ ⟨rfl,rfl,rfl,trivial⟩
end
section
def adD{B:Nat}:∀{l:List Nat} {b:Nat},(∀x∈l,x<=B)->b<=B->l.foldl max b<=B
 |[],b,_,h=>h
 |x::l,b,h,hb=>adD (l:=l) (b:=max b x) (fun y hy=>h y (zy2 _ hy)) (by have:=h x zq9;omega)
def aiv{α β:Type}[Inhabited β]{l:List α}{P:α->β->Prop}(h:∀x∈l,∃b,P x b):∃g:α->β,∀x∈l,P x (g x):=by
 classical
 exact⟨fun x=>if hx:x∈l then(h x hx).choose else default,fun x hx=>by simp only[dif_pos hx];exact(h x hx).choose_spec⟩
def ayi{x:Nat}(h:x < 2 ^ K):bitLen x<=K:=by
 by_cases h0:x=0
 ·rw[pE.2 h0];omega
 ·have h1:=(bitLen_spec x).2 h0;have h2:2 ^ (bitLen x - 1) < 2 ^ K:=zxb h1 h;have:=(Nat.pow_lt_pow_iff_right (a:=2) zE).1 h2
  omega
def vw{x k:Nat}(h:x < WB ^ k):bitLen x<=64*k:=by
 refine ayi (zqf h ?_);rw[kS,<-Nat.pow_mul];exact zq6 _
def alj{x:Rat}(h:RB x K):qB x<=64*K:=by
 have h1:=vw h.n;have h2:=vw h.d;unfold qB;omega
attribute [local irreducible] IntKind.wrap Go1 Reg WP aK aN bD aZ aJ aA aj ak aT Sat
attribute [local irreducible] cq qB
def bN0:ah prog 31 [.r (bI (0:Int).natAbs)] (.v (.int .i64 0)):=by
 haveI:BdN 0 1:=⟨by rw[bf];decide⟩
 exact(zW (a:= .sat (bI 0))).h zc
def aps{r:Nat}(h:∀v∈vs,RB v K)(hK:K<=1000)(hl:vs.length<=10000):ah prog 212 [.agg (vlA (dW r c vs))] (.v (.int .i64 (((vs.map qB).foldl max 0:Nat):Int))):=by
 have cO:=akL 0 zc zc
 have cB:=bN0;have m1:((vs.map cq).map rq).length=vs.length:=xw vs;have m2:((dW r c vs).a.map rq).length=vs.length:=xw vs;refine ah.fq func212 ?_;intros
 refine zg ?_;refine W.nu (fun k m=>k<=vs.length/\m<=64000/\m=((vs.take k).map qB).foldl max 0) (fun k m=>[(3,.v (.int .i64 (m:Int))),(25,.r (aD 4 q4C (mq vs))),(26,.v (.int .i64 (vs.length:Int))),(27,.v (.int .i64 (k:Int)))]) (fun _ _=>[]) (fun k _=>vs.length - k) 0 0 ⟨zq8 _,zq8 _,rfl⟩ (fun k m ⟨hk,hm,hmm⟩=>?_)
  (by
   refine St.aS [] z6 ?_ ?_ rfl
   ·exact yl
   ·exact trivial)
 by_cases hk2:k < vs.length
 ·obtain⟨x,hx⟩:∃x,vs[k]? =some x:=⟨_,zyh hk2⟩
  have hx':(mq vs)[k]? =some (rq (cq x)):=by rw[zqa,zqa,hx];rfl
  have h':k < (mq vs).length:=by rw[xw];exact hk2
  have hb:=h x (zq4 hx);have cx:=ae4 (q:=cq x) (by have:=(vZ0.num hb (show K<=100000 by omega)).q.2;dsimp only at this;omega)
  rw[jF]at cx;have hq:=alj hb;have e1:((vs.take (k+1)).map qB).foldl max 0=max m (qB x):=by rw[zw7,hx,hmm];simp
  refine zg ?_;exact W.mV (k+1) (max m (qB x)) ⟨hk2,zE,e1.symm⟩ zE
 ·obtain rfl:k=vs.length:=zE
  rw[zy8]at hmm;refine zg ?_;refine dZ ?_;rw[<-hmm]
def anS(h:∀z∈zs,z.natAbs < WB ^ K)(hK:K<=1000)(hl:zs.length<=10000):ah prog 212 [.agg (vlA (gP zs))] (.v (.int .i64 (((zs.map fun z=>bitLen z.natAbs).foldl max 0:Nat):Int))):=by
 have cO:=akL 0 zc zc
 have cB:=bN0;have m1:((zs.map cz).map rz).length=zs.length:=akf zs;have m2:((gP zs).po.map rz).length=zs.length:=akf zs;refine ah.fq func212 ?_;intros
 refine zg ?_;refine W.nu (fun k m=>k<=zs.length/\m<=64000/\m=((zs.take k).map fun z=>bitLen z.natAbs).foldl max 0) (fun k m=>[(3,.v (.int .i64 (m:Int))),(39,.r (aD 2 z2C (mz zs))),(40,.v (.int .i64 (zs.length:Int))),(41,.v (.int .i64 (k:Int)))]) (fun _ _=>[]) (fun k _=>zs.length - k) 0 0 ⟨zq8 _,zq8 _,rfl⟩ (fun k m ⟨hk,hm,hmm⟩=>?_)
  (by
   refine St.aS [] z6 ?_ ?_ rfl
   ·exact yl
   ·exact trivial)
 by_cases hk2:k < zs.length
 ·obtain⟨z,hz⟩:∃z,zs[k]? =some z:=⟨_,zyh hk2⟩
  have hz':(mz zs)[k]? =some (rz (cz z)):=by rw[zqa,zqa,hz];rfl
  have h':k < (mz zs).length:=by rw[akf];exact hk2
  have hb:=h z (zq4 hz);have hlen:(cz z).2.length<=K:=nI hb;have cx:ah prog 167 [.agg [.c (.val (.bool (cz z).1)),.c (.sat (dV (cz z).2))]] (.v (.int .i64 (bitLen (rzv (cz z)).natAbs:Int))):=(fE (h:=ZI.raw (cz z).1 (cz z).2)).h zE
  rw[pV]at cx;have hq:=vw hb;have e1:((zs.take (k+1)).map fun z=>bitLen z.natAbs).foldl max 0=max m (bitLen z.natAbs):=by rw[zw7,hz,hmm];simp
  refine zg ?_;exact W.mV (k+1) (max m (bitLen z.natAbs)) ⟨hk2,zE,e1.symm⟩ zE
 ·obtain rfl:k=zs.length:=zE
  rw[zy8]at hmm;refine zg ?_;refine dZ ?_;rw[<-hmm]
def amx(v:Vl)(h:v.k=4\/v.k=5)(hp:v.p < WB):ah prog 212 [.agg (vlA v)] (.v (.int .i64 (bitLen v.p:Int))):=by
 have cO:=nOf v.p hp;have cB:ah prog 31 [.r (bI v.p)] (.v (.int .i64 (bitLen v.p:Int))):=by
  haveI:BdN v.p 1:=⟨by rw[zxh];exact hp⟩
  exact(zW (a:= .sat (bI v.p))).h zc
 have hk:¬v.k=1/\¬v.k=2/\¬v.k=3/\¬v.k=6:=zE
 obtain⟨h1,h2,h3,h6⟩:=hk;refine ah.fq func212 ?_;intros
 refine zg ?_;exact dZ rfl
def avW(v:Vl)(g:Vl->Nat)(h:v.k=6)(hp:v.p=0)(hl:v.li.length<=1000000)(hg:∀x∈v.li,g x<=64000)(hx:∀x∈v.li,ah prog 212 [.agg (vlA x)] (.v (.int .i64 (g x:Int)))):
  ah prog 212 [.agg (vlA v)] (.v (.int .i64 (((v.li.map g).foldl max 0:Nat):Int))):=by
 have cO:ah prog 21 [.v (.int .u64 (v.p:Int))] (.r (bI (0:Int).natAbs)):=by rw[hp];exact akL 0 zc zc
 have cB:=bN0;rw[anf];refine ah.fq func212 ?_;intros
 refine zg ?_;refine W.nu (fun k m=>k<=v.li.length/\m<=64000/\m=((v.li.take k).map g).foldl max 0) (fun k m=>[(3,.v (.int .i64 (m:Int))),(53,.r (aD 15 vlE v.li)),(54,.v (.int .i64 (v.li.length:Int))),(55,.v (.int .i64 (k:Int)))]) (fun _ _=>[]) (fun k _=>v.li.length - k) 0 0 ⟨zq8 _,zq8 _,rfl⟩ (fun k m ⟨hk,hm,hmm⟩=>?_)
 by_cases hlt:k < v.li.length
 ·obtain⟨x,hx'⟩:∃x,v.li[k]? =some x:=⟨_,zyh hlt⟩
  have c:=hx x (zq4 hx');have hgx:=hg x (zq4 hx');have e1:((v.li.take (k+1)).map g).foldl max 0=max m (g x):=by rw[zw7,hx',hmm];simp
  refine zg ?_;exact W.mV (k+1) (max m (g x)) ⟨hlt,zE,e1.symm⟩ zE
 ·obtain rfl:k=v.li.length:=zE
  rw[zy8]at hmm;refine zg ?_;refine dZ ?_;rw[<-hmm]
def a0f{b:Nat}(hF:ah prog 44 [.agg (vlA v)] (.v (.bool true)))(h:ah prog 212 [.agg (vlA v)] (.v (.int .i64 (b:Int)))):ah prog 194 [.agg (vlA v)] (.v (.int .i64 (b:Int))):=by
 refine ah.fq func194 ?_;intros
 refine zg ?_;exact dZ rfl
end
inductive dH:List UInt8->List Wrd->Prop
 |nil {s:List UInt8} (h:s.drop (gp false s)=[]):dH s []
 |cons {s t:List UInt8} {w:Wrd} {ws:List Wrd} (h:s.drop (gp false s)=w.2++t) (h1:fst (w.2++t)=⟨w.1,w.2,0⟩) (h2:w.1≠0) (h3:w.2≠[]) (k:dH t ws):dH s (w::ws)
def dH.W{l:List UInt8}{ws:List Wrd}(h:dH s ws):∀k,l.drop k=s->(tu l (k+gp false s)).2=none/\(tu l (k+gp false s)).1.map kt=ws:=by
 induction h with
 | @nil s h=>
  intro k hk;have hl:l.length<=k+gp false s:=by
   rw[<-hk,List.drop_drop,hk]at h;exact List.drop_eq_nil_iff.1 h
  rw[tu.eq_1,dif_pos hl];exact⟨rfl,rfl⟩
 | @cons s t w ws h h1 h2 h3 _ ih=>
  intro k hk;have hd:l.drop (k+gp false s)=w.2++t:=by rw[<-List.drop_drop,hk,h]
  have hd2:l.drop (k+gp false s+w.2.length)=t:=by rw[<-List.drop_drop,hd,List.drop_left' rfl]
  have ih:=ih _ hd2;have hw:w.2.length≠0:=by simpa using h3
  have hlen:=congrArg List.length hd;rw[zxe,zqi]at hlen;generalize k+gp false s=j at*;have hf:fst (l.drop j)=⟨w.1,w.2,0⟩:=by rw[hd];exact h1
  rw[tu.eq_1,dif_neg zE,hf]
  rw[dif_neg (by
   rintro(h4|h4)
   ·exact h2 h4
   ·exact hw h4)]
  show ((tu l (j+w.2.length+gp false (l.drop (j+w.2.length)))).2=none/\(kt ⟨w.1,w.2,j⟩::(tu l (j+w.2.length+gp false (l.drop (j+w.2.length)))).1.map kt)=w::ws);rw[hd2];exact⟨ih.1,by rw[ih.2];rfl⟩
def dH.R{l:List UInt8}{ws:List Wrd}(h:dH l ws)(hl:l.length<=20000):∃ts,afD l=(ts,0,0)/\ts.map kt=ws/\ts.all iZ=true:=by
 obtain⟨h1,h2⟩:=h.W 0 List.drop_zero;rw[zv7]at h1 h2;refine⟨(tu l (gp false l)).1,?_,h2,(alW l _).2.1⟩;unfold afD;rw[if_neg zE,h1]
def NW(r:List UInt8):Prop:=r=[]\/∃c m,r=c::m/\wrd c=false
def asO{c:UInt8}{r:List UInt8}(h:srt c≠1)(h2:c.toNat≠35):gp false (c::r)=0:=by
 rw[gp,if_neg h,if_neg h2]
def dH.sp{c:UInt8}{r:List UInt8}{ws:List Wrd}(hc:srt c=1)(h:dH r ws):dH (c::r) ws:=by
 have e:(c::r).drop (gp false (c::r))=r.drop (gp false r):=by
  rw[gp,if_pos hc,Nat.add_comm,List.drop_succ_cons]
 cases h with
 |nil h=>exact .nil (by rw[e];exact h)
 |cons h h1 h2 h3 k=>exact .cons (by rw[e];exact h) h1 h2 h3 k
def auM(l r:List UInt8)(h:l.all wrd=true)(hr:NW r):run (l++r)=l.length:=by
 have hr0:r.takeWhile wrd=[]:=by
  rcases hr with rfl|⟨c,m,rfl,hc⟩
  ·rfl
  ·rw[List.takeWhile_cons,hc];rfl
 unfold run;rw[List.takeWhile_append_of_pos (by simpa using h),hr0,zqb]
def dH.num{r:List UInt8}{ws:List Wrd}(hw:num w=true)(hr:NW r)(h:dH r ws):dH (w++r) ((1,w)::ws):=by
 obtain⟨h1,c,m,e,hc⟩:=aeK hw;have hg:gp false (w++r)=0:=by
  rw[e,List.cons_append];exact asO zE (by rw[srt2]at hc;omega)
 refine .cons (by rw[hg];rfl) ?_ (by decide:(1:Int)≠0) (by rw[e];simp) h
 show fst (w++r)=_;unfold fst;rw[auM w r h1 hr,List.take_left' rfl,if_pos hw]
def dH.nam{r:List UInt8}{ws:List Wrd}(hw:nam w=true)(hr:NW r)(h:dH r ws):dH (w++r) ((2,w)::ws):=by
 obtain⟨h1,c,m,e,hc⟩:=afh hw;have hg:gp false (w++r)=0:=by
  rw[e,List.cons_append];exact asO zE (by rw[srt3]at hc;omega)
 have hn:Go.Proofs.YtcamgbgfelmbaaaGreatDoor.num w=false:=by
  cases h2:Go.Proofs.YtcamgbgfelmbaaaGreatDoor.num w with
  |false=>rfl
  |true=>
   obtain⟨_,c',m',e',hc'⟩:=aeK h2;rw[e]at e';cases e';omega
 refine .cons (by rw[hg];rfl) ?_ (by decide:(2:Int)≠0) (by rw[e];simp) h
 show fst (w++r)=_;unfold fst;rw[auM w r h1 hr,List.take_left' rfl,hn,if_neg zc,if_pos hw]
def sgc(c:UInt8):Bool:=!wrd c&&sg1 [c]&&!decide (srt c=1)&&!decide (c.toNat=35)&&!decide (c=61)&&!decide (c=33)&&!decide (c=60)&&!decide (c=46)
def dH.sg{c:UInt8}{r:List UInt8}{ws:List Wrd}(hc:sgc c=true)(h:dH r ws):dH (c::r) (Go.Proofs.YtcamgbgfelmbaaaGreatDoor.sg [c]::ws):=by
 unfold sgc at hc;simp only[zx4,Bool.not_eq_true',decide_eq_false_iff_not]at hc;obtain⟨⟨⟨⟨⟨⟨⟨h1,h2⟩,h3⟩,h4⟩,h5⟩,h6⟩,h7⟩,h8⟩:=hc;refine .cons (w:=Go.Proofs.YtcamgbgfelmbaaaGreatDoor.sg [c]) (t:=r) (by rw[asO h3 h4];rfl) ?_ (fun e=>by have e':(3:Int)=0:=e;omega) (fun e=>by cases e) h
 show fst (c::r)=_;have hr:run (c::r)=0:=by unfold run;rw[List.takeWhile_cons,h1];rfl
 have hn:Go.Proofs.YtcamgbgfelmbaaaGreatDoor.num []=false:=by unfold Go.Proofs.YtcamgbgfelmbaaaGreatDoor.num;rfl
 have hm:Go.Proofs.YtcamgbgfelmbaaaGreatDoor.nam []=false:=by unfold Go.Proofs.YtcamgbgfelmbaaaGreatDoor.nam;rfl
 unfold fst;rw[hr,List.take_zero,hn,if_neg zc,hm,if_neg zc,if_neg ?_,show (c::r).take 1=[c]from rfl,if_pos h2]
 rintro⟨_,h9⟩;have hh:∀d:UInt8,c≠d->∀e,(c::r).take 2≠[d,e]:=fun d hd e h=>by
  rw[List.take_succ_cons]at h;exact hd (List.cons.inj h).1
 rcases h9 with h9|h9|h9|h9
 ·exact hh _ h5 _ h9
 ·exact hh _ h6 _ h9
 ·exact hh _ h7 _ h9
 ·exact hh _ h8 _ h9
def jH{x:Nat}(h:(aQ x).length<=2000):num (aQ x)=true:=by
 have hk:∀l:List UInt8,l.all isD=true->dgL l=true:=fun l hl=>by
  unfold dgL;rw[zqh]at*;intro c hc;have:=hl c hc;unfold isD at this;rw[decide_eq_true_iff,srt2];simpa using this
 unfold num;rw[zx4,decide_eq_true_iff];unfold aQ at h ⊢;by_cases h0:x=0
 ·rw[if_pos h0];exact⟨⟨zc,zc,.inl rfl⟩,by unfold dgL;simp only[List.all_cons,List.all_nil,Bool.and_true,decide_eq_true_iff,srt2];decide⟩
 ·rw[if_neg h0]at h ⊢;obtain⟨f1,f2,f3⟩:=zQ x;exact⟨⟨(f3 h0).2,h,.inr (f3 h0).1⟩,hk _ f1⟩
def LV(s:List UInt8)(ws:List Wrd):Prop:=∀r rw,NW r->dH r rw->dH (s++r) (ws++rw)
def aoX{c:UInt8}{r:List UInt8}(h:wrd c=false):NW (c::r):= .inr ⟨c,r,rfl,h⟩
def LV.num{w:List UInt8}(h:num w=true):LV w [(1,w)]:=fun r rw hr h2=>dH.num h hr h2
def LV.sg{c:UInt8}{s:List UInt8}{ws:List Wrd}(hc:sgc c=true)(h:LV s ws):LV (c::s) (Go.Proofs.YtcamgbgfelmbaaaGreatDoor.sg [c]::ws):=fun r rw hr h2=>dH.sg hc (h r rw hr h2)
def LV.nil:LV [] []:=fun r rw hr h2=>h2
def aik{c:UInt8}(h:sgc c=true):wrd c=false:=by
 unfold sgc at h;simp only[zx4,Bool.not_eq_true']at h;exact h.1.1.1.1.1.1.1
def LV.mid{c:UInt8}{us ws:List Wrd}(h1:LV s us)(hc:sgc c=true)(h:LV t ws):LV (s++c::t) (us++Go.Proofs.YtcamgbgfelmbaaaGreatDoor.sg [c]::ws):=fun r rw hr h2=>by
 have h3:=h1 (c::(t++r)) _ (aoX (aik hc)) (dH.sg hc (h r rw hr h2));simpa using h3
def LV.midB{c:UInt8}{us ws:List Wrd}(h1:LV s us)(hc:sgc c=true)(h:LV t ws):LV (s++c::32::t) (us++Go.Proofs.YtcamgbgfelmbaaaGreatDoor.sg [c]::ws):=fun r rw hr h2=>by
 have h3:=h1 (c::32::(t++r)) _ (aoX (aik hc)) (dH.sg hc (dH.sp (by unfold srt;decide) (h r rw hr h2)))
 simpa using h3
def LV.nam{c:UInt8}{w t:List UInt8}{ws:List Wrd}(hw:nam w=true)(hc:sgc c=true)(h:LV t ws):LV (w++c::t) ((2,w)::Go.Proofs.YtcamgbgfelmbaaaGreatDoor.sg [c]::ws):=fun r rw hr h2=>by
 have h3:=dH.nam hw (aoX (aik hc)) (dH.sg hc (h r rw hr h2));simpa using h3
def LV.end{c:UInt8}{us:List Wrd}(h1:LV s us)(hc:sgc c=true):LV (s++[c]) (us++[Go.Proofs.YtcamgbgfelmbaaaGreatDoor.sg [c]]):=LV.mid h1 hc LV.nil
def LV.jn{c:UInt8}(hc:sgc c=true):∀(l:List (List UInt8×List Wrd)),(∀x∈l,LV x.1 x.2)->LV (jn c (l.map (·.1))) (acG (Go.Proofs.YtcamgbgfelmbaaaGreatDoor.sg [c]) (l.map (·.2)))
 |[],_=>LV.nil
 |[x],h=>h x (zq9 ..)
 |x::y::l,h=>LV.midB (h x (zq9 ..)) hc (LV.jn hc (y::l) fun z hz=>h z (zy2 _ hz))
def eP:sgc 45=true/\sgc 47=true/\sgc 44=true/\sgc 59=true/\sgc 91=true/\sgc 93=true/\sgc 40=true/\sgc 41=true/\sgc 123=true/\sgc 125=true:=by
 refine⟨?_,?_,?_,?_,?_,?_,?_,?_,?_,?_⟩ <;> (unfold sgc wrd sg1 srt;decide)
def yT:nam [122,101,114,111]=true/\nam [112,111,108,121]=true/\nam [109,111,100]=true:=by
 refine⟨?_,?_,?_⟩ <;> (unfold nam run wrd srt;decide)
def LV.zS{z:Int}(h:(aQ z.natAbs).length<=2000):LV (zS z) (if z < 0 then [Go.Proofs.YtcamgbgfelmbaaaGreatDoor.sg [45],(1,aQ z.natAbs)]else [(1,aQ z.natAbs)]):=by
 unfold Go.Proofs.YtcamgbgfelmbaaaGreatDoor.zS
 split
 ·exact LV.sg eP.1 (LV.num (jH h))
 ·exact LV.num (jH h)
def PW(ws:List Wrd)(m:Nd):Prop:=∀(l:List Tok) f o r,ahU r->(ws++r).length < f->o+2*dep m+1<=600->∀a,rst l a=ws++r->(lev 600 l f).1 a o= .ok m (a+ws.length)
abbrev WN:=List Wrd×Nd
abbrev jW(ks:List WN):List Wrd:=acG (sg [44]) (ks.map (·.1))
abbrev kN(ks:List WN):List Nd:=ks.map (·.2)
abbrev noE:List (List UInt8):=[[91],[94],[42],[47],[43],[45],[61,61],[33,61],[60],[60,61],[40],[44]]
def ayG(he:e∉noE)(r:List Wrd):ahU (sg e::r):=vL (fun h=>he (List.mem_append_left [[44]] h)) r
def ahu{l:List Tok}{f o:Nat}{e:List UInt8}(he:e∉noE):∀(ks:List WN) (ab:List Nd) (g a:Nat) (r:List Wrd),ks≠[]->(∀k∈ks,PW k.1 k.2/\o+2*dep k.2+1<=600)->
  (jW ks++sg e::r).length < f->(jW ks++sg e::r).length < g+1->rst l a=jW ks++sg e::r->uf l (lev 600 l f).1 e g ab a o= .ok (.mk 0 [] (ab++kN ks)) (a+(jW ks).length+1)
 |[],_,_,_,_,h,_,_,_,_=>absurd rfl h
 |[k],ab,g,a,r,_,hP,hf,hg,hr=>by
  obtain⟨h1,h2⟩:=hP k zp
  have hj:jW [k]=k.1:=rfl;rw[hj]at hf hg hr ⊢;rw[zqi,zx6]at hg;obtain⟨g,rfl⟩:∃k,g=k+1:=⟨g - 1,zE⟩
  unfold uf;rw[h1 l f o _ (ayG he r) hf h2 a hr];show (if isS l (a+k.1.length) e then _ else _)=_
  rw[bK,jJ hr,if_pos (by simp[hS])];rfl
 |k::k2::ks,ab,g,a,r,_,hP,hf,hg,hr=>by
  obtain⟨h1,h2⟩:=hP k zp
  have hj:jW (k::k2::ks)=k.1++sg [44]::jW (k2::ks):=rfl;have hr':rst l a=k.1++sg [44]::(jW (k2::ks)++sg e::r):=by rw[hr,hj];simp
  have hlen:(k.1++sg [44]::(jW (k2::ks)++sg e::r)).length=(jW (k::k2::ks)++sg e::r).length:=by rw[hj];simp
  have hlen2:(jW (k::k2::ks)++sg e::r).length=k.1.length+1+(jW (k2::ks)++sg e::r).length:=by rw[hj];simp;omega
  obtain⟨g,rfl⟩:∃k,g=k+1:=⟨g - 1,zE⟩
  have he':ahU (sg [44]::(jW (k2::ks)++sg e::r)):=vL zc _
  unfold uf;rw[h1 l f o _ he' (by rw[hlen];exact hf) h2 a hr']
  show (if isS l (a+k.1.length) e then _ else if isS l (a+k.1.length) [44]then _ else _)=_
  have hrr:=jJ hr';have hne:e≠[44]:=fun h=>he (by rw[h];decide)
  rw[bK,hrr,if_neg (by simp[hS,Ne.symm hne]),bK,hrr,if_pos (by simp[hS])]
  rw[ahu he (k2::ks) (ab++[k.2]) g (a+k.1.length+1) r zp (fun x hx=>hP x (by simp at hx ⊢;exact .inr hx)) zE zE (jC hrr)]
  rw[hj];simp;omega
def HD(ws:List Wrd)(e:List UInt8):Prop:=∃w r,ws=w::r/\∀r',hS (w::r') e=false
def afd(he:e∉noE){ks:List WN}{a:Nat}{r:List Wrd}(hP:∀k∈ks,PW k.1 k.2/\o+2*dep k.2+1<=600/\HD k.1 e)(hf:(jW ks++sg e::r).length < f)(hr:rst l a=jW ks++sg e::r):jV l (lev 600 l f).1 e a o= .ok (.mk 0 [] (kN ks)) (a+(jW ks).length+1):=by
 unfold jV;cases ks with
 |nil=>
  have hr:rst l a=sg e::r:=hr;rw[bK,hr,if_pos (by simp[hS])];rfl
 |cons k ks=>
  have hh:∀r',hS (jW (k::ks)++r') e=false:=by
   intro r';obtain⟨w,u,hw,h1⟩:=(hP k zp).2.2
   cases ks with
   |nil=>rw[show jW [k]=k.1 from rfl,hw];exact h1 _
   |cons k2 ks=>rw[show jW (k::k2::ks)=k.1++sg [44]::jW (k2::ks)from rfl,hw];exact h1 _
  have hl:=amT hr zp
  rw[bK,hr,if_neg (by rw[hh];decide),ahu he (k::ks) [] (l.length+1) a r zp (fun x hx=>⟨(hP x hx).1,(hP x hx).2.1⟩) hf zE hr];rfl
def agq{l:List Tok}{f o:Nat}{e:List UInt8}(he:e=[59]\/e=[93])(rs:List Nd):∀(ks:List WN) (ab:List Nd) (g a:Nat) (r:List Wrd),ks≠[]->(∀k∈ks,PW k.1 k.2/\o+2*dep k.2+1<=600)->
  (jW ks++sg e::r).length < f->(jW ks++sg e::r).length < g+1->rst l a=jW ks++sg e::r->∃g',(sg e::r).length < g'+2/\
  tY l (lev 600 l f).1 g rs ab a o=if e=[59]then tY l (lev 600 l f).1 g' (rs++[.mk 15 [] (ab++kN ks)]) [] (a+(jW ks).length+1) o else .ok (.mk 14 [] (rs++[.mk 15 [] (ab++kN ks)])) (a+(jW ks).length+1)
 |[],_,_,_,_,h,_,_,_,_=>absurd rfl h
 |[k],ab,g,a,r,_,hP,hf,hg,hr=>by
  obtain⟨h1,h2⟩:=hP k zp
  have hj:jW [k]=k.1:=rfl;rw[hj]at hf hg hr ⊢;rw[zqi]at hg;have hgl:1<=(sg e::r).length:=by simp
  obtain⟨g,rfl⟩:∃k,g=k+1:=⟨g - 1,zE⟩
  refine⟨g,zE,?_⟩
  have he':ahU (sg e::r):=vL (by rcases he with rfl|rfl <;> decide) r
  rw[tY]
  dsimp only
  rw[h1 l f o _ he' hf h2 a hr];show (if isS l (a+k.1.length) [44]then _ else if isS l (a+k.1.length) [59]then _ else if isS l (a+k.1.length) [93]then _ else _)=_
  rw[bK,bK,bK,jJ hr];rcases he with rfl|rfl
  ·rfl
  ·rfl
 |k::k2::ks,ab,g,a,r,_,hP,hf,hg,hr=>by
  obtain⟨h1,h2⟩:=hP k zp
  have hj:jW (k::k2::ks)=k.1++sg [44]::jW (k2::ks):=rfl;have hr':rst l a=k.1++sg [44]::(jW (k2::ks)++sg e::r):=by rw[hr,hj];simp
  have hlen:(k.1++sg [44]::(jW (k2::ks)++sg e::r)).length=(jW (k::k2::ks)++sg e::r).length:=by rw[hj];simp
  have hlen2:(jW (k::k2::ks)++sg e::r).length=k.1.length+1+(jW (k2::ks)++sg e::r).length:=by rw[hj];simp;omega
  obtain⟨g,rfl⟩:∃k,g=k+1:=⟨g - 1,zE⟩
  have he':ahU (sg [44]::(jW (k2::ks)++sg e::r)):=vL zc _
  have hrr:=jJ hr';obtain⟨g',hg',ih⟩:=agq (f:=f) (o:=o) he rs (k2::ks) (ab++[k.2]) g (a+k.1.length+1) r zp (fun x hx=>hP x (by simp at hx ⊢;exact .inr hx)) zE zE (jC hrr)
  refine⟨g',hg',?_⟩;rw[tY]
  dsimp only
  rw[h1 l f o _ he' (by rw[hlen];exact hf) h2 a hr']
  show (if isS l (a+k.1.length) [44]then _ else _)=_
  rw[bK,hrr,if_pos (by rfl),ih]
  have e1:a+k.1.length+1+(jW (k2::ks)).length+1=a+(jW (k::k2::ks)).length+1:=by rw[hj];simp;omega
  rw[e1,zqj];rfl
abbrev jM(rs:List (List WN)):List Wrd:=acG (sg [59]) (rs.map jW)
abbrev kM(rs:List (List WN)):List Nd:=rs.map fun ks=> .mk 15 [] (kN ks)
def amE{l:List Tok}{f o:Nat}:∀(rs:List (List WN)) (ab:List Nd) (g a:Nat) (r:List Wrd),rs≠[]->(∀x∈rs,x≠[])->(∀x∈rs,∀k∈x,PW k.1 k.2/\o+2*dep k.2+1<=600)->
  (jM rs++sg [93]::r).length < f->(jM rs++sg [93]::r).length < g+1->rst l a=jM rs++sg [93]::r->
  tY l (lev 600 l f).1 g ab [] a o= .ok (.mk 14 [] (ab++kM rs)) (a+(jM rs).length+1)
 |[],_,_,_,_,h,_,_,_,_,_=>absurd rfl h
 |[x],ab,g,a,r,_,hx,hP,hf,hg,hr=>by
  have hj:jM [x]=jW x:=rfl;rw[hj]at hf hg hr ⊢;obtain⟨g',_,h1⟩:=agq (f:=f) (o:=o) (.inr rfl) ab x [] g a r (hx x zp) (hP x zp) hf hg hr
  rw[h1,if_neg zc];rfl
 |x::y::rs,ab,g,a,r,_,hx,hP,hf,hg,hr=>by
  have hj:jM (x::y::rs)=jW x++sg [59]::jM (y::rs):=rfl;have hr':rst l a=jW x++sg [59]::(jM (y::rs)++sg [93]::r):=by rw[hr,hj];simp
  have hlen:(jW x++sg [59]::(jM (y::rs)++sg [93]::r)).length=(jM (x::y::rs)++sg [93]::r).length:=by rw[hj];simp
  have hlen2:(jW x++sg [59]::(jM (y::rs)++sg [93]::r)).length=(jW x).length+1+(jM (y::rs)++sg [93]::r).length:=by simp;omega
  obtain⟨g',hg',h1⟩:=agq (f:=f) (o:=o) (.inl rfl) ab x [] g a _ (hx x zp) (hP x zp) (by rw[hlen];exact hf) (by rw[hlen];exact hg) hr'
  rw[zx6]at hg';rw[h1,if_pos rfl,zvd,amE (f:=f) (o:=o) (y::rs) (ab++[Nd.mk 15 [] (kN x)]) g' (a+(jW x).length+1) r zp (fun z hz=>hx z (by simp at hz ⊢;exact .inr hz)) (fun z hz=>hP z (by simp at hz ⊢;exact .inr hz)) zE zE (jC (jJ hr'))]
  rw[hj];simp;omega
def PW.prim{w:Wrd}{u:List Wrd}(hh:∀r,hS (w::r) [45]=false)(h:∀(l:List Tok) f o r,hS r [40]=false->(w::(u++r)).length < f+1->o+2*dep m+1<=600->∀a,rst l a=w::(u++r)->qF 600 l (lev 600 l f).1 a o= .ok m (a+(u.length+1))):PW (w::u) m:=fun l f o r hr hf ho a ha=>by
 have hpos:1<=(w::u++r).length:=by simp
 obtain⟨f,rfl⟩:∃k,f=k+1:=⟨f - 1,zE⟩
 show wS l (unG 600 l (lev 600 l f).1 (lev 600 l f).2) a o=_;have hend:=jJ ha;have hp:=h l f o r (hr [40] zc) (by simpa using hf) ho a (by simpa using ha)
 have hlen:(w::u).length=u.length+1:=rfl;rw[hlen]at hend ⊢;exact acO (mY (mY (adz hp (by rw[ha];exact hh _) (by rw[hend];exact hr _ zc) (by rw[hend];exact hr _ zc)) (by rw[hend];exact hr _ zc) (by rw[hend];exact hr _ zc)) (by rw[hend];exact hr _ zc) (by rw[hend];exact hr _ zc)) (by rw[hend];exact hr _ zc) (by rw[hend];exact hr _ zc) (by rw[hend];exact hr _ zc) (by rw[hend];exact hr _ zc)
abbrev nmN(t:List UInt8):Nd:= .mk 1 t []
def PW.num(t:List UInt8):PW [(1,t)] (nmN t):=PW.prim (w:=(1,t)) (u:=[]) (fun r=>rfl) fun l f o r _ _ _ a ha=>by
 rw[oM (w:=(1,t)) (r:=r) ha,if_pos rfl];rfl
def PW.call(ht:tx 2 t=true){ks:List WN}(hk:∀k∈ks,PW k.1 k.2/\HD k.1 [41]):PW ((2,t)::sg [40]::(jW ks++[sg [41]])) (.mk 13 t (kN ks)):=
 PW.prim (w:=(2,t)) (u:=sg [40]::(jW ks++[sg [41]])) (fun r=>by
  show (!decide ((2:Int)=1)&&decide (t=[45]))=false;simp[axy ht (c:=45) (m:=[]) zc]) fun l f o r hr hf ho a h=>by
 have h:rst l a=(2,t)::sg [40]::(jW ks++sg [41]::r):=by rw[h];simp
 have hf:((2,t)::sg [40]::(jW ks++sg [41]::r)).length < f+1:=by simpa using hf
 rw[oM h,if_neg (show¬(2:Int)=1 by decide),ag5 ht,if_pos rfl,if_pos (by rfl)]
 have hL:=afd (l:=l) (f:=f) (o:=o+1) (e:=[41]) zc (ks:=ks) (a:=a+2) (r:=r) (fun k hkm=>⟨(hk k hkm).1,by have:=mh (o:=13) (t:=t) (show k.2∈kN ks from List.mem_map_of_mem hkm);omega,(hk k hkm).2⟩) (by simp only[zx6]at hf;omega) (jC (jC h))
 refine afJ zE ?_
 show jf _ (jV l (lev 600 l f).1 [41] (a+2) (o+1))=_;rw[hL];show Res.ok _ _=_
 congr 1;simp;omega
def PW.mat{rs:List (List WN)}(h0:rs≠[])(hx:∀x∈rs,x≠[])(hk:∀x∈rs,∀k∈x,PW k.1 k.2):PW (sg [91]::(jM rs++[sg [93]])) (.mk 14 [] (kM rs)):=
 PW.prim (w:=sg [91]) (u:=jM rs++[sg [93]]) (fun r=>rfl) fun l f o r hr hf ho a h=>by
 have h:rst l a=sg [91]::(jM rs++sg [93]::r):=by rw[h];simp
 have hf:(sg [91]::(jM rs++sg [93]::r)).length < f+1:=by simpa using hf
 rw[oM h,if_neg zc,if_neg (by simp[hN]),if_neg (by simp[hS]),if_pos (by rfl)]
 rw[zx6]at hf;have hl:=amT h zp
 rw[zx6]at hl;have hL:=amE (l:=l) (f:=f) (o:=o+1) rs [] (l.length+1) (a+1) r h0 hx (fun x hx k hkx=>by
  have d1:=mh (o:=15) (t:=[]) (show k.2∈kN x from List.mem_map_of_mem hkx)
  have d2:=mh (o:=14) (t:=[]) (k:= .mk 15 [] (kN x)) (ks:=kM rs) (zqg.2 ⟨x,hx,rfl⟩);exact⟨hk x hx k hkx,zE⟩) zE zE (jC h)
 refine afJ zE ?_
 rw[hL];show Res.ok _ _=_
 congr 1;simp;omega
def acA{a:Nat}{r:List Wrd}(h:rst l a=(1,t)::r)(h1:hS r [91]=false)(h2:hS r [94]=false)(U:Gr):unG 600 l (lev 600 l f).1 U a o= .ok (nmN t) (a+1):=by
 refine adz (by rw[oM (w:=(1,t)) (r:=r) h,if_pos rfl]) (by rw[h];rfl) ?_ ?_
 ·rw[jC h];exact h1
 ·rw[jC h];exact h2
def azR{a:Nat}{r:List Wrd}(h:rst l a=sg [45]::(1,t)::r)(h1:hS r [91]=false)(h2:hS r [94]=false)(ho:o+1<=600)(hf:1<=f):unG 600 l (lev 600 l f).1 (lev 600 l f).2 a o= .ok (.mk 3 [] [nmN t]) (a+2):=by
 obtain⟨f,rfl⟩:∃k,f=k+1:=⟨f - 1,zE⟩
 unfold unG;rw[bK,h,if_pos (by rfl)]
 refine afJ ho ?_;show jf _ (unG 600 l (lev 600 l f).1 (lev 600 l f).2 (a+1) (o+1))=_;rw[acA (jC h) h1 h2];rfl
def zWd(z:Int):List Wrd:=if z < 0 then [sg [45],(1,aQ z.natAbs)]else [(1,aQ z.natAbs)]
def zNd(z:Int):Nd:=if z < 0 then .mk 3 [] [nmN (aQ z.natAbs)]else nmN (aQ z.natAbs)
def un_z{a:Nat}{z:Int}{r:List Wrd}(h:rst l a=zWd z++r)(h1:hS r [91]=false)(h2:hS r [94]=false)(ho:o+1<=600)(hf:1<=f):unG 600 l (lev 600 l f).1 (lev 600 l f).2 a o= .ok (zNd z) (a+(zWd z).length):=by
 unfold zWd at h ⊢;unfold zNd
 split at h
 ·rename_i hz;rw[if_pos hz,if_pos hz];exact azR h h1 h2 ho hf
 ·rename_i hz;rw[if_neg hz,if_neg hz];exact acA h h1 h2 _
def PW.z(z:Int):PW (zWd z) (zNd z):=fun l f o r hr hf ho a ha=>by
 have hpos:1<=(zWd z).length:=by unfold zWd;split <;> simp
 rw[zqi]at hf;obtain⟨f,rfl⟩:∃k,f=k+1:=⟨f - 1,zE⟩
 show wS l (unG 600 l (lev 600 l f).1 (lev 600 l f).2) a o=_;have hend:=jJ ha;exact acO (mY (mY (un_z ha (hr _ zc) (hr _ zc) zE zE) (by rw[hend];exact hr _ zc) (by rw[hend];exact hr _ zc)) (by rw[hend];exact hr _ zc) (by rw[hend];exact hr _ zc)) (by rw[hend];exact hr _ zc) (by rw[hend];exact hr _ zc) (by rw[hend];exact hr _ zc) (by rw[hend];exact hr _ zc)
def PW.frac(z:Int)(t:List UInt8):PW (zWd z++sg [47]::[(1,t)]) (.mk 7 [] [zNd z,nmN t]):=fun l f o r hr hf ho a ha=>by
 have hpos:1<=(zWd z).length:=by unfold zWd;split <;> simp
 rw[zqi,zqi]at hf;obtain⟨f,rfl⟩:∃k,f=k+1:=⟨f - 1,zE⟩
 show wS l (unG 600 l (lev 600 l f).1 (lev 600 l f).2) a o=_;have ha:rst l a=zWd z++(sg [47]::((1,t)::r)):=by rw[ha];simp
 have e1:=jJ ha;have e2:=jC e1;have e3:=jC e2;have u1:=un_z (f:=f) (o:=o) ha rfl rfl zE zE
 have u2:=acA (f:=f) (o:=o) e2 (hr _ zc) (hr _ zc) (lev 600 l f).2
 have hc:=aiB (l:=l) (s1:=[42]) (s2:=[47]) (x:=6) (y:=7) u1 (by rw[e1];rfl) (by rw[e1];rfl) u2 (by rw[e3];exact hr _ zc) (by rw[e3];exact hr _ zc)
 have hfin:a+(zWd z).length+1+1=a+(zWd z++sg [47]::[(1,t)]).length:=by simp;omega
 rw[<-hfin];exact acO (mY hc (by rw[e3];exact hr _ zc) (by rw[e3];exact hr _ zc)) (by rw[e3];exact hr _ zc) (by rw[e3];exact hr _ zc) (by rw[e3];exact hr _ zc) (by rw[e3];exact hr _ zc)
def ajm(h:tx 2 t=true)(hs:ownB s=true):t≠s:=fun e=>by
 have:=ars h;rw[e,hs]at this;cases this
def aij(h:tx 2 t=true)(hs:ownB s=true)(r:List Wrd):hS ((2,t)::r) s=false:=by
 show (!decide ((2:Int)=1)&&decide (t=s))=false;simp[ajm h hs]
def SW(ws:List Wrd)(n:Nd):Prop:=∀(l:List Tok) (a:Nat) (r:List Wrd),rst l a=ws++r->ajV 600 l (l.length+1) a 0= .ok n (a+ws.length)
def HX(ws:List Wrd):Prop:=∀r,hS (ws++sg [59]::r) [105,102]=false/\hS (ws++sg [59]::r) [102,111,114]=false/\(hN (ws++sg [59]::r)&&hS ((ws++sg [59]::r).drop 1) [61])=false
def alY{a:Nat}{u:List Wrd}(h:rst l a=u):u.length<=l.length:=by
 rw[<-h];unfold rst;rw[zxe,zq5];omega
def SW.show{ws:List Wrd}{m:Nd}(h:PW ws m)(hd:dep m<=200)(hx:HX ws):SW (ws++[sg [59]]) (.mk 19 [] [m]):=fun l a r hr=>by
 have hr:rst l a=ws++sg [59]::r:=by rw[hr];simp
 obtain⟨h1,h2,h3⟩:=hx r;have hle:=alY hr;have he:ahU (sg [59]::r):=vL zc r
 have hm:=h l (l.length+1) 0 (sg [59]::r) he zE zE a hr
 have hend:=jJ hr;show stG l (lev 600 l (l.length+1)).1 _ a 0=_;have h31:(oP l a&&isS l (a+1) [61])=false:=by
  rw[adg,bK,hr,<-h3];unfold rst at hr ⊢;rw[<-List.drop_drop,hr]
 unfold stG;rw[bK,hr,h1,if_neg zc,bK,hr,h2,if_neg zc,h31,if_neg zc,hm]
 show (if isS l (a+ws.length) [59]then _ else _)=_
 rw[bK,hend,if_pos (by rfl)]
 congr 1;simp;omega
def SW.set{ws:List Wrd}(ht:tx 2 t=true)(h:PW ws m)(hd:dep m<=200):SW ((2,t)::sg [61]::(ws++[sg [59]])) (.mk 18 t [m]):=fun l a r hr=>by
 have hr:rst l a=(2,t)::sg [61]::(ws++sg [59]::r):=by rw[hr];simp
 have hle:=alY hr;have he:ahU (sg [59]::r):=vL zc r
 have r1:=jC hr;have r2:=jC r1;rw[zx6,zx6]at hle;have hm:=h l (l.length+1) 0 (sg [59]::r) he zE zE (a+1+1) r2
 have hend:=jJ r2;have n1:hS ((2,t)::sg [61]::(ws++sg [59]::r)) [105,102]=false:=aij ht (by rfl) _
 have n2:hS ((2,t)::sg [61]::(ws++sg [59]::r)) [102,111,114]=false:=aij ht (by rfl) _
 have h31:(oP l a&&isS l (a+1) [61])=true:=by
  rw[adg,bK,hr,r1,ag5 ht];rfl
 show stG l (lev 600 l (l.length+1)).1 _ a 0=_;unfold stG;rw[bK,hr,n1,if_neg zc,bK,hr,n2,if_neg zc,h31,if_pos rfl,avK hr,hm]
 show (if isS l (a+1+1+ws.length) [59]then _ else _)=_
 rw[bK,hend,if_pos (by rfl)]
 congr 1;simp;omega
def ah3{l:List Tok}:∀(ks:List WN) (ab:List Nd) (g a:Nat),(∀k∈ks,SW k.1 k.2/\1<=k.1.length)->
  ks.length < g->rst l a=(ks.map (·.1)).flatten->a+(ks.map (·.1)).flatten.length=l.length->zx l (ajV 600 l (l.length+1)) g ab a 0= .ok (.mk 0 [] (ab++kN ks)) l.length
 |[],ab,g,a,hk,hg,h,hl=>by
  obtain⟨g,rfl⟩:∃k,g=k+1:=⟨g - 1,by simp at hg;omega⟩
  have hl:a=l.length:=by simpa using hl
  rw[zx]
  dsimp only
  rw[if_neg zE,hl];simp
 |k::ks,ab,g,a,hk,hg,h,hl=>by
  rw[zx6]at hg;obtain⟨g,rfl⟩:∃k,g=k+1:=⟨g - 1,zE⟩
  obtain⟨k3,hp⟩:=hk k zp
  have h:rst l a=k.1++(ks.map (·.1)).flatten:=by rw[h];simp
  rw[zy6,List.flatten_cons,zqi]at hl;rw[zx]
  dsimp only
  rw[if_pos zE,k3 l a _ h]
  dsimp only
  rw[ah3 ks (ab++[k.2]) g (a+k.1.length) (fun x hx=>hk x (by simp[hx])) zE (jJ h) zE]
  simp
def ajh:∀{ks:List WN},(∀k∈ks,1<=k.1.length)->ks.length<=(ks.map (·.1)).flatten.length
 |[],_=>by simp
 |k::ks,h=>by
  have:=h k zp
  have:=ajh (ks:=ks) fun x hx=>h x (by simp[hx])
  simp only[zy6,List.flatten_cons,zqi,zx6];omega
def ai9{ks:List WN}(hw:l.map kt=(ks.map (·.1)).flatten)(ht:l.all iZ=true)(hk:∀k∈ks,SW k.1 k.2/\1<=k.1.length)(hd:lD (kN ks)<=200):xE l 200=(kN ks,0,0):=by
 have hlen:l.length=(ks.map (·.1)).flatten.length:=by rw[<-zq5 (f:=kt),hw]
 have hg:=ajh fun k hkm=>(hk k hkm).2
 have h0:rst l 0=(ks.map (·.1)).flatten:=by unfold rst;rw[List.drop_zero,hw]
 have hp:ahQ l= .ok (.mk 0 [] (kN ks)) l.length:=by
  unfold ahQ;rw[ah3 ks [] (l.length+1) 0 hk zE h0 zE]
  simp
 unfold xE;rw[if_neg zE,ht,if_pos rfl,hp]
 show anL (kN ks) 200=_;unfold anL;rw[if_neg zE]
def dH.len{ws:List Wrd}(h:dH s ws):ws.length<=s.length/\∀w∈ws,w.2.length<=s.length:=by
 induction h with
 |nil h=>exact⟨zq8 _,by simp⟩
 | @cons s t w ws h h1 h2 h3 _ ih=>
  have hl:=congrArg List.length h;rw[zxe,zqi]at hl;have hw:w.2.length≠0:=by simpa using h3
  refine⟨by rw[zx6];omega,fun x hx=>?_⟩
  rcases zy3.1 hx with rfl|hx
  ·omega
  ·have:=ih.2 x hx;omega
def aci{ks:List WN}(hs:dH s (ks.map (·.1)).flatten)(hl:s.length<=20000)(hk:∀k∈ks,SW k.1 k.2/\1<=k.1.length)(hd:lD (kN ks)<=200):∃ts,afD s=(ts,0,0)/\(ts.length<=1000000/\∀t∈ts,t.text.length<=9223372036854775807)/\xE ts 200=(kN ks,0,0):=by
 obtain⟨ts,h1,h2,h3⟩:=hs.R hl;have hb:=hs.len;refine⟨ts,h1,⟨?_,fun t ht=>?_⟩,ai9 h2 h3 hk hd⟩
 ·have:=hb.1;rw[<-h2,zq5]at this;omega
 ·have:=hb.2 (kt t) (h2▸List.mem_map_of_mem ht);have e:(kt t).2=t.text:=rfl;rw[e]at this;omega
def amH{α:Type}{f:α->Nat}:∀{l:List α} {x:α},x∈l->f x<=(l.map f).sum
 |y::l,x,h=>by
  rw[zy6,List.sum_cons];rcases zy3.1 h with rfl|h
  ·omega
  ·have:=amH (f:=f) h;omega
def rQ{α:Type}{f g:α->Nat}:∀{l:List α},(∀x∈l,f x<=g x)->(l.map f).sum<=(l.map g).sum
 |[],_=>zq6 _
 |x::l,h=>by
  rw[zy6,zy6,List.sum_cons,List.sum_cons];have h1:=h x zq9;have h2:=rQ (l:=l) fun y hy=>h y (zy2 _ hy)
  omega
def aaB(s:UInt8):∀l:List (List UInt8),(l.map List.length).sum<=(jn s l).length
 |[]=>zq6 _
 |[a]=>by simp[jn]
 |a::b::l=>by
  have:=aaB s (b::l);rw[zy6,List.sum_cons];show a.length+((b::l).map List.length).sum<=(a++(s::32::jn s (b::l))).length;rw[zqi,zx6,zx6];omega
def ant{l:List (List UInt8)}(h:∀x∈l,1<=x.length):l.length<=(l.map List.length).sum:=by
 have h2:=rQ (f:=fun _=>1) (g:=List.length) (l:=l) h
 have e:(l.map fun _=>1).sum=l.length:=by
  clear h h2
  induction l with
  |nil=>rfl
  |cons a l ih=>rw[zy6,List.sum_cons,ih,zx6];omega
 omega
def aj3{c:Nat}:∀{r:Nat} {l:List (List UInt8)},l.length=r*c->(∀x∈l,1<=x.length)->r*c<=(((chk c r l).map (jn 44)).map List.length).sum
 |0,l,_,_=>by rw[zw3];exact zq8 _
 |r+1,l,hl,h=>by
  rw[zv8]at hl ⊢;show _<=(((l.take c::chk c r (l.drop c)).map (jn 44)).map List.length).sum;rw[zy6,zy6,List.sum_cons];have h1:=aj3 (c:=c) (r:=r) (l:=l.drop c) (by rw[zxe];omega) (fun x hx=>h x (zw9 hx))
  have h2:=aaB 44 (l.take c);have h3:=ant (l:=l.take c) fun x hx=>h x (zv3 hx)
  rw[zx3]at h3;omega
def aqr{r:Nat}{l:List (List UInt8)}(hl:l.length=r*c)(h:∀x∈l,1<=x.length):l.length<=(tbS r c l).length:=by
 unfold tbS
 split
 ·next h0=>
  have:r*c=0:=by rcases h0 with rfl|rfl <;> simp
  omega
 ·have h1:=aj3 hl h;have h2:=aaB 59 ((chk c r l).map (jn 44));rw[zx6,zqi];omega
def ark{l:List (List UInt8)}(h:∀x∈l,1<=x.length):l.length<=(plS l).length:=by
 have h1:=aaB 44 l;have h2:=ant h;unfold plS;rw[zqi,zqi];omega
def atT(s:List UInt8)(p:Nat):s.length<=(mdS s p).length:=by
 unfold mdS;rw[zqi,zqi];omega
def ne1{l:List UInt8}{c:UInt8}{m:List UInt8}(h:l=c::m):1<=l.length:=by rw[h];simp
def qS_1(x:Rat):1<=(qS x).length:=by obtain⟨c,m,h,_⟩:=qS_ne x;exact ne1 h
def zS_1(x:Int):1<=(zS x).length:=by obtain⟨c,m,h,_⟩:=axS x;exact ne1 h
def akI(x:Nat):1<=(aQ x).length:=by obtain⟨c,m,h,_⟩:=an1 x;exact ne1 h
def ai6{α:Type}{f:α->List UInt8}{l:List α}(h:∀x,1<=(f x).length):∀y∈l.map f,1<=y.length:=fun y hy=>by
 obtain⟨x,_,rfl⟩:=zqg.1 hy;exact h x
def azD{l:List Vl}{x:Vl}(h:x∈l):(tS x).length+2<=(tS (pX l)).length:=by
 rw[ak9,zx6,zqi];have h1:=aaB 44 (l.map tS);have h2:=amH (f:=List.length) (List.mem_map_of_mem (f:=tS) h);have e:([125]:List UInt8).length=1:=rfl;omega
structure IV(d b s:Nat)(v:Vl):Prop where
 n:ah prog 193 [.agg (vlA v)] (.v (.int .i64 (d:Int)))
 b:ah prog 212 [.agg (vlA v)] (.v (.int .i64 (b:Int)))
 s:ah prog 195 [.agg (vlA v)] (.v (.int .i64 (s:Int)))
def IV.of(h:Cv K n v)(hK:K<=100)(hn:n<=15):(tS v).length<=100000->∃d b s:Nat,d<=n/\b<=64000/\s<=(tS v).length/\IV d b s v:=by
 induction h with
 | @one n v h=>
  intro hl;cases h with
  |num x h=>
   have hq:=alj h;refine⟨0,qB x,1,zq8 _,zE,by rw[afF];exact qS_1 x,mR _ (fun h=>by have h':(1:Int)=6:=h;omega),apC h zE,?_⟩
   exact aaj (eY x) (fun _=>0) ⟨fun h=>by have h':(1:Int)=2:=h;omega,fun h=>by have h':(1:Int)=3:=h;omega,fun h=>by have h':(1:Int)=4:=h;omega,fun h=>by have h':(1:Int)=5:=h;omega⟩ (zqc rfl) (zqc rfl) (fun x hx=>by cases hx)
  |mat r c vs hvl hr hc h=>
   have hrc:=zxd hr hc;have e:((dW r c vs).a).length=vs.length:=zq5 _;refine⟨0,_,vs.length,zq8 _,adD (fun x hx=>?_) (zq8 _),?_,mR _ (fun h=>by have h':(2:Int)=6:=h;omega),aps h zE zE,?_⟩
   ·obtain⟨y,hy,rfl⟩:=zqg.1 hx;have:=alj (h y hy);omega
   ·rw[sH];have:=aqr (r:=r) (c:=c) (l:=vs.map qS) (by rw[zq5];exact hvl) (ai6 qS_1)
    rwa [zq5]at this
   ·have:=apj (dW r c vs) rfl (by rw[e];omega)
    rwa [e]at this
  |pol zs hzl hpn h=>
   have e:((gP zs).po).length=zs.length:=zq5 _;refine⟨0,_,zs.length,zq8 _,adD (fun x hx=>?_) (zq8 _),?_,mR _ (fun h=>by have h':(3:Int)=6:=h;omega),anS h zE hzl,?_⟩
   ·obtain⟨y,hy,rfl⟩:=zqg.1 hx;have:=vw (h y hy);omega
   ·rw[ak2];have:=ark (l:=zs.map zS) (ai6 zS_1)
    rwa [zq5]at this
   ·have:=apG (gP zs) rfl (by rw[e];omega)
    rwa [e]at this
  |fld p r c l hp hll hr hc h=>
   have hrc:=zxd hr hc;have hpl:=hp.lt;have hpW:p < WB:=by rw[bf];omega
   refine⟨0,bitLen p,l.length,zq8 _,?_,?_,mR _ (fun h=>by have h':(4:Int)=6:=h;omega),amx (gu p r c l) (.inl rfl) hpW,aoy (gu p r c l) rfl (show l.length<=1000000 by omega)⟩
   ·have:=vw (k:=1) (by rw[zxh];exact hpW);omega
   ·rw[akn];have:=aqr (r:=r) (c:=c) (l:=l.map aQ) (by rw[zq5];exact hll) (ai6 akI)
    rw[zq5]at this;exact zxf this (atT _ _)
  |rng p l hp hll hwn h=>
   have hpl:=hp.lt;have hpW:p < WB:=by rw[bf];omega
   refine⟨0,bitLen p,l.length,zq8 _,?_,?_,mR _ (fun h=>by have h':(5:Int)=6:=h;omega),amx (jS p l) (.inr rfl) hpW,apK (jS p l) rfl (show l.length<=1000000 by omega)⟩
   ·have:=vw (k:=1) (by rw[zxh];exact hpW);omega
   ·rw[akH];have:=ark (l:=l.map aQ) (ai6 akI);rw[zq5]at this;exact zxf this (atT _ _)
 | @lst n l hll h ih=>
  intro hl;obtain⟨g,hg⟩:=aiv (β:=Nat×Nat×Nat) (P:=fun x t=>t.1<=n/\t.2.1<=64000/\t.2.2<=(tS x).length/\IV t.1 t.2.1 t.2.2 x) (l:=l) (fun x hx=>by
   have hm:=azD hx;obtain⟨d,b,s,h1,h2,h3,h4⟩:=ih x hx zE zE
   exact⟨(d,b,s),h1,h2,h3,h4⟩)
  have hs:(l.map fun x=>(g x).2.2).sum+2<=(tS (pX l)).length:=by
   rw[ak9,zx6,zqi];have h1:=aaB 44 (l.map tS);have h2:=rQ (f:=fun x=>(g x).2.2) (g:=fun x=>(tS x).length) (l:=l) (fun x hx=>(hg x hx).2.2.1)
   rw[zv4]at h1;have h3:(l.map (List.length ∘ tS)).sum=(l.map fun x=>(tS x).length).sum:=rfl
   have e:([125]:List UInt8).length=1:=rfl;omega
  refine⟨1+(l.map fun x=>(g x).1).foldl max 0,(l.map fun x=>(g x).2.1).foldl max 0,1+(l.map fun x=>(g x).2.2).sum,?_,?_,zE,?_,?_,?_⟩
  ·have:=adD (B:=n) (l:=l.map fun x=>(g x).1) (b:=0) (fun y hy=>by obtain⟨x,hx,rfl⟩:=zqg.1 hy;exact(hg x hx).1) (zq8 _)
   omega
  ·exact adD (fun y hy=>by obtain⟨x,hx,rfl⟩:=zqg.1 hy;exact(hg x hx).2.1) (zq8 _)
  ·exact aiq (pX l) (fun x=>(g x).1) rfl (show l.length<=1000000 by omega) (fun x hx=>by have:=(hg x hx).1;omega) (fun x hx=>(hg x hx).2.2.2.n)
  ·exact avW (pX l) (fun x=>(g x).2.1) rfl rfl (show l.length<=1000000 by omega) (fun x hx=>(hg x hx).2.1) (fun x hx=>(hg x hx).2.2.2.b)
  ·exact aaj (pX l) (fun x=>(g x).2.2) ⟨fun h=>by have h':(6:Int)=2:=h;omega,fun h=>by have h':(6:Int)=3:=h;omega,fun h=>by have h':(6:Int)=4:=h;omega,fun h=>by have h':(6:Int)=5:=h;omega⟩ (show (l.map fun x=>(g x).2.2).sum<=1000000 by omega) (show l.length<=1000000 by omega) (fun x hx=>(hg x hx).2.2.2.s)
def VI.of{K n B:Nat}{v:Vl}(h:Cv K n v)(hK:K<=100)(hn:n<=15)(hl:(tS v).length<=100000)(hB:64000<=B):∃s:Nat,s<=(tS v).length/\VI B s v:=by
 obtain⟨d,b,s,h1,h2,h3,h4⟩:=IV.of h hK hn hl;exact⟨s,h3,⟨d,zE,h4.n⟩,⟨b,zE,a0f (h.F zE hn) h4.b⟩,h4.s⟩
section
def gH{x k:Nat}(h:x < WB ^ k):(aQ x).length<=20*k+1:=by
 unfold aQ
 split
 ·simp
 ·have:WB ^ k<=10 ^ (20*k):=by rw[Nat.pow_mul];exact Nat.pow_le_pow_left (by rw[bf];decide) _
  have:=afT (zqf h this);omega
attribute [local irreducible] IntKind.wrap Go1 Reg WP aK aN bD aZ aJ aA aj ak aT Sat
attribute [local irreducible] aQ qS zS tS
def arP{n:Vl}{e:Int}(hF:ah prog 44 [.agg (vlA v)] (.v (.bool true)))(h:ah prog 213 [.agg (vlA v)] (.tup [.agg (vlA n),eNo e])):
  ah prog 198 [.v (.int .i64 3),.agg (vlA v)] (.tup [.agg (vlA n),eNo e]):=by
 refine ah.fq func198 ?_;intros
 refine zg ?_;exact .ok (aA.mk2 aj.fC (aj.tmp rfl))
def AL.one{B:Nat}{nm:Nms}{m:Nd}{k:Nat}{v:Vl}(h:EX B nm m k v):AL B nm [m] k [v]:=by
 have:=apO B nm [m] [k] [v] rfl rfl (zqc rfl) (fun i n k' v' h1 h2 h3=>by
  match i,h1,h2,h3 with
  |0,h1,h2,h3=>cases h1;cases h2;cases h3;exact h)
 simpa using this
def AL.two{nm:Nms}{m':Nd}{k k':Nat}{v':Vl}(h:EX B nm m k v)(h':EX B nm m' k' v'):AL B nm [m,m'] (k+k') [v,v']:=by
 have:=apO B nm [m,m'] [k,k'] [v,v'] rfl rfl (zqc rfl) (fun i n k1 v1 h1 h2 h3=>by
  match i,h1,h2,h3 with
  |0,h1,h2,h3=>cases h1;cases h2;cases h3;exact h
  |1,h1,h2,h3=>cases h1;cases h2;cases h3;exact h')
 simpa using this
section
variable{B K:Nat}(hB:64000<=B)(hB0:B<=1000000000)(h1:1<=K)(hK:K<=90)
include hB hB0 h1 hK
omit hB0 in
theorem VI.num{x:Rat}(hx:RB x K):∃s:Nat,s<=(qS x).length/\VI B s (eY x):=by
 have hl:(tS (eY x)).length<=100000:=by
  rw[afF,wH];have d1:=gH hx.n;have d2:=gH hx.d;have z1:(zS x.num).length<=(aQ x.num.natAbs).length+1:=by unfold zS;split <;> simp
  have z2:(zS (x.den:Int)).length=(aQ x.den).length:=by rw[qg]
  split
  ·omega
  ·rw[zqi,zx6];omega
 have h:=VI.of (B:=B) (Cv.one (n:=0) (.num x hx)) zE zE hl hB
 rwa [afF]at h
theorem tT{x:Nat}(hx:x < WB ^ K):∃k:Nat,k<=2*(aQ x).length/\∀nm,EX B nm (nmN (aQ x)) k (vI x):=by
 have hb:((x:Nat):Int).natAbs < WB ^ K:=hx;have hd:=gH hx;obtain⟨s,hs,hv⟩:=VI.num hB h1 hK (RB.ofI hb h1);have e:qS ((x:Int):Rat)=aQ x:=by rw[wH,if_pos (Rat.den_intCast _),Rat.num_intCast,qg]
 rw[e]at hs;have hp:=akI x;have cZ:=ajQ (aQ x) zE
 have hz:=asW (z:=(x:Int)) (k:=K) ⟨hb⟩ zE
 rw[qg]at hz;rw[hz.1,hz.2]at cZ;have cW:ah prog 156 [.agg (zN (x:Int))] (.agg (vlA (vI x))):=vD (q:=z2v (x:Int)) (ZQ.made hb) h1 zE
 exact⟨s+1,zE,fun nm=>EX.num hB0 (n:=nmN (aQ x)) rfl cZ cW hv⟩
theorem ata{z:Int}(hz:z.natAbs < WB ^ K):∃k:Nat,k<=3*(zS z).length/\∀nm,EX B nm (zNd z) k (vI z):=by
 obtain⟨k,hk,hE⟩:=tT hB hB0 h1 hK hz;by_cases h:z < 0
 ·have e1:zNd z= .mk 3 [] [nmN (aQ z.natAbs)]:=by unfold zNd;rw[if_pos h]
  have e2:zS z=45::aQ z.natAbs:=by unfold zS;rw[if_pos h]
  have e3:(z:Rat)= -(((z.natAbs:Nat):Int):Rat):=by
   rw[<-Rat.intCast_neg];congr 1;omega
  have hb:(((z.natAbs:Nat):Int)).natAbs < WB ^ K:=by simpa using hz
  obtain⟨s,hs,hv⟩:=VI.num hB h1 hK (RB.ofI hz h1);have e4:qS (z:Rat)=zS z:=by rw[wH,if_pos (Rat.den_intCast _),Rat.num_intCast]
  rw[e4]at hs;have cN:=arP (qc hb h1 zE) (ato (RB.ofI hb h1) zE)
  have e5:eY (-(((z.natAbs:Nat):Int):Rat))=vI z:=by rw[<-e3]
  rw[e5]at cN;refine⟨s+k+1,by rw[e2]at hs ⊢;rw[zx6]at*;omega,fun nm=>?_⟩
  rw[e1];exact EX.opr hB0 (n:= .mk 3 [] [nmN (aQ z.natAbs)]) ⟨fun h=>by have h':(3:Int)=1:=h;omega,fun h=>by have h':(3:Int)=2:=h;omega,fun h=>by have h':(3:Int)=14:=h;omega⟩ (AL.one (hE nm)) (as2 rfl cN) hv
 ·have e1:zNd z=nmN (aQ z.natAbs):=by unfold zNd;rw[if_neg h]
  have e2:zS z=aQ z.natAbs:=by unfold zS;rw[if_neg h]
  have e3:((z.natAbs:Nat):Int)=z:=zE
  rw[e3]at hE;refine⟨k,by rw[e2];omega,fun nm=>?_⟩
  rw[e1];exact hE nm
end
end
section
def FW(ws:List Wrd):Prop:=HD ws [41]/\HD ws [125]/\HX ws
def FW.num(t:List UInt8)(r:List Wrd):FW ((1,t)::r):=⟨⟨_,_,rfl,fun r'=>rfl⟩,⟨_,_,rfl,fun r'=>rfl⟩,fun r'=>⟨rfl,rfl,rfl⟩⟩
def FW.min(r:List Wrd):FW (sg [45]::r):=⟨⟨_,_,rfl,fun r'=>rfl⟩,⟨_,_,rfl,fun r'=>rfl⟩,fun r'=>⟨rfl,rfl,rfl⟩⟩
def FW.mat(r:List Wrd):FW (sg [91]::r):=⟨⟨_,_,rfl,fun r'=>rfl⟩,⟨_,_,rfl,fun r'=>rfl⟩,fun r'=>⟨rfl,rfl,rfl⟩⟩
def FW.zero(r:List Wrd):FW ((2,nA)::sg [40]::r):=⟨⟨_,_,rfl,fun r'=>rfl⟩,⟨_,_,rfl,fun r'=>rfl⟩,fun r'=>⟨rfl,rfl,rfl⟩⟩
def FW.z(z:Int)(r:List Wrd):FW (zWd z++r):=by
 unfold zWd
 split
 ·exact FW.min _
 ·exact FW.num _ _
def OP(m:Nd):Prop:=m.op<=8\/13<=m.op
def op_z(z:Int):OP (zNd z):=by
 unfold zNd
 split
 ·exact .inl (show (3:Int)<=8 by decide)
 ·exact .inl (show (1:Int)<=8 by decide)
structure RD(B:Nat)(s:List UInt8)(v:Vl)(c d:Nat):Prop where
 h:∃(ws:List Wrd) (m:Nd) (k:Nat),LV s ws/\PW ws m/\FW ws/\dep m<=d/\k<=c*s.length/\(∀nm,EX B nm m k v)/\OP m
def wP(t:List UInt8):dep (nmN t)=0:=by rw[abL];rfl
def asn(z:Int):dep (zNd z)<=1:=by
 unfold zNd
 split
 ·rw[abL];show (if([nmN (aQ z.natAbs)]:List Nd).isEmpty then 0 else 1+lD [nmN (aQ z.natAbs)])<=1
  rw[lN,mQ,wP];exact zq6 1
 ·rw[wP];omega
def xU{d:Nat}:∀{ks:List Nd},(∀k∈ks,dep k<=d)->lD ks<=d
 |[],_=>by rw[mQ];omega
 |k::ks,h=>by
  rw[lN];have h1:=h k zp
  have h2:=xU (ks:=ks) fun x hx=>h x (by simp[hx])
  omega
def lu{o:Int}{ks:List Nd}{d:Nat}(h:∀k∈ks,dep k<=d):dep (.mk o t ks)<=d+1:=by
 rw[abL];show (if ks.isEmpty then 0 else 1+lD ks)<=d+1
 have:=xU h
 split <;> omega
attribute [local irreducible] qv aQ qS zS
section
variable{B K:Nat}(hB:64000<=B)(hB0:B<=1000000000)(h1:1<=K)(hK:K<=90)
include hB hB0 h1 hK
theorem RD.int{z:Int}(hz:z.natAbs < WB ^ K):RD B (zS z) (vI z) 3 1:=by
 obtain⟨k,hk,hE⟩:=ata hB hB0 h1 hK hz;have hd:=gH hz;have hw:=FW.z z [];rw[zqb]at hw;exact⟨zWd z,zNd z,k,LV.zS zE,PW.z z,hw,asn z,hk,hE,op_z z⟩
theorem RD.q{x:Rat}(hx:RB x K):RD B (qS x) (eY x) 4 2:=by
 obtain⟨kz,hkz,hEz⟩:=ata hB hB0 h1 hK hx.n;obtain⟨kd,hkd,hEd⟩:=tT hB hB0 h1 hK hx.d;have hdn:=gH hx.n;have hdd:=gH hx.d;obtain⟨s,hs,hv⟩:=VI.num hB h1 hK hx;have hself:=jd x;unfold qv at hself;by_cases h:x.den=1
 ·have e:qS x=zS x.num:=by rw[wH,if_pos h]
  have e2:((x.num:Int):Rat)=x:=by rw[h]at hself;rw[<-hself];grind
  have hw:=FW.z x.num [];rw[zqb]at hw;refine⟨zWd x.num,zNd x.num,kz,by rw[e];exact LV.zS zE,PW.z _,hw,by have:=asn x.num;omega,by rw[e];omega,fun nm=>?_,op_z _⟩
  have:=hEz nm
  rwa [show vI x.num=eY x from congrArg eY e2]at this
 ·have e:qS x=zS x.num++47::aQ x.den:=by rw[wH,if_neg h,qg]
  have hd0:((x.den:Int):Rat)≠0:=c0 (mW x);have hbn:=RB.ofI hx.n h1;have hbd:RB ((x.den:Int):Rat) K:=RB.ofI (z:=(x.den:Int)) hx.d h1;have cQ:=asy hbn hbd zE hd0
  rw[hself]at cQ;have cB:=arw (qc hx.n h1 zE) (qc (z:=(x.den:Int)) hx.d h1 zE) cQ
  have hlen:(qS x).length=(zS x.num).length+1+(aQ x.den).length:=by rw[e,zqi,zx6];omega
  refine⟨zWd x.num++sg [47]::[(1,aQ x.den)],.mk 7 [] [zNd x.num,nmN (aQ x.den)],s+(kz+kd)+1,?_,PW.frac _ _,FW.z _ _,?_,zE,fun nm=>?_,.inl (show (7:Int)<=8 by decide)⟩
  ·rw[e];exact LV.mid (LV.zS zE) eP.2.1 (LV.num (jH zE))
  ·refine lu (d:=1) fun k hk=>?_
   rcases zy3.1 hk with rfl|hk
   ·exact asn _
   ·rw[zxi]at hk;subst hk;rw[wP];omega
  ·exact EX.opr hB0 (n:= .mk 7 [] [zNd x.num,nmN (aQ x.den)]) ⟨fun h=>by have h':(7:Int)=1:=h;omega,fun h=>by have h':(7:Int)=2:=h;omega,fun h=>by have h':(7:Int)=14:=h;omega⟩ (AL.two (hEz nm) (hEd nm)) (ad8 (n:= .mk 7 [] [zNd x.num,nmN (aQ x.den)]) ⟨show (4:Int)<=7 by decide,show (7:Int)<=12 by decide⟩ cB) hv
end
end
section
instance:Inhabited (WN×Nat):=⟨(([],nmN []),0)⟩
structure RG(B:Nat)(s:List UInt8)(v:Vl)(c d:Nat)(g:WN×Nat):Prop where
 lv:LV s g.1.1
 pw:PW g.1.1 g.1.2
 fw:FW g.1.1
 dp:dep g.1.2<=d
 k:g.2<=c*s.length
 ex:∀nm,EX B nm g.1.2 g.2 v
 op:OP g.1.2
def RD.g{B:Nat}{s:List UInt8}{v:Vl}{c d:Nat}(h:RD B s v c d):∃g,RG B s v c d g:=by
 obtain⟨ws,m,k,h1,h2,h3,h4,h5,h6,h7⟩:=h.h;exact⟨((ws,m),k),h1,h2,h3,h4,h5,h6,h7⟩
section
variable{α:Type}{B c d:Nat}{l:List α}{s:α->List UInt8}{v:α->Vl}{g:α->WN×Nat}(h:∀x∈l,RG B (s x) (v x) c d (g x))
include h
theorem RG.al(nm:Nms)(hl:l.length<=100000):AL B nm (l.map fun x=>(g x).1.2) ((l.map fun x=>(g x).2).sum) (l.map v):=by
 refine apO B nm _ _ _ (by rw[zq5,zq5]) (by rw[zq5,zq5]) (by rw[zq5];exact hl) fun i n k w h1 h2 h3=>?_
 rw[zqa]at h1 h2 h3
 cases hx:l[i]? with
 |none=>rw[hx]at h1;cases h1
 |some x=>
  rw[hx]at h1 h2 h3;cases h1;cases h2;cases h3;exact(h x (zq4 hx)).ex nm
theorem RG.sum:(l.map fun x=>(g x).2).sum<=c*(l.map fun x=>(s x).length).sum:=by
 induction l with
 |nil=>exact zq8 _
 |cons x l ih=>
  rw[zy6,zy6,List.sum_cons,List.sum_cons,Nat.mul_add];have h1:=(h x zq9).k;have h2:=ih fun y hy=>h y (zy2 _ hy)
  omega
theorem RG.jn:LV (jn 44 (l.map s)) (jW (l.map fun x=>(g x).1)):=by
 have:=LV.jn eP.2.2.1 (l.map fun x=>(s x,(g x).1.1)) (fun y hy=>by
  obtain⟨x,hx,rfl⟩:=zqg.1 hy;exact(h x hx).lv)
 rw[zv4,zv4]at this;show LV _ (acG _ ((l.map fun x=>(g x).1).map (·.1)))
 rw[zv4];exact this
end
def avF:tx 2 nA=true:=by
 have h:=yT.1;have h2:ownB nA=false:=by rfl
 unfold tx iZ;rw[h2];simp[h]
def ahh{α β:Type}(f:α->β)(c:Nat):∀(r:Nat) (l:List α),chk c r (l.map f)=(chk c r l).map (List.map f)
 |0,_=>rfl
 |r+1,l=>by
  show (l.map f).take c::chk c r ((l.map f).drop c)=(l.take c).map f::(chk c r (l.drop c)).map (List.map f);rw[<-List.map_take,<-List.map_drop,ahh f c r]
def oD{α:Type}(c:Nat):∀(r:Nat) (l:List α),(chk c r l).length=r
 |0,_=>rfl
 |r+1,l=>by
  show (l.take c::chk c r (l.drop c)).length=_;rw[zx6,oD c r]
def af8{α:Type}{c:Nat}:∀{r i:Nat} {l:List α},i < r->(chk c r l)[i]? =some ((l.drop (i*c)).take c)
 |0,i,l,h=>absurd h (zvj _)
 |r+1,0,l,h=>by
  show (l.take c::chk c r (l.drop c))[0]? =_;rw[zw3];rfl
 |r+1,i+1,l,h=>by
  show (l.take c::chk c r (l.drop c))[i+1]? =_;rw[List.getElem?_cons_succ,af8 zE,List.drop_drop]
  congr 3
  rw[zv8];omega
def ahN{α:Type}{c:Nat}:∀{r:Nat} {l row:List α} {x:α},row∈chk c r l->x∈row->x∈l
 |0,l,row,x,h,_=>by cases h
 |r+1,l,row,x,h,hx=>by
  rcases zy3.1 h with rfl|h
  ·exact zv3 hx
  ·exact zw9 (ahN h hx)
def awF{α:Type}{r:Nat}{l row:List α}(hl:l.length=r*c)(h:row∈chk c r l):row.length=c:=by
 obtain⟨i,hi⟩:=List.mem_iff_getElem?.1 h;have hir:i < r:=by have:=oL hi;rwa [oD]at this
 rw[af8 hir]at hi;cases hi;rw[zx3,zxe];have:=zx1 c (show i+1<=r by omega)
 rw[zv8]at this;omega
section
variable{B K:Nat}(hB:64000<=B)(hB0:B<=1000000000)(h1:1<=K)(hK:K<=90)
include hB hB0 h1 hK
end
end
section
def axa{α:Type}{f:α->Nat}(l:List α):(l.map fun x=>c*f x).sum=c*(l.map f).sum:=by
 induction l with
 |nil=>rfl
 |cons x l ih=>rw[zy6,zy6,List.sum_cons,List.sum_cons,ih,Nat.mul_add]
attribute [local irreducible] aQ qS
section
variable{B K:Nat}(hB:64000<=B)(hB0:B<=1000000000)(h1:1<=K)(hK:K<=90)
include hB hB0 h1 hK
theorem RD.zero{r c:Nat}(hr:r<=64)(hc:c<=64)(h0:r=0\/c=0):RD B (tbS r c []) (dW r c []) 6 4:=by
 have hw:64 < WB ^ K:=by
  have:=zx2 aX h1;rw[zxh]at this;have e:=bf;omega
 have hr':r < WB ^ K:=zE
 have hc':c < WB ^ K:=zE
 obtain⟨kr,hkr,hEr⟩:=tT hB hB0 h1 hK hr';obtain⟨kc,hkc,hEc⟩:=tT hB hB0 h1 hK hc';have dr:=gH hr';have dc:=gH hc';have hrc:r*c=0:=by rcases h0 with rfl|rfl <;> simp
 have e0:tbS r c []=[122,101,114,111,40]++(aQ r++([44,32]++(aQ c++[41]))):=by unfold tbS;rw[if_pos h0]
 have hlen:(tbS r c []).length=8+(aQ r).length+(aQ c).length:=by
  rw[e0,zqi,zqi,zqi,zqi];have a1:([122,101,114,111,40]:List UInt8).length=5:=rfl;have a2:([44,32]:List UInt8).length=2:=rfl;have a3:([41]:List UInt8).length=1:=rfl;omega
 obtain⟨s,hs,hv⟩:=VI.of (B:=B) (Cv.one (n:=0) (.mat r c [] (by rw[hrc];rfl) hr hc (fun v h=>by cases h):Sh K _)) zE zE (by rw[sH];show (tbS r c []).length<=_;omega) hB
 rw[sH]at hs;have hs':s<=(tbS r c []).length:=hs;have ez:fJ c (fun _ _=>0) r=[]:=List.length_eq_zero_iff.1 (by rw[dM];exact hrc)
 have cC:=aei hr hc;rw[ez]at cC;refine⟨(2,nA)::sg [40]::(jW [([(1,aQ r)],nmN (aQ r)),([(1,aQ c)],nmN (aQ c))]++[sg [41]]),.mk 13 nA [nmN (aQ r),nmN (aQ c)],s+(kr+kc)+1,?_,?_,FW.zero _,?_,zE,fun nm=>?_,.inr (show (13:Int)<=13 by decide)⟩
 ·rw[e0];exact LV.nam (w:=nA) yT.1 eP.2.2.2.2.2.2.1 (LV.midB (LV.num (jH zE)) eP.2.2.1 (LV.end (LV.num (jH zE)) eP.2.2.2.2.2.2.2.1))
 ·refine PW.call avF (ks:=[([(1,aQ r)],nmN (aQ r)),([(1,aQ c)],nmN (aQ c))]) fun k hk=>?_
  rcases zy3.1 hk with rfl|hk
  ·exact⟨PW.num _,(FW.num _ _).1⟩
  ·rw[zxi]at hk;subst hk;exact⟨PW.num _,(FW.num _ _).1⟩
 ·refine zxf (lu (d:=0) fun k hk=>?_) zc
  rcases zy3.1 hk with rfl|hk
  ·rw[wP];exact zq6 0
  ·rw[zxi]at hk;subst hk;rw[wP];exact zq6 0
 ·exact EX.opr hB0 (n:= .mk 13 nA [nmN (aQ r),nmN (aQ c)]) ⟨fun h=>by have h':(13:Int)=1:=h;omega,fun h=>by have h':(13:Int)=2:=h;omega,fun h=>by have h':(13:Int)=14:=h;omega⟩ (AL.two (hEr nm) (hEc nm)) (nO (n:= .mk 13 nA [nmN (aQ r),nmN (aQ c)]) rfl cC) hv
theorem RD.mat{r c:Nat}{vs:List Rat}(hvl:vs.length=r*c)(hr:r<=64)(hc:c<=64)(h:∀v∈vs,RB v K)(ht:(tbS r c (vs.map qS)).length<=100000):RD B (tbS r c (vs.map qS)) (dW r c vs) 6 4:=by
 by_cases h0:r=0\/c=0
 ·have hrc:r*c=0:=by rcases h0 with rfl|rfl <;> simp
  obtain rfl:vs=[]:=List.length_eq_zero_iff.1 zE
  exact RD.zero hB hB0 h1 hK hr hc h0
 ·obtain⟨g,hg⟩:=aiv (P:=fun x gx=>RG B (qS x) (eY x) 4 2 gx) (l:=vs) (fun x hx=>(RD.q hB hB0 h1 hK (h x hx)).g)
  have hr1:1<=r:=zE
  have hc1:1<=c:=zE
  obtain⟨s,hs,hv⟩:=VI.of (B:=B) (Cv.one (n:=0) (.mat r c vs hvl hr hc h)) zE zE (by rw[sH];exact ht) hB
  rw[sH]at hs;have erows:(chk c r (vs.map qS)).map (jn 44)=(chk c r vs).map fun row=>jn 44 (row.map qS):=by rw[ahh,zv4];rfl
  have e0:tbS r c (vs.map qS)=91::(jn 59 ((chk c r vs).map fun row=>jn 44 (row.map qS))++[93]):=by unfold tbS;rw[if_neg h0,erows]
  generalize hJ:jn 59 ((chk c r vs).map fun row=>jn 44 (row.map qS))=J at e0
  have hlen:(tbS r c (vs.map qS)).length=J.length+2:=by rw[e0,zx6,zqi];rfl
  have hJ1:=aaB 59 ((chk c r vs).map fun row=>jn 44 (row.map qS))
  rw[hJ,zv4]at hJ1;have hgr:∀row∈chk c r vs,∀x∈row,RG B (qS x) (eY x) 4 2 (g x):=fun row hrow x hx=>hg x (ahN hrow hx)
  have hks:((chk c r vs).map fun row=>(row.map fun x=>(g x).2).sum).sum<=4*J.length:=by
   have h2:=rQ (f:=fun row:List Rat=>(row.map fun x=>(g x).2).sum) (g:=fun row=>4*(jn 44 (row.map qS)).length) (l:=chk c r vs) (fun row hrow=>by
    have a1:=RG.sum (hgr row hrow);have a2:=aaB 44 (row.map qS);rw[zv4]at a2;have a3:(row.map (List.length ∘ qS)).sum=(row.map fun x=>(qS x).length).sum:=rfl
    omega)
   rw[axa]at h2;have h3:((chk c r vs).map (List.length ∘ fun row=>jn 44 (row.map qS))).sum=((chk c r vs).map fun row=>(jn 44 (row.map qS)).length).sum:=rfl
   omega
  have hrJ:r<=J.length:=by
   have a1:=aj3 (r:=r) (c:=c) (l:=vs.map qS) (by rw[zq5];exact hvl) (ai6 qS_1)
   rw[erows,zv4]at a1;have a2:=zx8 r hc1;omega
  have erow:∀row:List Rat,kN (row.map fun x=>(g x).1)=row.map fun x=>(g x).1.2:=fun row=>zv4 ..
  have hrne:∀row∈chk c r vs,row.length=c:=fun row hrow=>awF hvl hrow
  refine⟨sg [91]::(jM ((chk c r vs).map fun row=>row.map fun x=>(g x).1)++[sg [93]]),.mk 14 [] (kM ((chk c r vs).map fun row=>row.map fun x=>(g x).1)),s+(((chk c r vs).map fun row=>(row.map fun x=>(g x).2).sum).sum+(kM ((chk c r vs).map fun row=>row.map fun x=>(g x).1)).length)+1,?_,?_,FW.mat _,?_,?_,fun nm=>?_,.inr (show (13:Int)<=14 by decide)⟩
  ·rw[e0,<-hJ];have a1:=LV.jn (c:=59) eP.2.2.2.1 ((chk c r vs).map fun row=>(jn 44 (row.map qS),jW (row.map fun x=>(g x).1))) (fun y hy=>by
    obtain⟨row,hrow,rfl⟩:=zqg.1 hy;exact RG.jn (hgr row hrow))
   rw[zv4,zv4]at a1;have a2:jM ((chk c r vs).map fun row=>row.map fun x=>(g x).1)=acG (sg [59]) ((chk c r vs).map (Prod.snd ∘ fun row=>(jn 44 (row.map qS),jW (row.map fun x=>(g x).1)))):=by
    show acG _ _=_;rw[zv4];rfl
   rw[a2];exact LV.sg eP.2.2.2.2.1 (LV.end a1 eP.2.2.2.2.2.1)
  ·refine PW.mat (fun e=>?_) (fun x hx=>?_) (fun x hx k hk=>?_)
   ·have:=congrArg List.length e;rw[zq5,oD,List.length_nil]at this;omega
   ·obtain⟨row,hrow,rfl⟩:=zqg.1 hx;intro e;have:=congrArg List.length e;rw[zq5,hrne row hrow,List.length_nil]at this;omega
   ·obtain⟨row,hrow,rfl⟩:=zqg.1 hx;obtain⟨y,hy,rfl⟩:=zqg.1 hk;exact(hgr row hrow y hy).pw
  ·refine lu (d:=3) fun n hn=>?_
   obtain⟨x,hx,rfl⟩:=zqg.1 hn;obtain⟨row,hrow,rfl⟩:=zqg.1 hx;refine lu (d:=2) fun k hk=>?_
   rw[erow]at hk;obtain⟨y,hy,rfl⟩:=zqg.1 hk;exact(hgr row hrow y hy).dp
  ·rw[zq5,zq5,oD];omega
  ·have cM:=aep (L:=(chk c r vs).map fun row=>row.map eY) (r:=r) (c:=c) (K:=K) (vs:=vs) (by rw[zq5,oD]) (fun i R hR=>by
    rw[zqa]at hR
    have hir:i < r:=by
     cases hx:(chk c r vs)[i]? with
     |none=>rw[hx]at hR;cases hR
     |some y=>have:=oL hx;rwa [oD]at this
    rw[af8 hir]at hR;have hR':=zy7 hR;subst hR';have hlt:=zx1 c (show i+1<=r by omega)
    rw[zv8]at hlt;refine⟨by rw[zq5,zx3,zxe];omega,fun k hk=>⟨vs[i*c+k]' zE,zyh _,?_⟩⟩
    rw[zqa,List.getElem?_take_of_lt hk,zv1,zyh zE];rfl) hvl hr1 hr hc h zE
   refine EX.mat hB0 (n:= .mk 14 [] (kM ((chk c r vs).map fun row=>row.map fun x=>(g x).1))) rfl (fun F u la tx hF=>?_) hv
   refine ayI _ ((chk c r vs).map fun row=>(row.map fun x=>(g x).2).sum) _ (by show ((chk c r vs).map _).length=(kM _).length;rw[zq5,zq5,zq5]) (by show _=(kM _).length;rw[zq5,zq5,zq5]) (by show (kM _).length<=_;rw[zq5,zq5,oD];omega) (fun i n k ws hn hk hw=>?_) cM F u la tx hF
   have hn':(kM ((chk c r vs).map fun row=>row.map fun x=>(g x).1))[i]? =some n:=hn
   rw[zqa,zqa]at hn'
   rw[zqa]at hk hw
   cases hx:(chk c r vs)[i]? with
   |none=>rw[hx]at hk;cases hk
   |some row=>
    rw[hx]at hn' hk hw;cases hn';cases hk;cases hw;have hrow:=zq4 hx;show AL B nm (kN (row.map fun x=>(g x).1)) _ _
    rw[erow];exact RG.al (hgr row hrow) nm (by rw[hrne row hrow];omega)
end
end
section
section
variable{B K:Nat}(hB:64000<=B)(hB0:B<=1000000000)(h1:1<=K)(hK:K<=90)
include hB hB0 h1 hK
end
end
def PW.plus(t u:List UInt8):PW ((1,t)::sg [43]::[(1,u)]) (.mk 4 [] [nmN t,nmN u]):=fun l f o r hr hf ho a ha=>by
 have ha:rst l a=(1,t)::sg [43]::(1,u)::r:=ha;have e1:=jC ha;have e2:=jC e1;have e3:=jC e2;have hpos:1<=((1,t)::sg [43]::[(1,u)]++r).length:=by simp
 obtain⟨f,rfl⟩:∃k,f=k+1:=⟨f - 1,zE⟩
 show wS l (unG 600 l (lev 600 l f).1 (lev 600 l f).2) a o=_;have u1:=acA (f:=f) (o:=o) ha rfl rfl (lev 600 l f).2;have u2:=acA (f:=f) (o:=o) e2 (hr _ zc) (hr _ zc) (lev 600 l f).2
 have p1:zl l (unG 600 l (lev 600 l f).1 (lev 600 l f).2) a o= .ok (nmN t) (a+1):=mY u1 (by rw[e1];rfl) (by rw[e1];rfl)
 have p2:zl l (unG 600 l (lev 600 l f).1 (lev 600 l f).2) (a+1+1) o= .ok (nmN u) (a+1+1+1):=mY u2 (by rw[e3];exact hr _ zc) (by rw[e3];exact hr _ zc)
 have hc:=alT (l:=l) (s1:=[43]) (s2:=[45]) (x:=4) (y:=5) p1 (by rw[e1];rfl) p2 (by rw[e3];exact hr _ zc) (by rw[e3];exact hr _ zc)
 have hx:wS l (unG 600 l (lev 600 l f).1 (lev 600 l f).2) a o= .ok (.mk 4 [] [nmN t,nmN u]) (a+1+1+1):=acO hc (by rw[e3];exact hr _ zc) (by rw[e3];exact hr _ zc) (by rw[e3];exact hr _ zc) (by rw[e3];exact hr _ zc)
 exact hx
def atz:wrd 61=false/\srt 61≠1:=by unfold wrd srt;decide
def ax4(r:List UInt8):run (61::r)=0:=by unfold run;rw[List.takeWhile_cons,atz.1];rfl
def num0:num []=false:=by unfold num;rfl
def nam0:nam []=false:=by unfold nam;rfl
def dH.asg{r:List UInt8}{ws:List Wrd}(h:dH (32::r) ws):dH (61::32::r) (Go.Proofs.YtcamgbgfelmbaaaGreatDoor.sg [61]::ws):=by
 refine .cons (w:=Go.Proofs.YtcamgbgfelmbaaaGreatDoor.sg [61]) (t:=32::r) (by rw[asO atz.2 zc];rfl) ?_ (fun e=>by have e':(3:Int)=0:=e;omega) (fun e=>by cases e) h
 show fst (61::32::r)=_;unfold fst;rw[ax4,List.take_zero,num0,if_neg zc,nam0,if_neg zc,if_neg ?_,show (61::32::r:List UInt8).take 1=[61]from rfl,if_pos (by unfold sg1;decide)]
 rintro⟨_,h9⟩;have e:(61::32::r:List UInt8).take 2=[61,32]:=rfl;rw[e]at h9
 revert h9;decide
def dH.eq2{r:List UInt8}{ws:List Wrd}(h:dH r ws):dH (61::61::r) (Go.Proofs.YtcamgbgfelmbaaaGreatDoor.sg [61,61]::ws):=by
 refine .cons (w:=Go.Proofs.YtcamgbgfelmbaaaGreatDoor.sg [61,61]) (t:=r) (by rw[asO atz.2 zc];rfl) ?_ (fun e=>by have e':(3:Int)=0:=e;omega) (fun e=>by cases e) h
 show fst (61::61::r)=_;unfold fst;rw[ax4,List.take_zero,num0,if_neg zc,nam0,if_neg zc,if_pos ⟨by simp,.inl rfl⟩];rfl
def aqV:nam [120]=true:=by unfold nam run wrd srt;decide
def tx_x:tx 2 [120]=true:=by
 have h:=aqV;have h2:ownB [120]=false:=by rfl
 unfold tx iZ;rw[h2];simp[h]
def aoO(r:List UInt8):NW (32::r):=aoX (by unfold wrd srt;decide)
def yP:srt 32=1:=by unfold srt;decide
def sg43:sgc 43=true:=by unfold sgc wrd sg1 srt;decide
def afB{x:Nat}(h:x≠0)(h2:x < 10):aQ x=[UInt8.ofNat (48+x)]:=by
 unfold aQ;rw[if_neg h,qX h,show x / 10=0 by omega,kP,show x % 10=x by omega];rfl
def akC:aQ 2=[50]:=afB zc zc
def akg:aQ 3=[51]:=afB zc zc
def ayB:aQ 5=[53]:=afB zc zc
def alq:aQ 1=[49]:=afB zc zc
def num_2:num [50]=true:=by have h:=jH (x:=2) (by rw[akC];decide);rwa [akC]at h
def num_3:num [51]=true:=by have h:=jH (x:=3) (by rw[akg];decide);rwa [akg]at h
abbrev tSum:List UInt8:=[50,32,43,32,51,59]
def awP:dH tSum [(1,[50]),sg [43],(1,[51]),sg [59]]:=
 dH.num (w:=[50]) num_2 (aoO _) (dH.sp yP (dH.sg sg43 (dH.sp yP (dH.num (w:=[51]) num_3 (aoX (aik eP.2.2.2.1)) (dH.sg eP.2.2.2.1 (.nil List.drop_nil))))))
end
section
attribute [local irreducible] IntKind.wrap Go1 Reg WP aK aN bD aZ aJ aA aj ak aT Sat
section
section
variable{r c:Nat}{vs:List Rat}
end
end
def ajB(hF:ah prog 44 [.agg (vlA v)] (.v (.bool true)))(c:ah prog 45 [.agg (vlA v)] (.v (str s))):
  ah prog 27 [.agg (vlA v)] (.tup [.one (.c (.val (str s))),eNo 0]):=by
 refine ah.fq func27 ?_;intros
 refine zg ?_;exact .ok (aA.mk2 (aj.tmp rfl) (aj.tmp rfl))
section
end
end
section
def BL.one{B:Nat}{n:Nd}{k:Nat}{σ σ':Ms}(h:ST B n k σ σ'):BL B [n] k σ σ':=by
 have:=amc B [n] [k] (fun i=>if i=0 then σ else σ') rfl (zqc rfl) (fun i n' k' h1 h2=>by
  match i,h1,h2 with
  |0,h1,h2=>cases h1;cases h2;exact h)
 simpa using this
attribute [local irreducible] qS
def a0i:ah prog 27 [.agg (vlA (eY 1))] (.tup [.one (.c (.val (str [49]))),eNo 0]):=by
 have hb:(1:Int).natAbs < WB ^ 1:=by rw[zxh,bf];decide
 have h:=abO (RB.ofI (z:=1) hb (zq6 1)) zc
 have e:qS ((1:Int):Rat)=[49]:=by
  rw[wH,if_pos (Rat.den_intCast _),Rat.num_intCast];exact(qg 1).trans alq
 rw[e]at h;exact h
section
variable{B K Fu c d:Nat}{s:List UInt8}{v:Vl}(hB:64000<=B)(hB0:B<=1000000000)(hF0:Fu<=1000000000)(hR:RD B s v c d)(hd:d<=190)(hP:ah prog 27 [.agg (vlA v)] (.tup [.one (.c (.val (str s))),eNo 0]))(hl:s.length<=19500)
include hB hB0 hF0 hR hd hP hl
end
end
