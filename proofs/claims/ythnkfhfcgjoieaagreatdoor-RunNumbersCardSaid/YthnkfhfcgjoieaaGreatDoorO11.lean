import Derived.Test.YthnkfhfcgjoieaaGreatDoorO10
import Derived.Test.YthnkfhfcgjoieaaGreatDoorO6
import Derived.Test.YthnkfhfcgjoieaaGreatDoorO29
import Derived.Test.YthnkfhfcgjoieaaGreatDoorO8
set_option maxRecDepth 100000
set_option maxHeartbeats 1000000
set_option linter.unusedVariables false
set_option linter.unusedSimpArgs false
open Go.Proofs.Tryz
namespace Go.Proofs.YthnkfhfcgjoieaaGreatDoor
open Go.RowKit QM SX LA
section
attribute [local irreducible] IntKind.wrap Go1 Reg WP aJ aN bF bD aM aA ak aj aT Sat
attribute [local irreducible] bK bO bM bS bN qv bZ mf PrP qOk zOk vP dx lz
theorem aeM(q:jD)(hq:(Sm WB q.2.1/\Sm WB q.2.2.2)/\q.2.1.length<=100000/\q.2.2.2.length<=100000):ah prog 180 [.agg (q4A (rq q))] (.v (.bool (!qOk q))):=by
 have c:=afS q hq.1 zE
 refine ah.fq func180 results180 ntmps180 fun _ _ _ _ _=>?_
 refine zg ?_;exact bf rfl
theorem af4(z:qx)(hz:Sm WB z.2/\z.2.length<=100000):ah prog 182 [.agg (z2A (rz z))] (.v (.bool (!zOk z))):=by
 have c:=uI z zE
 refine ah.fq func182 results182 ntmps182 fun _ _ _ _ _=>?_
 refine zg ?_;exact bf rfl
theorem aeX(v:Vl)(d:Int)(b:Bool)(hd:0 < d)(hd2:d<=100)(c:ah prog 92 [.agg (vlA v),.v (.int .i64 (d - 1))] (.v (.bool b))):ah prog 187 [.agg (vlA v),.r (dK [.val (.int .i64 d)])] (.v (.bool (!b))):=by
 refine ah.fq func187 results187 ntmps187 fun _ _ _ _ _=>?_
 refine zg ?_;exact bf rfl
theorem qmF(r c:Int){n:Nat}{cells:List CA}:ah prog 178 [.agg [.c (.val (.int .i64 r)),.c (.val (.int .i64 c)),.c (.sat (aQ 4 n cells))]] (.v (.bool (dx r c n))):=by
 unfold dx;exact(ab8 r c).h trivial
section
variable(v:Vl)(d:Nat)(hz:vZ0 v)
include hz
theorem nS:ah prog 176 [.agg (vlA v),.r (aQ 1 1 [.val (.int .i64 v.k)])] (.v (.bool (decide (vP v=0)))):=ak7 v hz
theorem zu(hP:vP v≠0):ah prog 92 [.agg (vlA v),.v (.int .i64 (d:Int))] (.v (.bool (vF d v))):=by
 have c:=nS v hz;rw[decide_eq_false hP]at c;rw[vF_P hP];refine ah.fq func92 results92 ntmps92 fun _ _ _ _ _=>?_
 refine zg ?_;exact bf rfl
theorem wZ(hP:vP v=0)(hk:v.k=1):ah prog 92 [.agg (vlA v),.v (.int .i64 (d:Int))] (.v (.bool (vF d v))):=by
 have c:=nS v hz;rw[decide_eq_true hP]at c;rw[vF_1 hP hk];have cF:=afS v.q hz.q.1 (by have:=hz.q.2;omega)
 refine ah.fq func92 results92 ntmps92 fun _ _ _ _ _=>?_
 refine zg ?_;exact bf rfl
theorem xw(hP:vP v=0)(hk:v.k=2):ah prog 92 [.agg (vlA v),.v (.int .i64 (d:Int))] (.v (.bool (vF d v))):=by
 have c:=nS v hz;rw[decide_eq_true hP]at c;rw[vF_2 hP hk];have cA:=al6 v.a 180 (fun x=>!qOk x) (fun x hx=>aeM x (hz.a x hx)) hz.al
 have cF:=qmF v.r v.c (n:=(v.a.map rq).length) (cells:=(v.a.map rq).flatMap q4C);have hl:(v.a.map rq).length=v.a.length:=zq5 _;unfold mOk;rw[<-hl,<-aag];cases h:dx v.r v.c (v.a.map rq).length
 ·rw[h]at cF;refine ah.fq func92 results92 ntmps92 fun w0 T B E0 hB=>?_
  refine zg ?_;refine bf ?_;rw[Bool.and_false]
 ·rw[h]at cF;refine ah.fq func92 results92 ntmps92 fun w0 T B E0 hB=>?_
  refine zg ?_;refine bf ?_;rw[Bool.and_true]
theorem xD(hP:vP v=0)(hk:v.k=3):ah prog 92 [.agg (vlA v),.v (.int .i64 (d:Int))] (.v (.bool (vF d v))):=by
 have c:=nS v hz;rw[decide_eq_true hP]at c;rw[vF_3 hP hk];have cA:=am3 v.po 182 (fun x=>!zOk x) (fun x hx=>af4 x (hz.po x hx)) hz.pol
 have hl:(v.po.map rz).length=v.po.length:=zq5 _;have hb:=hz.pol;unfold pOk lz;rw[<-aag];by_cases h0:v.po.length=0
 ·rw[decide_eq_true h0,Bool.true_or,Bool.and_true];refine ah.fq func92 results92 ntmps92 fun w0 T B E0 hB=>?_
  refine zg ?_;exact bf rfl
 ·obtain⟨x,hx⟩:∃x,v.po[v.po.length - 1]? =some x:=⟨_,zyh zE⟩
  have hq:(v.po.map rz)[(v.po.map rz).length - 1]? =some (rz x):=by rw[hl,zqa,hx];rfl
  have hg:v.po.getD (v.po.length - 1) (false,[])=x:=by rw[zx7,hx];rfl
  have hax:=hz.po x (zq4 hx);have cS:=(sU (h:=ZI.raw x.1 x.2)).h (show x.2.length<=1099511627775 by omega)
  have hs0:aS (rzv x)=0↔rzv x=0:=by unfold aS;(repeat' split) <;> omega
  change ah _ _ _ (.v (.int .i64 (aS (rzv x))))at cS
  rw[hg,decide_eq_false h0,Bool.false_or];by_cases h1:rzv x=0
  ·have h2:aS (rzv x)=0:=hs0.2 h1;rw[decide_eq_false (fun e=>e h1),Bool.and_false]
   refine ah.fq func92 results92 ntmps92 fun w0 T B E0 hB=>?_
   refine zg ?_;exact bf rfl
  ·have h2:¬aS (rzv x)=0:=fun e=>h1 (hs0.1 e)
   rw[decide_eq_true h1,Bool.and_true];refine ah.fq func92 results92 ntmps92 fun w0 T B E0 hB=>?_
   refine zg ?_;exact bf rfl
theorem vL(hP:vP v=0)(hk:v.k=4):ah prog 92 [.agg (vlA v),.v (.int .i64 (d:Int))] (.v (.bool (vF d v))):=by
 have c:=nS v hz;rw[decide_eq_true hP]at c;rw[vF_4 hP hk];have cB:=ac4 v v.fa hz.p hz.fal;have cF:ah prog 184 [.agg [.c (.val (.int .i64 v.fr)),.c (.val (.int .i64 v.fc)),.c (.sat (aB 1 wdC v.fa))]] (.v (.bool (dx v.fr v.fc v.fa.length))):=yR v.fr v.fc;unfold fOk;cases h:dx v.fr v.fc v.fa.length
 ·rw[h]at cF;refine ah.fq func92 results92 ntmps92 fun w0 T B E0 hB=>?_
  refine zg ?_;refine bf ?_;rw[Bool.and_false,Bool.and_false]
 ·rw[h]at cF;refine ah.fq func92 results92 ntmps92 fun w0 T B E0 hB=>?_
  refine zg ?_;refine bf ?_;rw[Bool.and_true]
theorem wU(hP:vP v=0)(hk:v.k=5):ah prog 92 [.agg (vlA v),.v (.int .i64 (d:Int))] (.v (.bool (vF d v))):=by
 have c:=nS v hz;rw[decide_eq_true hP]at c;rw[vF_5 hP hk];have cB:=ac4 v v.ri hz.p hz.ril;have hb:=hz.ril;unfold rOk lw;rw[<-Bool.and_assoc];generalize (decide (PrP v.p)&&v.ri.all (ltp v.p))=b at cB ⊢;cases b
 ·refine ah.fq func92 results92 ntmps92 fun w0 T B E0 hB=>?_
  refine zg ?_;exact bf rfl
 ·by_cases h0:v.ri.length=0
  ·rw[decide_eq_true h0];refine ah.fq func92 results92 ntmps92 fun w0 T B E0 hB=>?_
   refine zg ?_;exact bf rfl
  ·obtain⟨x,hx⟩:∃x,v.ri[v.ri.length - 1]? =some x:=⟨_,zyh zE⟩
   have hg:v.ri.getD (v.ri.length - 1) 0=x:=by rw[zx7,hx];rfl
   rw[hg,decide_eq_false h0,Bool.false_or,Bool.true_and];refine ah.fq func92 results92 ntmps92 fun w0 T B E0 hB=>?_
   refine zg ?_;refine bf ?_;rw[decide_eq_decide];omega
theorem wo(hP:vP v=0)(hk:v.k=6)(hd:d<=20)(hr:∀e,d=e+1->∀x∈v.li,ah prog 92 [.agg (vlA x),.v (.int .i64 (e:Int))] (.v (.bool (vF e x)))):ah prog 92 [.agg (vlA v),.v (.int .i64 (d:Int))] (.v (.bool (vF d v))):=by
 have c:=nS v hz;rw[decide_eq_true hP]at c;cases d with
 |zero=>
  rw[vF_60 hk];refine ah.fq func92 results92 ntmps92 fun w0 T B E0 hB=>?_
  refine zg ?_;refine WP.jo 3 hB rfl rfl ?_;refine WP.aG ?_;refine zg ?_;exact bf rfl
 |succ e=>
  rw[vF_6 hP hk,<-aag];have cA:=ao7 v.li (.sat (fD 187 [] [.sat (dK [.val (.int .i64 ((e+1:Nat):Int))])])) (fun x=>!vF e x) (fun x hx=>FnV.clo (aeX x ((e+1:Nat):Int) (vF e x) zE zE (by
   rw[show ((e+1:Nat):Int) - 1=(e:Int)by omega];exact hr e rfl x hx))) hz.lil rfl
  refine ah.fq func92 results92 ntmps92 fun w0 T B E0 hB=>?_
  refine zg ?_;refine WP.jo 3 hB rfl rfl ?_;refine WP.aG ?_;refine zg ?_;exact bf rfl
theorem xC(hP:vP v=0)(hk:v.k≠1/\v.k≠2/\v.k≠3/\v.k≠4/\v.k≠5/\v.k≠6):ah prog 92 [.agg (vlA v),.v (.int .i64 (d:Int))] (.v (.bool (vF d v))):=by
 have c:=nS v hz;rw[decide_eq_true hP]at c;rw[vF_7 hk];refine ah.fq func92 results92 ntmps92 fun _ _ _ _ _=>?_
 refine zg ?_;exact bf rfl
end
theorem ain:∀(n d:Nat) (v:Vl),vZ n v->d<=20->ah prog 92 [.agg (vlA v),.v (.int .i64 (d:Int))] (.v (.bool (vF d v))):=by
 intro n
 induction n with
 |zero=>
  intro d v hv hd;by_cases hP:vP v=0
  ·have hk:v.k=1\/v.k=2\/v.k=3\/v.k=4\/v.k=5\/v.k=6\/(v.k≠1/\v.k≠2/\v.k≠3/\v.k≠4/\v.k≠5/\v.k≠6):=zE
   rcases hk with hk|hk|hk|hk|hk|hk|hk
   ·exact wZ v d hv.z hP hk
   ·exact xw v d hv.z hP hk
   ·exact xD v d hv.z hP hk
   ·exact vL v d hv.z hP hk
   ·exact wU v d hv.z hP hk
   ·exact wo v d hv.z hP hk hd fun e _ x hx=>by rw[hv.2]at hx;cases hx
   ·exact xC v d hv.z hP hk
  ·exact zu v d hv.z hP
 |succ n ih=>
  intro d v hv hd;by_cases hP:vP v=0
  ·have hk:v.k=1\/v.k=2\/v.k=3\/v.k=4\/v.k=5\/v.k=6\/(v.k≠1/\v.k≠2/\v.k≠3/\v.k≠4/\v.k≠5/\v.k≠6):=zE
   rcases hk with hk|hk|hk|hk|hk|hk|hk
   ·exact wZ v d hv.z hP hk
   ·exact xw v d hv.z hP hk
   ·exact xD v d hv.z hP hk
   ·exact vL v d hv.z hP hk
   ·exact wU v d hv.z hP hk
   ·exact wo v d hv.z hP hk hd fun e he x hx=>ih e x (hv.2 x hx) zE
   ·exact xC v d hv.z hP hk
  ·exact zu v d hv.z hP
theorem zh{n:Nat}{v:Vl}(hv:vZ n v):ah prog 65 [.agg (vlA v)] (.v (.bool (vF 20 v))):=by
 have c:=ain n 20 v hv (zq6 _);refine ah.fq func65 results65 ntmps65 fun _ _ _ _ _=>?_
 refine zg ?_;exact bf rfl
end
section
section
abbrev vlB(v:Vl):List Atom:=[.c (.val (.int .i64 v.k)),.c (.val (.bool v.q.1)),.c (.sat (bL v.q.2.1)),.c (.val (.bool v.q.2.2.1)),.c (.sat (bL v.q.2.2.2)),.c (.val (.int .i64 v.r)),.c (.val (.int .i64 v.c)),.c (.sat (aB 4 q4C (v.a.map rq))),.c (.sat (aB 2 z2C (v.po.map rz))),.c (.val (.int .u64 (v.p:Int))),.c (.val (.int .i64 v.fr)),.c (.val (.int .i64 v.fc)),.c (.sat (aB 1 wdC v.fa)),.c (.sat (aB 1 wdC v.ri)),.c (.sat (aB 15 vlE v.li))]
theorem amD(v:Vl):vlA v=vlB v:=by unfold vlA vlB;rw[vT]
attribute [local irreducible] IntKind.wrap Go1 Reg WP aJ aN bF bD aM aA ak aj aT Sat
attribute [local irreducible] bK bO bM bS bN qv bZ mf PrP qOk zOk vP dx lz
section
variable(v:Vl)(d:Nat)(hz:vZ0 v)
include hz
omit hz in
end
end
section
theorem vZ0.num{v:Rat}{K:Nat}(h:RB v K)(hK:K<=100000):vZ0 (bW v) where
 q:=⟨aj3 v,zxf (mJ h.n) hK,zxf (mJ (by rw[zxa];exact h.d)) hK⟩
 a:=by intro x hx;cases hx
 al:=zq8 _
 po:=by intro x hx;cases hx
 pol:=zq8 _
 p:=aZ
 fa:=by intro x hx;cases hx
 fal:=zq8 _
 ri:=by intro x hx;cases hx
 ril:=zq8 _
 lil:=zq8 _
theorem vZ.num{v:Rat}{K:Nat}(h:RB v K)(hK:K<=100000):vZ 0 (bW v):=⟨vZ0.num h hK,rfl⟩
theorem atW(v:Rat):vP (bW v)=0:=(vP0 _).2 ⟨.inl rfl,.inr ⟨rfl,rfl,rfl⟩,.inr rfl,.inr ⟨rfl,rfl,rfl⟩,.inr rfl,.inr (.inr rfl),.inr rfl⟩
theorem amU(d:Nat)(v:Rat):vF d (bW v)=true:=by
 rw[vF_1 (atW v) rfl];exact(ajn (aj3 v)).2 (by rw[ku])
theorem aqb(p q:Int):rmk p q=((qv p q).num,((qv p q).den:Int)):=by
 have h2:Nat.Coprime (qv p q).num.natAbs (qv p q).den:=(qv p q).reduced;have hd:=(qv p q).den_nz;have:=Rd.uniq (lS p q) (aae p q) (r:=(qv p q).num) (s:=((qv p q).den:Int)) zE (by unfold Int.gcd;rw[zxa];exact h2) (by rw[gW,jq])
 exact Prod.ext this.1 this.2
theorem aiO(x:Rat):qv (sgn (cq x).1 (nval WB (cq x).2.1)) (sgn (cq x).2.2.1 (nval WB (cq x).2.2.2))=x:=ku x
def qS(v:Rat):List UInt8:=rS (v.num,(v.den:Int))
def qB(v:Rat):Nat:=max (bitLen v.num.natAbs) (bitLen v.den)
attribute [local irreducible] IntKind.wrap Go1 Reg WP aJ aN bF bD aM aA ak aj aT Sat
attribute [local irreducible] bK bO bM bS bN qv bZ mf PrP qOk zOk vP dx lz vF cq rqv
theorem ahj{x0 x1 x2 x3:Atom}{p q:Int}{k m:Nat}[h:ZI [x0,x1] p k][h':ZI [x2,x3] q m](hk:k+m<=1000000):ah prog 525 [.agg [x0,x1,x2,x3]] (.v (.int .i64 ((max (bitLen (rmk p q).1.natAbs) (bitLen (rmk p q).2.natAbs):Nat):Int))):=by
 refine q1 ⟨_,func525,rfl,rfl⟩ fun neg n neg2 n2 hz hz2 hn hn2=>?_
 subst hz;subst hz2;refine ah.fq func525 results525 ntmps525 fun _ _ _ _ _=>?_
 refine zg ?_;exact iw rfl
theorem acL{q:jD}(hk:q.2.1.length+q.2.2.2.length<=1000000):ah prog 525 [.agg (q4A (rq q))] (.v (.int .i64 (qB (rqv q):Int))):=by
 have h:=ahj (h:=ZI.raw q.1 q.2.1) (h':=ZI.raw q.2.2.1 q.2.2.2) hk;rw[aqb]at h
 dsimp only at h
 rw[zxa]at h;unfold rqv qB;exact h
theorem afe(v:Rat)(e:Int):ah prog 526 [.agg (qA v),.v (.bool true),.v (.int .i64 e)] (.tup [.agg (vlA (bW v)),eNo 0]):=by
 refine ah.fq func526 results526 ntmps526 fun _ _ _ _ _=>?_
 refine zg ?_;refine .ok (aA.mk2 ((ak.gL rfl rfl rfl).imp ?_) (ak.tmp rfl));exact ajU
theorem ah6{x y:Rat}{K L:Nat}(hx:RB x K)(hy:RB y L)(hK:K+L<=400000):ah prog 74 [.agg (vlA (bW x)),.agg (vlA (bW y))] (.v (.bool (decide (x=y)))):=by
 haveI:=Ra.cq hx
 haveI:=Ra.cq hy
 obtain⟨z,cA,hz,_⟩:=eCmp (q4A (rq (cq x))) (q4A (rq (cq y))) (K:=K) (K':=L) zE
 rw[<-decide_eq_decide.2 hz];refine ah.fq func74 results74 ntmps74 fun _ _ _ _ _=>?_
 refine zg ?_;exact bf rfl
theorem aqH{x:Rat}{K:Nat}(hx:RB x K)(hK:K<=100000):ah prog 502 [.agg (q4A (rq (cq x)))] (.v (str (qS x))):=by
 have hl:=(vZ0.num hx hK).q.2
 dsimp only at hl
 have h:=(agF (h:=ZI.raw (cq x).1 (cq x).2.1) (h':=ZI.raw (cq x).2.2.1 (cq x).2.2.2)).h zE
 rw[aqb]at h;rw[aiO]at h;exact h
theorem alh{x:Rat}{K:Nat}(hx:RB x K)(hK:K<=100000):ah prog 467 [.agg (vlA (bW x))] (.v (str (qS x))):=by
 have c:=aqH hx hK;refine ah.fq func467 results467 ntmps467 fun _ _ _ _ _=>?_
 refine zg ?_;exact agY rfl
theorem aha{x:Rat}{K:Nat}(hx:RB x K)(hK:K<=100000):ah prog 399 [.agg (vlA (bW x))] (.tup [.one (.c (.val (str (qS x)))),eNo 0]):=by
 have c:=alh hx hK;have c1:=zh (vZ.num hx hK);rw[amU]at c1;refine ah.fq func399 results399 ntmps399 fun _ _ _ _ _=>?_
 refine zg ?_;exact .ok (aA.mk2 (ak.tmp rfl) (ak.tmp rfl))
theorem akH{x:Rat}{K:Nat}(hx:RB x K)(hK:K<=100000):ah prog 489 [.agg (vlA (bW x))] (.v (.int .i64 (qB x:Int))):=by
 have cO:=anv 0 zc zc
 have cB:ah prog 35 [.r (bU (0:Int).natAbs)] (.v (.int .i64 0)):=by
  haveI:BdN 0 1:=⟨by rw[dn];decide⟩
  exact(tT (a:= .sat (bU 0))).h zc
 have c:=acL (q:=cq x) (by have:=(vZ0.num hx hK).q.2;dsimp only at this;omega)
 rw[ku]at c;refine ah.fq func489 results489 ntmps489 fun _ _ _ _ _=>?_
 refine zg ?_;exact iw rfl
end
section
theorem arq{vs:List Rat}{K:Nat}(h:∀v∈vs,RB v K)(hK:K<=100000):∀x∈vs.map cq,(Sm WB x.2.1/\Sm WB x.2.2.2)/\x.2.1.length<=100000/\x.2.2.2.length<=100000:=fun x hx=>by
 obtain⟨v,hv,rfl⟩:=zqg.1 hx;exact(vZ0.num (h v hv) hK).q
theorem vZ0.mat{r c:Nat}{vs:List Rat}{K:Nat}(h:∀v∈vs,RB v K)(hK:K<=100000)(hl:vs.length<=100000):vZ0 (iJ r c vs) where
 q:=⟨⟨Sm.nil,Sm.nil⟩,zq8 _,zq8 _⟩
 a:=arq h hK
 al:=by rw[zq5];exact hl
 po:=by intro x hx;cases hx
 pol:=zq8 _
 p:=aZ
 fa:=by intro x hx;cases hx
 fal:=zq8 _
 ri:=by intro x hx;cases hx
 ril:=zq8 _
 lil:=zq8 _
theorem atI(r c:Nat)(vs:List Rat):vP (iJ r c vs)=0:=(vP0 _).2 ⟨.inr ⟨rfl,rfl,rfl,rfl⟩,.inl rfl,.inr rfl,.inr ⟨rfl,rfl,rfl⟩,.inr rfl,.inr (.inr rfl),.inr rfl⟩
theorem atP(v:Rat):qOk (cq v)=true:=(ajn (aj3 v)).2 (by rw[ku])
theorem aaQ{r c n:Nat}(hr:r<=64)(hc:c<=64)(hl:n=r*c):dx (r:Int) (c:Int) n=true:=decide_eq_true ⟨zE,zE,zE,zE,by rw[hl];simp⟩
theorem atY(d:Nat){r c:Nat}{vs:List Rat}(hl:vs.length=r*c)(hr:r<=64)(hc:c<=64):vF d (iJ r c vs)=true:=by
 rw[vF_2 (atI r c vs) rfl];unfold mOk;rw[zx4];refine⟨zqh.2 fun x hx=>?_,aaQ hr hc (by rw[zq5];exact hl)⟩
 obtain⟨v,_,rfl⟩:=zqg.1 hx;exact atP v
theorem Ra.rawq{q:jD}(hs:Sm WB q.2.1/\Sm WB q.2.2.2){K:Nat}(h:q.2.1.length<=K/\q.2.2.2.length<=K):Ra (q4A (rq q)) (rqv q) K:=
 Ra.raw ⟨zy hs.1 (zq6 _)⟩ ⟨zy hs.2 (zq6 _)⟩ h.1 h.2
attribute [local irreducible] IntKind.wrap Go1 Reg WP aJ aN bF bD aM aA ak aj aT Sat
attribute [local irreducible] bK bO bM bS bN qv bZ mf PrP qOk zOk vP dx lz vF cq rqv
end
end
section
open Go.ChangeShapes Go.WideShapes Go.ChangeAt Go.Joins
section
variable{H:Type}{enc:TypeId×Value->H}{W:World}{base:Nat}{sp:Nat->Bool}{hd:Bool}
end
def vW1(d:Nat)(v:Vl):Prop:=(v.po.length<=5/\∀x∈v.po,x.2.length<=2)/\v.ri.length<=5/\v.li.length<=4/\(v.li.length=0\/d≠0)/\v.p<=4294967296/\(v.q.2.1.length<=2/\v.q.2.2.2.length<=2)/\FewP v.r v.c v.a 4 2/\(v.fr<=4/\v.fc<=4/\v.fa.length<=100)
def vW:Nat->Vl->Prop
 |0,v=>vW1 0 v/\v.li=[]
 |d+1,v=>vW1 (d+1) v/\∀x∈v.li,vW d x
end
section
section
instance zeroZ:agO [.bool false,.slice none 0 0] (z2C (z2v 0)):=⟨fun S w=>⟨rfl,bU.zero,trivial⟩⟩
def pl(zs:List Int):Nat->Nat
 |0=>0
 |k+1=>if zs.getD k 0=0 then pl zs k else k+1
def dI(zs:List Int):Nat:=pl zs zs.length
def aX(zs:List Int):List Int:=zs.take (dI zs)
def pN(zs:List Int):Prop:=zs.length=0\/zs.getD (zs.length - 1) 0≠0
theorem atr(zs:List Int):∀k,pl zs k<=k
 |0=>zq6 _
 |k+1=>by unfold pl;split;exact Nat.le_succ_of_le (atr zs k);exact zq6 _
theorem aoK(zs:List Int):∀k,pl zs k=0\/zs.getD (pl zs k - 1) 0≠0
 |0=> .inl rfl
 |k+1=>by
  unfold pl;split
  ·exact aoK zs k
  ·next h=>exact .inr h
theorem aiM(zs:List Int):∀(k j:Nat),pl zs k<=j->j < k->zs.getD j 0=0
 |0,j,_,h=>absurd h (zvj _)
 |k+1,j,h1,h2=>by
  unfold pl at h1
  split at h1
  ·next h=>
   by_cases hj:j=k
   ·subst hj;exact h
   ·exact aiM zs k j h1 zE
  ·omega
theorem ajl(zs:List Int):dI zs<=zs.length:=atr zs _
theorem xP(zs:List Int):(aX zs).length=dI zs:=by unfold aX;rw[zx3];exact zv9 (ajl zs)
theorem p9{zs:List Int}{j:Nat}(h:zs.length<=j):zs.getD j 0=0:=by rw[zx7,zqe h];rfl
theorem afT(zs:List Int)(j:Nat):(aX zs).getD j 0=zs.getD j 0:=by
 by_cases h:j < dI zs
 ·unfold aX;rw[zx7,zy9,if_pos h,<-zx7]
 ·rw[p9 (by rw[xP];omega)]
  by_cases h2:j < zs.length
  ·exact(aiM zs _ j (by unfold dI at h;omega) h2).symm
  ·exact(p9 zE).symm
theorem ao0(zs:List Int):pN (aX zs):=by
 rcases aoK zs zs.length with h|h
 ·exact .inl (by rw[xP];exact h)
 ·exact .inr (by rw[xP,afT];exact h)
theorem aol{a b:List Int}(ha:pN a)(hb:pN b)(h:∀j,a.getD j 0=b.getD j 0):a=b:=by
 have key:∀{a b:List Int},pN a->(∀j,a.getD j 0=b.getD j 0)->a.length<=b.length:=fun {a b} ha h=>by
  rcases ha with h0|h0
  ·omega
  ·rcases zyd b.length a.length with h1|h1
   ·rw[h,p9 zE]at h0;exact absurd rfl h0
   ·exact h1
 have hl:a.length=b.length:=Nat.le_antisymm (key ha h) (key hb fun j=>(h j).symm)
 apply zyb;intro j
 by_cases hj:j < a.length
 ·have:=h j;rw[zx7,zx7,zyh hj,zyh zE]at this
  rw[zyh hj,zyh zE]
  exact congrArg some this
 ·rw[zqe zE,zqe zE]
def abU(n:Nat)(f:Nat->Int):List Int:=(List.range n).map f
theorem aeH(n:Nat)(f:Nat->Int):(abU n f).length=n:=by unfold abU;rw[zq5,zy1]
theorem as5{n:Nat}{f:Nat->Int}{j:Nat}(h:j < n):(abU n f).getD j 0=f j:=by
 unfold abU;rw[zx7,zqa,zvb h];rfl
def bG(op:Int->Int->Int)(a b:List Int):List Int:=aX (abU (max a.length b.length) fun i=>op (a.getD i 0) (b.getD i 0))
theorem aql{op:Int->Int->Int}(h0:op 0 0=0)(a b:List Int)(j:Nat):(bG op a b).getD j 0=op (a.getD j 0) (b.getD j 0):=by
 unfold bG;rw[afT];by_cases h:j < max a.length b.length
 ·exact as5 h
 ·rw[p9 (by rw[aeH];omega),p9 (zs:=a) zE,p9 (zs:=b) zE,h0]
def amw(l:List Z2)(i:Nat):Z2:=l.getD i (z2v 0)
theorem ZQ.zero(K:Nat):ZQ (z2v 0) 0 K:=ZQ.made (z:=0) (by rw[show (0:Int).natAbs=0 from rfl];exact gD K)
theorem MZ.pat{l:List Z2}{zs:List Int}{K:Nat}(h:MZ l zs K)(i:Nat):ZQ (amw l i) (zs.getD i 0) K:=by
 unfold amw;rw[zx7,zx7]
 have hl:=h.len;by_cases hi:i < l.length
 ·rw[zyh hi,zyh zE]
  exact h.z i _ _ (zyh hi) (zyh zE)
 ·rw[zqe zE,zqe zE]
  exact ZQ.zero K
theorem asB{f:Nat->Z2}{z:Z2}{n k:Nat}(hk:k < n):((List.range n).map fun i=>if i < k then f i else z).set k (f k)=(List.range n).map fun i=>if i < k+1 then f i else z:=by
 apply zyb
 intro j;rw[zv2]
 by_cases hj:k=j
 ·subst hj;rw[if_pos rfl,if_pos (by rw[zq5,zy1];exact hk),zqa,zvb hk]
  simp
 ·rw[if_neg hj,zqa,zqa]
  by_cases hjn:j < n
  ·rw[zvb hjn]
   simp only[Option.map_some];by_cases h1:j < k
   ·rw[if_pos h1,if_pos zE]
   ·rw[if_neg h1,if_neg zE]
  ·rw[zqe (by rw[zy1];omega)];rfl
theorem aqF{f:Nat->Z2}{z:Z2}{n:Nat}:((List.range n).map fun i=>if i < n then f i else z)=(List.range n).map f:=by
 refine zvg fun i hi=>?_
 rw[if_pos (List.mem_range.1 hi)]
theorem ao5{f:Nat->Z2}{z:Z2}{n:Nat}:(List.replicate n (z2C z)).flatten=((List.range n).map fun i=>if i < 0 then f i else z).flatMap z2C:=by
 have:((List.range n).map fun i=>if i < 0 then f i else z)=List.replicate n z:=by
  apply zyb;intro j
  rw[zqa,List.getElem?_replicate]
  by_cases hj:j < n
  ·rw[zvb hj,if_pos hj];simp
  ·rw[zqe (by rw[zy1];omega),if_neg hj];rfl
 rw[this,List.flatMap,List.map_replicate]
attribute [local irreducible] IntKind.wrap Go1 Reg WP aJ aN bF bD aM aA ak aj aT Sat
attribute [local irreducible] bK bO bM bS bN qv bZ mf PrP qOk zOk vP dx lz vF cq rqv dI
theorem ak0(l:List Z2)(i:Nat)(hl:l.length<=1000000):ah prog 376 [.r (aB 2 z2C l),.v (.int .i64 (i:Int))] (.agg (z2A (amw l i))):=by
 unfold amw;rw[zx7]
 refine ah.fq func376 results376 ntmps376 fun _ _ _ _ _=>?_
 by_cases h:i < l.length
 ·obtain⟨q,hq⟩:∃q,l[i]? =some q:=⟨_,zyh h⟩
  rw[hq];refine zg ?_;exact nP ak.dP rfl
 ·rw[zqe zE]
  refine zg ?_;refine u6 ak.dP ?_;exact vJ
theorem ach{l:List Z2}{zs:List Int}{K:Nat}(hM:MZ l zs K)(hK:K<=1000000)(hl:l.length<=100000):ah prog 228 [.r (aB 2 z2C l)] (.r (aB 2 z2C ((aX zs).map z2v))):=by
 have hlen:=hM.len;have hle:=ajl zs;refine ah.fq func228 results228 ntmps228 fun _ _ _ _ _=>?_
 refine zg ?_;refine W.loop (fun k=>k<=l.length/\pl zs k=dI zs) (fun k=>[(0,.r (aB 2 z2C l)),(3,.v (.int .i64 (k:Int)))]) (fun _=>[]) (fun k=>k) l.length ⟨zq6 _,by rw[hlen];unfold dI;rfl⟩ (fun k ⟨hk,he⟩=>?_)
 by_cases h0:0 < k
 ·obtain⟨m,rfl⟩:∃m,k=m+1:=⟨k - 1,zE⟩
  obtain⟨q,hq⟩:∃q,l[m+1 - 1]? =some q:=⟨_,zyh zE⟩
  have hq':l[m]? =some q:=hq;obtain⟨z,hz⟩:∃z,zs[m]? =some z:=⟨_,zyh zE⟩
  have hg:zs.getD m 0=z:=by rw[zx7,hz];rfl
  have zq:=hM.z m q z hq' hz;have cS:=(sU (h:=zq.zi)).h zE
  have hs0:aS z=0↔z=0:=by unfold aS;(repeat' split) <;> omega
  unfold pl at he;rw[hg]at he;by_cases hz0:z=0
  ·rw[if_pos hz0]at he;have h1:=hs0.2 hz0;refine zg ?_;exact W.next m ⟨zE,he⟩ zE
  ·rw[if_neg hz0]at he;have h1:¬aS z=0:=fun e=>hz0 (hs0.1 e)
   rw[<-he]at hle;have e3:(l.take (m+1)).length=m+1:=by rw[zx3];omega
   refine zg ?_;refine W.loop (fun j=>j<=m+1) (fun j=>[(4,.own 100),(24,.r (aB 2 z2C (l.take (m+1)))),(25,.v (.int .i64 ((m+1:Nat):Int))),(26,.v (.int .i64 (j:Int)))]) (fun j=>[(100,.row 25 2 j (((zs.take j).map z2v).flatMap z2C))]) (fun j=>m+1 - j) 0 (zq8 _) (fun j hj=>?_)
    (by
     refine St.bV [(100,none)] zt ?_ ?_ rfl
     ·repeat(first|exact trivial|refine⟨⟨_,rfl,aH.same rfl⟩,?_⟩|refine⟨⟨_,rfl,aH.nil rfl⟩,?_⟩|refine⟨⟨_,rfl,aH.int (by rw[e3])⟩,?_⟩)
     ·exact⟨ay.dZ rfl,trivial⟩)
   by_cases h2:j < m+1
   ·obtain⟨q2,hq2⟩:∃q2,l[j]? =some q2:=⟨_,zyh zE⟩
    have hq3:(l.take (m+1))[j]? =some q2:=by rw[zy9,if_pos h2];exact hq2
    have h3:j < (l.take (m+1)).length:=zE
    obtain⟨z2,hz2⟩:∃z2,zs[j]? =some z2:=⟨_,zyh zE⟩
    have cF:=adV (hM.z j q2 z2 hq2 hz2) hK;have e2:((zs.take j).map z2v).flatMap z2C++z2C (z2v z2)=((zs.take (j+1)).map z2v).flatMap z2C:=by rw[zw7,hz2];simp
    refine zg ?_;refine W.next (j+1) h2 zE (by
     refine St.bV [(100,some 37)] zt ?_ ?_ rfl
     ·exact yb
     ·exact⟨ay.row rfl rfl rfl e2,trivial⟩)
   ·obtain rfl:j=m+1:=zE
    refine zg ?_;refine aM.frz 100 ?_;refine ret1 ?_;unfold aX;rw[<-he];show AV0.one (.c (.sat (aQ 2 (m+1) _)))= .one (.c (.sat (aQ 2 ((zs.take (m+1)).map z2v).length _)));rw[zq5,zx3,zv9 zE]
 ·obtain rfl:k=0:=zE
  have he':dI zs=0:=he.symm;refine zg ?_;refine W.loop (fun j:Nat=>j=0) (fun j=>[(4,.v (.slice none 0 0)),(25,.v (.int .i64 0)),(26,.v (.int .i64 (j:Int)))]) (fun _=>[]) (fun j=>j) 0 rfl (fun j hj=>?_)
  subst hj;refine zg ?_;refine agu ?_;unfold aX;rw[he'];exact fun E S w v h=>(aF.nil (α:=Z2) (enc:=z2C) (size:=2)) E S w v h
end
section
theorem avh{n K:Nat}{f:Nat->Int}(h:∀i,i < n->(f i).natAbs < WB ^ K):MZ ((List.range n).map fun i=>z2v (f i)) (abU n f) K:=by
 refine⟨by rw[zq5,zy1,aeH],fun i q z hq hz=>?_⟩
 have hi:i < n:=by have:=qJ hq;rwa [zq5,zy1]at this
 rw[zqa,zvb hi]at hq
 unfold abU at hz;rw[zqa,zvb hi]at hz
 cases hq;cases hz;exact ZQ.made (h i hi)
theorem as3{n:Nat}{l:List Z2}(h:l.length=n):aB 2 z2C l=aQ 2 n (l.flatMap z2C):=by subst h;rfl
attribute [local irreducible] IntKind.wrap Go1 Reg WP aJ aN bF bD aM aA ak aj aT Sat
attribute [local irreducible] bK bO bM bS bN qv bZ mf PrP qOk zOk vP dx lz vF cq rqv dI aX
theorem aqg{l l':List Z2}{zs zs':List Int}{K K' L:Nat}(op:Int->Int->Int)(x:CA)(hx1:x.eO=true)(hM:MZ l zs K)(hM':MZ l' zs' K')(hl:l.length<=10000)(hl':l'.length<=10000)
  (hx:∀i,FnV prog x [.agg (z2A (amw l i)),.agg (z2A (amw l' i))] (.agg (zN (op (zs.getD i 0) (zs'.getD i 0))))) (hb:∀i,(op (zs.getD i 0) (zs'.getD i 0)).natAbs < WB ^ L) (hL:L<=1000000):
  ah prog 384 [.r (aB 2 z2C l),.r (aB 2 z2C l'),.it (.one (.c x))] (.r (aB 2 z2C ((bG op zs zs').map z2v))):=by
 have cN:ah prog 228 [.r (aQ 2 (max l.length l'.length) (((List.range (max l.length l'.length)).map fun i=>z2v (op (zs.getD i 0) (zs'.getD i 0))).flatMap z2C))] (.r (aB 2 z2C ((bG op zs zs').map z2v))):=by
  have h:=ach (avh (n:=max l.length l'.length) (f:=fun i=>op (zs.getD i 0) (zs'.getD i 0)) fun i _=>hb i) hL (by rw[zq5,zy1];omega)
  rw[as3 (n:=max l.length l'.length) (by rw[zq5,zy1])]at h
  unfold bG;rw[<-hM.len,<-hM'.len];exact h
 have hm:max l.length l'.length<=10000:=zE
 refine ah.fq func384 results384 ntmps384 fun _ _ _ _ hB=>?_
 refine zg ?_;refine W.loop (fun k=>k<=max l.length l'.length) (fun k=>[(0,.r (aB 2 z2C l)),(1,.r (aB 2 z2C l')),(2,.it (.one (.c x))),(7,.own 100),(16,.v (.int .i64 ((max l.length l'.length:Nat):Int))),(17,.v (.int .i64 (k:Int)))]) (fun k=>[(100,.row 25 2 (max l.length l'.length) (((List.range (max l.length l'.length)).map fun i=>if i < k then z2v (op (zs.getD i 0) (zs'.getD i 0))else z2v 0).flatMap z2C))]) (fun k=>max l.length l'.length - k) 0 (zq8 _) (fun k hk=>?_)
  (by
   refine St.bV [(100,some 14)] zt ?_ ?_ rfl
   ·exact yb
   ·exact⟨ay.row rfl rfl rfl (ao5 (f:=fun i=>z2v (op (zs.getD i 0) (zs'.getD i 0)))),trivial⟩)
 by_cases h:k < max l.length l'.length
 ·have c1:=ak0 l k zE
  have c2:=ak0 l' k zE
  have c3:=hx k;have e2:((List.range (max l.length l'.length)).map fun i=>if i < k then z2v (op (zs.getD i 0) (zs'.getD i 0))else z2v 0).length=max l.length l'.length:=by rw[zq5,zy1]
  have e3:=asB (f:=fun i=>z2v (op (zs.getD i 0) (zs'.getD i 0))) (z:=z2v 0) h
  refine zg ?_;refine SX.G.ab1 (a:=z2v (op (zs.getD k 0) (zs'.getD k 0))) ?_;rw[e3];refine zg ?_;exact W.next (k+1) h zE
 ·obtain rfl:k=max l.length l'.length:=zE
  rw[aqF];refine WP.freeze 100 hB rfl ?_;refine zg ?_;exact ret1 rfl
theorem zT{P:Program}{f g:FuncId}{a b r:AV}(h:ah P f [a,b,.it (.one (.c (.sat (fD g [] []))))] r):ah P f [a,b,.it (.one (.clo g []))] r:=
 weakArgs h fun E S w vs hv=>by
  match vs,hv with
  |[u1,u2,u3],⟨h1,h2,h3,_⟩=>exact⟨h1,h2,an8 h3,trivial⟩
abbrev pAdd:=bG (· + ·)
abbrev aaJ:=bG (· - ·)
theorem ap5{l l':List Z2}{zs zs':List Int}{K K':Nat}(hM:MZ l zs K)(hM':MZ l' zs' K')(hl:l.length<=10000)(hl':l'.length<=10000)(hK:K+K'<=100000):
  ah prog 274 [.r (aB 2 z2C l),.r (aB 2 z2C l')] (.r (aB 2 z2C ((aaJ zs zs').map z2v))):=by
 have c:=zT (aqg (· - ·) (.sat (fD 31 [] [])) rfl hM hM' hl hl' (fun i=>FnV.const ((afl (h:=(hM.pat i).zi) (h':=(hM'.pat i).zi)).h zE)) (L:=K+K'+1) (fun i=>by
  have h2:(-(zs'.getD i 0)).natAbs < WB ^ K':=by rw[Int.natAbs_neg];exact(hM'.pat i).b
  have:=ad4 (hM.pat i).b h2
  rwa [<-Int.sub_eq_add_neg]at this) zE)
 refine ah.fq func274 results274 ntmps274 fun _ _ _ _ _=>?_
 refine zg ?_;exact ret1 rfl
theorem aku(a b:List Int)(j:Nat):(aaJ a b).getD j 0=a.getD j 0 - b.getD j 0:=aql (op:=(· - ·)) rfl a b j
theorem anW(op:Int->Int->Int)(a b:List Int):pN (bG op a b):=by unfold bG;exact ao0 _
theorem apl{a b:List Int}(ha:pN a)(hb:pN b):(aaJ a b).length=0↔a=b:=by
 constructor
 ·intro h;refine aol ha hb fun j=>?_
  have h2:=aku a b j;have h3:(aaJ a b).getD j 0=0:=p9 zE
  omega
 ·rintro rfl;have h2:∀j,(aaJ a a).getD j 0=([]:List Int).getD j 0:=fun j=>by
   rw[aku];show a.getD j 0 - a.getD j 0=0;omega
  have h3:aaJ a a=[]:=aol (anW _ a a) (.inl rfl) h2;rw[h3];rfl
theorem alH{l l':List Z2}{zs zs':List Int}{K K':Nat}(hM:MZ l zs K)(hM':MZ l' zs' K')(hl:l.length<=10000)(hl':l'.length<=10000)(hK:K+K'<=100000)(hn:pN zs)(hn':pN zs'):
  ah prog 154 [.r (aB 2 z2C l),.r (aB 2 z2C l')] (.v (.bool (decide (zs=zs')))):=by
 have c:=ap5 hM hM' hl hl' hK;have hlen:((aaJ zs zs').map z2v).length=(aaJ zs zs').length:=zq5 _;rw[show decide (zs=zs')=decide ((aaJ zs zs').length=0)from decide_eq_decide.2 (apl hn hn').symm]
 refine ah.fq func154 results154 ntmps154 fun _ _ _ _ _=>?_
 refine zg ?_;refine bf ?_;rw[decide_eq_decide];omega
def aV(zs:List Int)(d:Int):List Int:=aX (zs.map (· *d))
end
section
theorem PrP.lt{p:Nat}(h:PrP p):2<=p/\p < 2147483648:=⟨h.1,h.2.1⟩
abbrev gfA(p:Nat):List Atom:=[.c (.val (.int .u64 (p:Int)))]
def eqL{α:Type}(p:α->α->Bool):List α->List α->Bool
 |[],[]=>true
 |a::l,b::l'=>p a b&&eqL p l l'
 |_,_=>false
theorem wD{α:Type}{p:α->α->Bool}:∀{l l':List α},l.length≠l'.length->eqL p l l'=false
 |[],[],h=>absurd rfl h
 |[],_::_,_=>rfl
 |_::_,[],_=>rfl
 |a::l,b::l',h=>by rw[eqL,wD (l:=l) (l':=l') (fun e=>h (by rw[zx6,zx6,e])),Bool.and_false]
theorem wP{α:Type}{p:α->α->Bool}{l l':List α}{k:Nat}{a b:α}(h:l[k]? =some a)(h':l'[k]? =some b):eqL p (l.drop k) (l'.drop k)=(p a b&&eqL p (l.drop (k+1)) (l'.drop (k+1))):=by
 obtain⟨h1,rfl⟩:=zxg.1 h
 obtain⟨h2,rfl⟩:=zxg.1 h'
 rw[zy4 h1,zy4 h2,eqL]
theorem wX{α:Type}{p:α->α->Bool}:∀{l l':List α},(∀a∈l,∀b∈l',p a b=true↔a=b)->(eqL p l l'=true↔l=l')
 |[],[],_=>by simp[eqL]
 |[],_::_,_=>by simp[eqL]
 |_::_,[],_=>by simp[eqL]
 |a::l,b::l',h=>by
  rw[eqL,zx4,h a (zq9 ..) b (zq9 ..),wX (l:=l) (l':=l') fun x hx y hy=>h x (zy2 _ hx) y (zy2 _ hy)]
  simp
attribute [local irreducible] IntKind.wrap Go1 Reg WP aJ aN bF bD aM aA ak aj aT Sat
attribute [local irreducible] bK bO bM bS bN qv bZ mf PrP qOk zOk vP dx lz vF cq rqv dI aX
theorem al2{p:Nat}(h:PrP p):ah prog 240 [.v (.int .u64 (p:Int))] (.tup [.agg (gfA p),.one (.c (.val (.bool true)))]):=by
 have hp:=h.lt;have c:=pK p zE
 rw[decide_eq_true h]at c;refine ah.fq func240 results240 ntmps240 fun _ _ _ _ _=>?_
 refine zg ?_;exact .ok (aA.mk2 ak.agg1 (ak.tmp rfl))
theorem aqK{p:Nat}(h:PrP p):ah prog 258 [.agg (gfA p)] (.v (.int .u64 (p:Int))):=by
 have hp:=h.lt;refine ah.fq func258 results258 ntmps258 fun _ _ _ _ _=>?_
 refine zg ?_;exact iw rfl
theorem abh{p:Nat}(h:PrP p)(x:Nat)(hx:x < 18446744073709551616):ah prog 278 [.agg (gfA p),.v (.int .u64 (x:Int))] (.v (.int .u64 ((x % p:Nat):Int))):=by
 have hp:=h.lt;have c:=aqK h;have hr:IntKind.u64.wrap ((x:Int).tmod (p:Int))=((x % p:Nat):Int):=by rw[abk];exact wrapN (zxb (Nat.mod_le x p) hx)
 refine ah.fq func278 results278 ntmps278 fun _ _ _ _ _=>?_
 refine zg ?_;exact iw rfl
theorem aly(v:Vl)(h:PrP v.p):ah prog 156 [.agg (vlA v)] (.agg (gfA v.p)):=by
 have c:=al2 h;refine ah.fq func156 results156 ntmps156 fun _ _ _ _ _=>?_
 refine zg ?_;exact nP ak.agg1 rfl
abbrev fmA(r c:Nat)(l:List Nat):List Atom:=[.c (.val (.int .i64 (r:Int))),.c (.val (.int .i64 (c:Int))),.c (.sat (aB 1 wdC l))]
theorem apL{r c:Nat}{l:List Nat}(hl:l.length=r*c)(hr:r<=64)(hc:c<=64):ah prog 184 [.agg (fmA r c l)] (.v (.bool true)):=by
 have h:ah prog 184 [.agg (fmA r c l)] (.v (.bool (dx r c l.length))):=yR r c;rw[aaQ hr hc hl]at h;exact h
theorem ahY{r c r' c':Nat}{l l':List Nat}(hl:l.length=r*c)(hl':l'.length=r'*c')(hr:r<=64)(hc:c<=64)(hr':r'<=64)(hc':c'<=64):
  ah prog 275 [.agg (fmA r c l),.agg (fmA r' c' l')] (.v (.bool (decide (r=r'/\c=c')))):=by
 have cF:=apL hl hr hc;have cF':=apL hl' hr' hc';refine ah.fq func275 results275 ntmps275 fun _ _ _ _ _=>?_
 by_cases h1:(r:Int)=(r':Int)
 ·refine zg ?_;refine bf ?_;rw[decide_eq_decide];omega
 ·refine zg ?_;refine bf ?_;exact(decide_eq_false fun h=>h1 zE).symm
theorem apI(l l':List jD)(x:CA)(p:jD->jD->Bool)(hx:∀v∈l,∀u∈l',FnV prog x [.agg (q4A (rq v)),.agg (q4A (rq u))] (.v (.bool (p v u))))(hl:l.length<=100000)(hl':l'.length<=100000)(hx1:x.eO=true):
  ah prog 272 [.r (aB 4 q4C (l.map rq)),.r (aB 4 q4C (l'.map rq)),.it (.one (.c x))] (.v (.bool (eqL p l l'))):=by
 have e1:(l.map rq).length=l.length:=zq5 _;have e2:(l'.map rq).length=l'.length:=zq5 _;refine ah.fq func272 results272 ntmps272 fun _ _ _ _ _=>?_
 by_cases hne:l.length=l'.length
 rotate_left
 ·rw[wD hne];refine zg ?_;exact bf rfl
 refine zg ?_;refine W.loop (fun k=>k<=l.length/\eqL p (l.drop k) (l'.drop k)=eqL p l l') (fun k=>[(1,.r (aB 4 q4C (l'.map rq))),(2,.it (.one (.c x))),(15,.r (aB 4 q4C (l.map rq))),(16,.v (.int .i64 ((l.map rq).length:Int))),(17,.v (.int .i64 (k:Int)))]) (fun _=>[]) (fun k=>l.length - k) 0 ⟨zq8 _,rfl⟩ (fun k ⟨hk,he⟩=>?_)
 by_cases h:k < l.length
 ·obtain⟨a,ha⟩:∃a,l[k]? =some a:=⟨_,zyh h⟩
  obtain⟨b,hb⟩:∃b,l'[k]? =some b:=⟨_,zyh zE⟩
  have hf:=hx a (zq4 ha) b (zq4 hb);have hq:(l.map rq)[k]? =some (rq a):=by rw[zqa,ha];rfl
  have hq':(l'.map rq)[k]? =some (rq b):=by rw[zqa,hb];rfl
  have h1:k < (l.map rq).length:=by rw[zq5];exact h
  have h2:k < (l'.map rq).length:=by rw[zq5];omega
  rw[wP ha hb]at he;cases hp:p a b with
  |false=>
   rw[hp]at hf he;refine zg ?_;refine bf ?_;rw[<-he];rfl
  |true=>
   rw[hp]at hf he;refine zg ?_;exact W.next (k+1) ⟨h,he⟩ zE
 ·obtain rfl:k=l.length:=zE
  rw[zvh,hne,zvh]at he;refine zg ?_;refine bf ?_;rw[<-he];rfl
theorem amb(l l':List jD)(f:FuncId)(p:jD->jD->Bool)(hx:∀v∈l,∀u∈l',ah prog f [.agg (q4A (rq v)),.agg (q4A (rq u))] (.v (.bool (p v u))))(hl:l.length<=100000)(hl':l'.length<=100000):
  ah prog 272 [.r (aB 4 q4C (l.map rq)),.r (aB 4 q4C (l'.map rq)),.it (.one (.clo f []))] (.v (.bool (eqL p l l'))):=
 zT (apI l l' (.sat (fD f [] [])) p (fun v h u h'=>FnV.const (hx v h u h')) hl hl' rfl)
theorem am6(l l':List Nat)(x:CA)(p:Nat->Nat->Bool)(hx:∀v∈l,∀u∈l',FnV prog x [.v (.int .u64 (v:Int)),.v (.int .u64 (u:Int))] (.v (.bool (p v u))))(hl:l.length<=100000)(hl':l'.length<=100000)(hx1:x.eO=true):
  ah prog 276 [.r (aB 1 wdC l),.r (aB 1 wdC l'),.it (.one (.c x))] (.v (.bool (eqL p l l'))):=by
 refine ah.fq func276 results276 ntmps276 fun _ _ _ _ _=>?_
 by_cases hne:l.length=l'.length
 rotate_left
 ·rw[wD hne];refine zg ?_;exact bf rfl
 refine zg ?_;refine W.loop (fun k=>k<=l.length/\eqL p (l.drop k) (l'.drop k)=eqL p l l') (fun k=>[(1,.r (aB 1 wdC l')),(2,.it (.one (.c x))),(15,.r (aB 1 wdC l)),(16,.v (.int .i64 (l.length:Int))),(17,.v (.int .i64 (k:Int)))]) (fun _=>[]) (fun k=>l.length - k) 0 ⟨zq8 _,rfl⟩ (fun k ⟨hk,he⟩=>?_)
 by_cases h:k < l.length
 ·obtain⟨a,ha⟩:∃a,l[k]? =some a:=⟨_,zyh h⟩
  obtain⟨b,hb⟩:∃b,l'[k]? =some b:=⟨_,zyh zE⟩
  have hf:=hx a (zq4 ha) b (zq4 hb);rw[wP ha hb]at he;cases hp:p a b with
  |false=>
   rw[hp]at hf he;refine zg ?_;refine bf ?_;rw[<-he];rfl
  |true=>
   rw[hp]at hf he;refine zg ?_;exact W.next (k+1) ⟨h,he⟩ zE
 ·obtain rfl:k=l.length:=zE
  rw[zvh,hne,zvh]at he;refine zg ?_;refine bf ?_;rw[<-he];rfl
theorem an0(l l':List Vl)(x:CA)(p:Vl->Vl->Bool)(hx:∀v∈l,∀u∈l',FnV prog x [.agg (vlA v),.agg (vlA u)] (.v (.bool (p v u))))(hl:l.length<=100000)(hl':l'.length<=100000)(hx1:x.eO=true):
  ah prog 158 [.r (aB 15 vlC l),.r (aB 15 vlC l'),.it (.one (.c x))] (.v (.bool (eqL p l l'))):=by
 rw[vT,vT];refine ah.fq func158 results158 ntmps158 fun _ _ _ _ _=>?_
 by_cases hne:l.length=l'.length
 rotate_left
 ·rw[wD hne];refine zg ?_;exact bf rfl
 refine zg ?_;refine W.loop (fun k=>k<=l.length/\eqL p (l.drop k) (l'.drop k)=eqL p l l') (fun k=>[(1,.r (aB 15 vlE l')),(2,.it (.one (.c x))),(15,.r (aB 15 vlE l)),(16,.v (.int .i64 (l.length:Int))),(17,.v (.int .i64 (k:Int)))]) (fun _=>[]) (fun k=>l.length - k) 0 ⟨zq8 _,rfl⟩ (fun k ⟨hk,he⟩=>?_)
 by_cases h:k < l.length
 ·obtain⟨a,ha⟩:∃a,l[k]? =some a:=⟨_,zyh h⟩
  obtain⟨b,hb⟩:∃b,l'[k]? =some b:=⟨_,zyh zE⟩
  have hf:=hx a (zq4 ha) b (zq4 hb);rw[wP ha hb]at he;cases hp:p a b with
  |false=>
   rw[hp]at hf he;refine zg ?_;refine bf ?_;rw[<-he];rfl
  |true=>
   rw[hp]at hf he;refine zg ?_;exact W.next (k+1) ⟨h,he⟩ zE
 ·obtain rfl:k=l.length:=zE
  rw[zvh,hne,zvh]at he;refine zg ?_;refine bf ?_;rw[<-he];rfl
theorem akN(l l':List Vl)(f:FuncId)(p:Vl->Vl->Bool)(hx:∀v∈l,∀u∈l',ah prog f [.agg (vlA v),.agg (vlA u)] (.v (.bool (p v u))))(hl:l.length<=100000)(hl':l'.length<=100000):
  ah prog 158 [.r (aB 15 vlC l),.r (aB 15 vlC l'),.it (.one (.clo f []))] (.v (.bool (eqL p l l'))):=
 zT (an0 l l' (.sat (fD f [] [])) p (fun v h u h'=>FnV.const (hx v h u h')) hl hl' rfl)
theorem ah4(l l':List Nat)(hl:l.length<=100000)(hl':l'.length<=100000):ah prog 157 [.r (aB 1 wdC l),.r (aB 1 wdC l')] (.v (.bool (decide (l=l')))):=by
 have e:decide (l=l')=eqL (fun a b=>decide (a=b)) l l':=by
  rw[zyc,decide_eq_true_iff];exact(wX fun a _ b _=>by rw[decide_eq_true_iff]).symm
 rw[e];refine ah.fq func157 results157 ntmps157 fun _ _ _ _ _=>?_
 by_cases hne:l.length=l'.length
 rotate_left
 ·rw[wD hne];refine zg ?_;exact bf rfl
 refine zg ?_;refine W.loop (fun k=>k<=l.length/\eqL (fun a b=>decide (a=b)) (l.drop k) (l'.drop k)=eqL (fun a b=>decide (a=b)) l l') (fun k=>[(0,.r (aB 1 wdC l)),(1,.r (aB 1 wdC l')),(12,.v (.int .i64 (l.length:Int))),(13,.v (.int .i64 (k:Int)))]) (fun _=>[]) (fun k=>l.length - k) 0 ⟨zq8 _,rfl⟩ (fun k ⟨hk,he⟩=>?_)
 by_cases h:k < l.length
 ·obtain⟨a,ha⟩:∃a,l[k]? =some a:=⟨_,zyh h⟩
  obtain⟨b,hb⟩:∃b,l'[k]? =some b:=⟨_,zyh zE⟩
  rw[wP ha hb]at he;by_cases hab:a=b
  ·have hab':(a:Int)=(b:Int):=zE
   rw[decide_eq_true hab]at he;refine zg ?_;exact W.next (k+1) ⟨h,he⟩ zE
  ·have hab':¬(a:Int)=(b:Int):=zE
   rw[decide_eq_false hab]at he;refine zg ?_;refine bf ?_;rw[<-he];rfl
 ·obtain rfl:k=l.length:=zE
  rw[zvh,hne,zvh]at he;refine zg ?_;refine bf ?_;rw[<-he];rfl
theorem agR{p:Nat}(h:PrP p)(x y:Nat)(hx:x < p)(hy:y < p):ah prog 277 [.v (.int .u64 (x:Int)),.v (.int .u64 (y:Int)),.r (dK [.val (.int .u64 (p:Int))])] (.v (.bool (decide (x=y)))):=by
 have hp:=h.lt;have c1:=abh h x zE
 have c2:=abh h y zE
 rw[zw4 hx]at c1;rw[zw4 hy]at c2;refine ah.fq func277 results277 ntmps277 fun _ _ _ _ _=>?_
 refine zg ?_;refine bf ?_;rw[decide_eq_decide];omega
theorem akQ{p r c r' c':Nat}{l l':List Nat}(h:PrP p)(hl:l.length=r*c)(hl':l'.length=r'*c')(hr:r<=64)(hc:c<=64)(hr':r'<=64)(hc':c'<=64)(hb:∀x∈l,x < p)(hb':∀x∈l',x < p):
  ah prog 155 [.agg (gfA p),.agg (fmA r c l),.agg (fmA r' c' l')] (.v (.bool (decide (r=r'/\c=c'/\l=l')))):=by
 have cA:=ahY hl hl' hr hc hr' hc';have m1:=zxd hr hc;have m2:=zxd hr' hc';have cE:=am6 l l' (.sat (fD 277 [] [.sat (dK [.val (.int .u64 (p:Int))])])) (fun x y=>decide (x=y)) (fun x hx y hy=>FnV.clo (agR h x y (hb x hx) (hb' y hy))) zE zE rfl
 rw[show eqL (fun x y=>decide (x=y)) l l'=decide (l=l')by
  rw[zyc,decide_eq_true_iff];exact wX fun a _ b _=>by rw[decide_eq_true_iff]]at cE
 refine ah.fq func155 results155 ntmps155 fun _ _ _ _ hB=>?_
 refine zg ?_;refine WP.jo 3 hB rfl rfl ?_;refine WP.aG ?_;by_cases h1:r=r'/\c=c'
 ·rw[decide_eq_true h1]at cA;refine zg ?_;refine bf ?_;rw[decide_eq_decide];exact⟨fun h=>⟨h1.1,h1.2,h⟩,fun h=>h.2.2⟩
 ·rw[decide_eq_false h1]at cA;refine zg ?_;refine bf ?_;exact(decide_eq_false fun h=>h1 ⟨h.1,h.2.1⟩).symm
end
section
def wN(l:List Nat):Prop:=l.length=0\/l.getD (l.length - 1) 0≠0
inductive Sh(K:Nat):Vl->Prop
 |num (x:Rat) (h:RB x K):Sh K (bW x)
 |mat (r c:Nat) (vs:List Rat) (hl:vs.length=r*c) (hr:r<=64) (hc:c<=64) (h:∀v∈vs,RB v K):Sh K (iJ r c vs)
 |pol (zs:List Int) (hl:zs.length<=10000) (hn:pN zs) (h:∀z∈zs,z.natAbs < WB ^ K):Sh K (uS zs)
 |fld (p r c:Nat) (l:List Nat) (hp:PrP p) (hl:l.length=r*c) (hr:r<=64) (hc:c<=64) (h:∀x∈l,x < p):Sh K (uF p r c l)
 |rng (p:Nat) (l:List Nat) (hp:PrP p) (hl:l.length<=10000) (hn:wN l) (h:∀x∈l,x < p):Sh K (wM p l)
inductive Cv(K:Nat):Nat->Vl->Prop
 |one {n:Nat} {v:Vl} (h:Sh K v):Cv K n v
 |lst {n:Nat} (l:List Vl) (hl:l.length<=10000) (h:∀x∈l,Cv K n x):Cv K (n+1) (dz l)
noncomputable def jS(u v:Vl):Bool:= @decide (u=v) (Classical.propDecidable _)
theorem oI{u v:Vl}:jS u v=true↔u=v:=by unfold jS;exact @decide_eq_true_iff _ (Classical.propDecidable _)
theorem anC{u v:Vl}(h:u≠v):jS u v=false:=Bool.eq_false_iff.2 fun e=>h (oI.1 e)
theorem agL(u:Vl):jS u u=true:=oI.2 rfl
theorem rZ{u v:Vl}{p:Prop}[Decidable p](h:u=v↔p):jS u v=decide p:=by
 rw[zyc,oI,decide_eq_true_iff];exact h
theorem adM{x y:Rat}(h:cq x=cq y):x=y:=by rw[<-ku x,h,ku]
theorem auA{x y:Int}(h:cz x=cz y):x=y:=by rw[<-pW x,h,pW]
theorem map_inj{α β:Type}{f:α->β}(hf:∀{x y},f x=f y->x=y):∀{l l':List α},l.map f=l'.map f->l=l'
 |[],[],_=>rfl
 |a::l,b::l',h=>by
  rw[zy6,zy6]at h
  injection h with h1 h2
  rw[hf h1,map_inj hf h2]
theorem anr{x y:Rat}:bW x=bW y↔x=y:=⟨fun h=>by injection h with _ h;exact adM h,fun h=>by rw[h]⟩
theorem ap6{r c r' c':Nat}{vs vs':List Rat}:iJ r c vs=iJ r' c' vs'↔r=r'/\c=c'/\vs=vs':=by
 constructor
 ·intro h
  injection h with _ _ h1 h2 h3
  exact⟨zE,zE,map_inj adM h3⟩
 ·rintro⟨rfl,rfl,rfl⟩;rfl
theorem aoT{a b:List Int}:uS a=uS b↔a=b:=⟨fun h=>by injection h with _ _ _ _ _ h;exact map_inj auA h,fun h=>by rw[h]⟩
theorem apU{p r c p' r' c':Nat}{l l':List Nat}:uF p r c l=uF p' r' c' l'↔p=p'/\r=r'/\c=c'/\l=l':=by
 constructor
 ·intro h
  injection h with _ _ _ _ _ _ h1 h2 h3 h4
  exact⟨h1,zE,zE,h4⟩
 ·rintro⟨rfl,rfl,rfl,rfl⟩;rfl
theorem aoF{p p':Nat}{l l':List Nat}:wM p l=wM p' l'↔p=p'/\l=l':=by
 constructor
 ·intro h
  injection h with _ _ _ _ _ _ h1 _ _ _ h2
  exact⟨h1,h2⟩
 ·rintro⟨rfl,rfl⟩;rfl
theorem amJ{l l':List Vl}:dz l=dz l'↔l=l':=⟨fun h=>by injection h,fun h=>by rw[h]⟩
theorem MZ.ofz{zs:List Int}{K:Nat}(h:∀z∈zs,z.natAbs < WB ^ K):MZ ((zs.map cz).map rz) zs K:=by
 have:=MZ.raw (l:=zs.map cz) (K:=K) (fun a ha=>by obtain⟨z,_,rfl⟩:=zqg.1 ha;exact apk z) (fun a ha=>by obtain⟨z,hz,rfl⟩:=zqg.1 ha;exact mJ (h z hz))
 rwa [arS]at this
attribute [local irreducible] IntKind.wrap Go1 Reg WP aJ aN bF bD aM aA ak aj aT Sat
attribute [local irreducible] bK bO bM bS bN qv bZ mf PrP qOk zOk vP dx lz vF cq rqv dI aX
theorem asr{x y:Rat}{K L:Nat}(hx:RB x K)(hy:RB y L)(hK:K+L<=400000):ah prog 273 [.agg (q4A (rq (cq x))),.agg (q4A (rq (cq y)))] (.v (.bool (decide (rqv (cq x)=rqv (cq y))))):=by
 rw[ku,ku]
 haveI:=Ra.cq hx
 haveI:=Ra.cq hy
 obtain⟨z,cA,hz,_⟩:=eCmp (q4A (rq (cq x))) (q4A (rq (cq y))) (K:=K) (K':=L) zE
 rw[<-decide_eq_decide.2 hz];refine ah.fq func273 results273 ntmps273 fun _ _ _ _ _=>?_
 refine zg ?_;exact bf rfl
theorem afA{r c r' c':Nat}{vs vs':List Rat}{K L:Nat}(hv:∀v∈vs,RB v K)(hv':∀v∈vs',RB v L)(hK:K+L<=400000)(hl:vs.length=r*c)(hl':vs'.length=r'*c')(hr:r<=64)(hc:c<=64)(hr':r'<=64)(hc':c'<=64):
  ah prog 153 [.agg (wY r c ((vs.map cq).map rq)),.agg (wY r' c' ((vs'.map cq).map rq))] (.v (.bool (decide (r=r'/\c=c'/\vs=vs')))):=by
 have m1:=zxd hr hc;have m2:=zxd hr' hc';have k1:(vs.map cq).length=vs.length:=zq5 _;have k2:(vs'.map cq).length=vs'.length:=zq5 _;have cA:=akB (l:=(vs.map cq).map rq) (l':=(vs'.map cq).map rq) (by rw[zq5,zq5];exact hl) (by rw[zq5,zq5];exact hl') hr hc hr' hc' (decide (r=r'/\c=c')) decide_eq_true_iff
 have cE:=amb (vs.map cq) (vs'.map cq) 273 (fun a b=>decide (rqv a=rqv b)) (fun a ha b hb=>by
  obtain⟨x,hx,rfl⟩:=zqg.1 ha;obtain⟨y,hy,rfl⟩:=zqg.1 hb;exact asr (hv x hx) (hv' y hy) hK) zE zE
 have e:eqL (fun a b=>decide (rqv a=rqv b)) (vs.map cq) (vs'.map cq)=decide (vs=vs'):=by
  rw[zyc,decide_eq_true_iff,wX (fun a ha b hb=>by
   obtain⟨x,hx,rfl⟩:=zqg.1 ha;obtain⟨y,hy,rfl⟩:=zqg.1 hb;rw[decide_eq_true_iff,ku,ku];exact⟨fun h=>by rw[h],adM⟩)]
  exact⟨map_inj adM,fun h=>by rw[h]⟩
 rw[e]at cE;refine ah.fq func153 results153 ntmps153 fun _ _ _ _ _=>?_
 by_cases h1:r=r'/\c=c'
 ·rw[decide_eq_true h1]at cA;refine zg ?_;refine bf ?_;rw[decide_eq_decide];exact⟨fun h=>⟨h1.1,h1.2,h⟩,fun h=>h.2.2⟩
 ·rw[decide_eq_false h1]at cA;refine zg ?_;refine bf ?_;exact(decide_eq_false fun h=>h1 ⟨h.1,h.2.1⟩).symm
theorem sW(u v:Vl)(h:u.k≠v.k\/u.p≠v.p):ah prog 74 [.agg (vlA u),.agg (vlA v)] (.v (.bool (jS u v))):=by
 rw[anC (by rintro rfl;exact h.elim (fun h=>h rfl) fun h=>h rfl)]
 refine ah.fq func74 results74 ntmps74 fun _ _ _ _ _=>?_
 by_cases h1:u.k=v.k
 ·have h2:¬(u.p:Int)=(v.p:Int):=zE
  refine zg ?_;exact bf rfl
 ·refine zg ?_;exact bf rfl
section
variable{K L:Nat}(hKL:K+L<=100000)
include hKL
theorem am2{r c r' c':Nat}{vs vs':List Rat}(hv:∀v∈vs,RB v K)(hv':∀v∈vs',RB v L)(hl:vs.length=r*c)(hl':vs'.length=r'*c')(hr:r<=64)(hc:c<=64)(hr':r'<=64)(hc':c'<=64):
  ah prog 74 [.agg (vlA (iJ r c vs)),.agg (vlA (iJ r' c' vs'))] (.v (.bool (jS (iJ r c vs) (iJ r' c' vs')))):=by
 have c1:=afA hv hv' zE hl hl' hr hc hr' hc'
 rw[rZ ap6];refine ah.fq func74 results74 ntmps74 fun _ _ _ _ _=>?_
 refine zg ?_;exact bf rfl
theorem ama{a b:List Int}(hl:a.length<=10000)(hn:pN a)(h:∀z∈a,z.natAbs < WB ^ K)(hl':b.length<=10000)(hn':pN b)(h':∀z∈b,z.natAbs < WB ^ L):
  ah prog 74 [.agg (vlA (uS a)),.agg (vlA (uS b))] (.v (.bool (jS (uS a) (uS b)))):=by
 have c1:=alH (MZ.ofz h) (MZ.ofz h') (by rw[zq5,zq5];exact hl) (by rw[zq5,zq5];exact hl') hKL hn hn'
 rw[rZ aoT];refine ah.fq func74 results74 ntmps74 fun _ _ _ _ _=>?_
 refine zg ?_;exact bf rfl
omit hKL in
theorem akD{p r c r' c':Nat}{l l':List Nat}(hp:PrP p)(hl:l.length=r*c)(hr:r<=64)(hc:c<=64)(h:∀x∈l,x < p)(hl':l'.length=r'*c')(hr':r'<=64)(hc':c'<=64)(h':∀x∈l',x < p):
  ah prog 74 [.agg (vlA (uF p r c l)),.agg (vlA (uF p r' c' l'))] (.v (.bool (jS (uF p r c l) (uF p r' c' l')))):=by
 have cf:=aly (uF p r c l) hp;have c1:=akQ hp hl hl' hr hc hr' hc' h h';have e:((uF p r c l).p:Int)=((uF p r' c' l').p:Int):=rfl;rw[rZ (p:=r=r'/\c=c'/\l=l') (apU.trans ⟨fun h=>h.2,fun h=>⟨rfl,h⟩⟩)]
 refine ah.fq func74 results74 ntmps74 fun _ _ _ _ _=>?_
 refine zg ?_;exact bf rfl
omit hKL in
theorem alW{p:Nat}{l l':List Nat}(hl:l.length<=10000)(hl':l'.length<=10000):
  ah prog 74 [.agg (vlA (wM p l)),.agg (vlA (wM p l'))] (.v (.bool (jS (wM p l) (wM p l')))):=by
 have c1:=ah4 l l' zE zE
 have e:((wM p l).p:Int)=((wM p l').p:Int):=rfl;rw[rZ (p:=l=l') (aoF.trans ⟨fun h=>h.2,fun h=>⟨rfl,h⟩⟩)]
 refine ah.fq func74 results74 ntmps74 fun _ _ _ _ _=>?_
 refine zg ?_;exact bf rfl
omit hKL in
theorem alx{l l':List Vl}(hl:l.length<=10000)(hl':l'.length<=10000)(h:∀x∈l,∀y∈l',ah prog 74 [.agg (vlA x),.agg (vlA y)] (.v (.bool (jS x y)))):
  ah prog 74 [.agg (vlA (dz l)),.agg (vlA (dz l'))] (.v (.bool (jS (dz l) (dz l')))):=by
 have c1:=akN l l' 74 jS h zE zE
 rw[show eqL jS l l'=jS (dz l) (dz l')by
  rw[zyc,oI,amJ];exact wX fun a _ b _=>oI]at c1
 refine ah.fq func74 results74 ntmps74 fun _ _ _ _ _=>?_
 refine zg ?_;exact bf rfl
theorem aaI{u v:Vl}(hu:Sh K u)(hv:Sh L v):ah prog 74 [.agg (vlA u),.agg (vlA v)] (.v (.bool (jS u v))):=by
 by_cases hk:u.k=v.k/\u.p=v.p
 ·cases hu with
  |num x h=>cases hv with
   |num y h'=>
    rw[rZ anr];exact ah6 h h' zE
   |_=>exact absurd hk.1 zp
  |mat r c vs hl hr hc h=>cases hv with
   |mat r' c' vs' hl' hr' hc' h'=>exact am2 hKL h h' hl hl' hr hc hr' hc'
   |_=>exact absurd hk.1 zp
  |pol zs hl hn h=>cases hv with
   |pol zs' hl' hn' h'=>exact ama hKL hl hn h hl' hn' h'
   |_=>exact absurd hk.1 zp
  |fld p r c l hp hl hr hc h=>cases hv with
   |fld p' r' c' l' hp' hl' hr' hc' h'=>
    obtain rfl:p=p':=hk.2;exact akD hp hl hr hc h hl' hr' hc' h'
   |_=>exact absurd hk.1 zp
  |rng p l hp hl hn h=>cases hv with
   |rng p' l' hp' hl' hn' h'=>
    obtain rfl:p=p':=hk.2;exact alW hl hl'
   |_=>exact absurd hk.1 zp
 ·exact sW u v zE
theorem anO:∀(n m:Nat) (u v:Vl),Cv K n u->Cv L m v->ah prog 74 [.agg (vlA u),.agg (vlA v)] (.v (.bool (jS u v))):=by
 intro n
 induction n with
 |zero=>
  intro m u v hu hv;cases hu with
  |one hu=>cases hv with
   |one hv=>exact aaI hKL hu hv
   |lst l hl h=>exact sW u _ (by cases hu <;> exact .inl zp)
 |succ n ih=>
  intro m u v hu hv;cases hu with
  |one hu=>cases hv with
   |one hv=>exact aaI hKL hu hv
   |lst l hl h=>exact sW u _ (by cases hu <;> exact .inl zp)
  |lst l hl h=>cases hv with
   |one hv=>exact sW _ v (by cases hv <;> exact .inl zp)
   |lst l' hl' h'=>exact alx hl hl' fun x hx y hy=>ih _ x y (h x hx) (h' y hy)
end
end
section
theorem auz(z:Int):zOk (cz z)=true:=(adL (apk z)).2 (by rw[pW])
theorem avb{zs:List Int}:lz (zs.map cz)=true↔pN zs:=by
 unfold lz pN;rw[Bool.or_eq_true,decide_eq_true_iff,decide_eq_true_iff,zq5];by_cases h:zs.length=0
 ·exact⟨fun _=> .inl h,fun _=> .inl h⟩
 ·have e:rzv ((zs.map cz).getD (zs.length - 1) (false,[]))=zs.getD (zs.length - 1) 0:=by
   rw[zx7,zx7,zqa,zyh (show zs.length - 1 < zs.length by omega)]
   exact pW _
  rw[e]
theorem aum{l:List Nat}:lw l=true↔wN l:=by
 unfold lw wN;rw[Bool.or_eq_true,decide_eq_true_iff,decide_eq_true_iff]
theorem ajQ{p:Nat}{l:List Nat}:l.all (ltp p)=true↔∀x∈l,x < p:=by
 rw[zqh];exact⟨fun h x hx=>of_decide_eq_true (h x hx),fun h x hx=>decide_eq_true (h x hx)⟩
theorem auF(zs:List Int):vP (uS zs)=0:=(vP0 _).2 ⟨.inr ⟨rfl,rfl,rfl,rfl⟩,.inr ⟨rfl,rfl,rfl⟩,.inl rfl,.inr ⟨rfl,rfl,rfl⟩,.inr rfl,.inr (.inr rfl),.inr rfl⟩
theorem auR(p r c:Nat)(l:List Nat):vP (uF p r c l)=0:=(vP0 _).2 ⟨.inr ⟨rfl,rfl,rfl,rfl⟩,.inr ⟨rfl,rfl,rfl⟩,.inr rfl,.inl rfl,.inr rfl,.inl rfl,.inr rfl⟩
theorem au0(p:Nat)(l:List Nat):vP (wM p l)=0:=(vP0 _).2 ⟨.inr ⟨rfl,rfl,rfl,rfl⟩,.inr ⟨rfl,rfl,rfl⟩,.inr rfl,.inr ⟨rfl,rfl,rfl⟩,.inl rfl,.inr (.inl rfl),.inr rfl⟩
theorem au6(l:List Vl):vP (dz l)=0:=(vP0 _).2 ⟨.inr ⟨rfl,rfl,rfl,rfl⟩,.inr ⟨rfl,rfl,rfl⟩,.inr rfl,.inr ⟨rfl,rfl,rfl⟩,.inr rfl,.inr (.inr rfl),.inl rfl⟩
theorem adr:(Sm WB rq0.2.1/\Sm WB rq0.2.2.2)/\rq0.2.1.length<=100000/\rq0.2.2.2.length<=100000:=⟨⟨Sm.nil,Sm.nil⟩,zq8 _,zq8 _⟩
theorem kD{α:Type}{p:α->Prop}:∀x∈([]:List α),p x:=fun x hx=>by cases hx
theorem arB{zs:List Int}{K:Nat}(h:∀z∈zs,z.natAbs < WB ^ K)(hK:K<=100000)(hl:zs.length<=100000):vZ0 (uS zs) where
 q:=adr
 a:=kD
 al:=zq8 _
 po:=fun x hx=>by obtain⟨z,hz,rfl⟩:=zqg.1 hx;exact⟨apk z,zxf (mJ (h z hz)) hK⟩
 pol:=by rw[zq5];exact hl
 p:=aZ
 fa:=kD
 fal:=zq8 _
 ri:=kD
 ril:=zq8 _
 lil:=zq8 _
theorem PrP.wb{p:Nat}(h:PrP p):p < WB:=by have:=h.2.1;rw[dn];omega
theorem arj{p r c:Nat}{l:List Nat}(hp:PrP p)(h:∀x∈l,x < p)(hl:l.length<=100000):vZ0 (uF p r c l) where
 q:=adr
 a:=kD
 al:=zq8 _
 po:=kD
 pol:=zq8 _
 p:=hp.wb
 fa:=fun x hx=>Nat.lt_trans (h x hx) hp.wb
 fal:=hl
 ri:=kD
 ril:=zq8 _
 lil:=zq8 _
theorem aqU{p:Nat}{l:List Nat}(hp:PrP p)(h:∀x∈l,x < p)(hl:l.length<=100000):vZ0 (wM p l) where
 q:=adr
 a:=kD
 al:=zq8 _
 po:=kD
 pol:=zq8 _
 p:=hp.wb
 fa:=kD
 fal:=zq8 _
 ri:=fun x hx=>Nat.lt_trans (h x hx) hp.wb
 ril:=hl
 lil:=zq8 _
theorem arI{l:List Vl}(hl:l.length<=100000):vZ0 (dz l) where
 q:=adr
 a:=kD
 al:=zq8 _
 po:=kD
 pol:=zq8 _
 p:=aZ
 fa:=kD
 fal:=zq8 _
 ri:=kD
 ril:=zq8 _
 lil:=hl
theorem Sh.z{K:Nat}{v:Vl}(h:Sh K v)(hK:K<=100000):vZ0 v/\v.li=[]:=by
 cases h with
 |num x h=>exact⟨vZ0.num h hK,rfl⟩
 |mat r c vs hl hr hc h=>exact⟨vZ0.mat h hK (by have:=zxd hr hc;omega),rfl⟩
 |pol zs hl hn h=>exact⟨arB h hK zE,rfl⟩
 |fld p r c l hp hl hr hc h=>exact⟨arj hp h (by have:=zxd hr hc;omega),rfl⟩
 |rng p l hp hl hn h=>exact⟨aqU hp h zE,rfl⟩
theorem Sh.f{K:Nat}{v:Vl}(h:Sh K v)(d:Nat):vF d v=true:=by
 cases h with
 |num x h=>exact amU d x
 |mat r c vs hl hr hc h=>exact atY d hl hr hc
 |pol zs hl hn h=>
  rw[vF_3 (auF zs) rfl];unfold pOk;rw[zx4];exact⟨zqh.2 fun x hx=>by obtain⟨z,_,rfl⟩:=zqg.1 hx;exact auz z,avb.2 hn⟩
 |fld p r c l hp hl hr hc h=>
  rw[vF_4 (auR p r c l) rfl];unfold fOk;rw[zx4,zx4];exact⟨decide_eq_true hp,ajQ.2 h,aaQ hr hc hl⟩
 |rng p l hp hl hn h=>
  rw[vF_5 (au0 p l) rfl];unfold rOk;rw[zx4,zx4];exact⟨decide_eq_true hp,ajQ.2 h,aum.2 hn⟩
theorem Sh.zz{K:Nat}{v:Vl}(h:Sh K v)(hK:K<=100000):∀n,vZ n v
 |0=>h.z hK
 |n+1=>⟨(h.z hK).1,by rw[(h.z hK).2];exact kD⟩
theorem Cv.z{K:Nat}(hK:K<=100000):∀{n:Nat} {v:Vl},Cv K n v->vZ n v:=by
 intro n
 induction n with
 |zero=>
  intro v h;cases h with
  |one h=>exact h.zz hK 0
 |succ n ih=>
  intro v h;cases h with
  |one h=>exact h.zz hK _
  |lst l hl h=>exact⟨arI zE,fun x hx=>ih (h x hx)⟩
theorem Cv.f{K:Nat}:∀{n:Nat} {v:Vl},Cv K n v->∀d,n < d->vF d v=true:=by
 intro n
 induction n with
 |zero=>
  intro v h d hd;cases h with
  |one h=>exact h.f d
 |succ n ih=>
  intro v h d hd;cases h with
  |one h=>exact h.f d
  |lst l hl h=>
   obtain⟨e,rfl⟩:∃e,d=e+1:=⟨d - 1,zE⟩
   rw[vF_6 (au6 l) rfl];exact zqh.2 fun x hx=>ih (h x hx) e zE
attribute [local irreducible] IntKind.wrap Go1 Reg WP aJ aN bF bD aM aA ak aj aT Sat
attribute [local irreducible] bK bO bM bS bN qv bZ mf PrP qOk zOk vP dx lz vF cq rqv dI aX
theorem Cv.F{K n:Nat}{v:Vl}(h:Cv K n v)(hK:K<=100000)(hn:n<=15):ah prog 65 [.agg (vlA v)] (.v (.bool true)):=by
 have c:=zh (h.z hK)
 rwa [h.f 20 zE]at c
theorem ao6{K L n m:Nat}{u v:Vl}(hu:Cv K n u)(hv:Cv L m v)(hK:K+L<=100000)(hn:n<=15)(hm:m<=15):ah prog 47 [.agg (vlA u),.agg (vlA v)] (.v (.bool (jS u v))):=by
 have c:=anO hK n m u v hu hv;have c1:=hu.F zE hn
 have c2:=hv.F zE hm
 refine ah.fq func47 results47 ntmps47 fun _ _ _ _ _=>?_
 refine zg ?_;exact bf rfl
end
section
abbrev mq(vs:List Rat):List Q4:=(vs.map cq).map rq
abbrev mz(zs:List Int):List Z2:=(zs.map cz).map rz
theorem ag8(vs:List Rat):(mq vs).length=vs.length:=by rw[zq5,zq5]
theorem aic(zs:List Int):(mz zs).length=zs.length:=by rw[zq5,zq5]
attribute [local irreducible] IntKind.wrap Go1 Reg WP aJ aN bF bD aM aA ak aj aT Sat
attribute [local irreducible] bK bO bM bS bN qv bZ mf PrP qOk zOk vP dx lz vF cq rqv dI aX bG aV
def auq(r c:Nat)(vs:List Rat)(x:Rat):List Rat:=lZ c (fun i k=>vat vs c i k*x) r
theorem aot{x:Rat}{K:Nat}(hx:RB x K)(hK:K<=100000):ah prog 490 [.agg (vlA (bW x))] (.tup [.agg (vlA (bW (-x))),eNo 0]):=by
 haveI:=Ra.cq hx
 obtain⟨X,cA,hX⟩:=eNeg (q4A (rq (cq x))) (K:=K) zE
 have e:=hX.nf;subst e;have cN:=afe (-x) 0;refine ah.fq func490 results490 ntmps490 fun _ _ _ _ _=>?_
 refine zg ?_;refine .ok (aA.mk2 ak.gL (ak.tmp rfl))
theorem ai0{x:Rat}{K:Nat}(hx:RB x K)(hK:K<=100000):ah prog 227 [.agg (q4A (rq (cq x)))] (.tup [.agg (zN (if x.den=1 then x.num else 0)),.one (.c (.val (.bool (decide (x.den=1)))))]):=by
 have hl:=(vZ0.num hx hK).q.2
 dsimp only at hl
 have h:=(uM (h:=ZI.raw (cq x).1 (cq x).2.1) (h':=ZI.raw (cq x).2.2.1 (cq x).2.2.2)).h zE
 unfold rX at h;rw[aqb,aiO]at h;have e1:((x.den:Int)=1)↔x.den=1:=zE
 simp only[e1]at h;exact h
section
variable{u v w:Vl}{e:Int}
variable(c1:ah prog 65 [.agg (vlA u)] (.v (.bool true)))(c2:ah prog 65 [.agg (vlA v)] (.v (.bool true)))
include c1 c2
theorem amG(c:ah prog 498 [.agg (vlA u),.agg (vlA v)] (.tup [.agg (vlA w),eNo e])):ah prog 466 [.v (.int .i64 7),.agg (vlA u),.agg (vlA v)] (.tup [.agg (vlA w),eNo e]):=by
 refine ah.fq func466 results466 ntmps466 fun _ _ _ _ _=>?_
 refine zg ?_;refine .ok (aA.mk2 ak.gL (ak.tmp rfl))
end
end
section
def dN(i:Int):Vl->Vl
 |⟨k,q,r,c,a,po,p,fr,fc,fa,ri,li⟩=>if k=1 then bW (i*rqv q)else if k=2 then iJ r.toNat c.toNat (auq r.toNat c.toNat (a.map rqv) i)else uS (aV (po.map rzv) i)
attribute [local irreducible] IntKind.wrap Go1 Reg WP aJ aN bF bD aM aA ak aj aT Sat
attribute [local irreducible] bK bO bM bS bN qv bZ mf PrP qOk zOk vP dx lz vF cq rqv dI aX bG aV
structure Muls(v:Vl)(k:Nat):Prop where
 a:ah prog 497 [.agg (vlA (bW ((k:Int):Rat))),.agg (vlA v)] (.tup [.agg (vlA (dN k v)),eNo 0])
 b:ah prog 497 [.agg (vlA v),.agg (vlA (bW ((k:Int):Rat)))] (.tup [.agg (vlA (dN k v)),eNo 0])
 h:∃(w:Vl) (e:Int),ah prog 497 [.agg (vlA (bW (1 / 2))),.agg (vlA v)] (.tup [.agg (vlA w),eNo e])/\((v.k≠3/\e=0)\/(v.k=3/\e=5))
 d:ah prog 501 [.agg (vlA v),.agg (vlA v)] (.tup [.agg (vlA (dN 0 v)),eNo 0])
 s:∀i,i < k->ah prog 500 [.agg (vlA (dN (i:Int) v)),.agg (vlA v)] (.tup [.agg (vlA (dN ((i+1:Nat):Int) v)),eNo 0])
 c:∀i,i<=k->Cv 4 0 (dN (i:Int) v)
 kk:∀i,(dN i v).k=v.k
end
end
end Go.Proofs.YthnkfhfcgjoieaaGreatDoor
set_option linter.unusedSectionVars false
namespace Go.Proofs.YthnkfhfcgjoieaaGreatDoor
section
open Go.RowKit QM SX LA
section
def jn(s:UInt8):List (List UInt8)->List UInt8
 |[]=>[]
 |[a]=>a
 |a::b::l=>a++(s::32::jn s (b::l))
def chk{α:Type}(c:Nat):Nat->List α->List (List α)
 |0,_=>[]
 |r+1,l=>l.take c::chk c r (l.drop c)
def tbS(r c:Nat)(l:List (List UInt8)):List UInt8:=
 if r=0\/c=0 then [122,101,114,111,40]++(aW r++([44,32]++(aW c++[41])))else 91::(jn 59 ((chk c r l).map (jn 44))++[93])
def plS(l:List (List UInt8)):List UInt8:=[112,111,108,121,40]++(jn 44 l++[41])
def mdS(s:List UInt8)(p:Nat):List UInt8:=[109,111,100,40]++(s++([44,32]++(aW p++[41])))
mutual
def tS:Vl->List UInt8
 |⟨k,q,r,c,a,po,p,fr,fc,fa,ri,li⟩=>
  if k=1 then qS (rqv q)else if k=2 then tbS r.toNat c.toNat (a.map fun x=>qS (rqv x))else if k=3 then plS (po.map fun x=>zS (rzv x))
  else if k=4 then mdS (tbS fr.toNat fc.toNat (fa.map aW)) p else if k=5 then mdS (plS (ri.map aW)) p else 123::(jn 44 (tL li)++[125])
def tL:List Vl->List (List UInt8)
 |[]=>[]
 |v::l=>tS v::tL l
end
theorem att:∀l:List Vl,tL l=l.map tS
 |[]=>by rw[tL];rfl
 |v::l=>by rw[tL,att l];rfl
theorem air(x:Rat):tS (bW x)=qS x:=by
 show tS ⟨1,cq x,0,0,[],[],0,0,0,[],[],[]⟩=_;rw[tS,if_pos rfl,ku]
theorem uG(r c:Nat)(vs:List Rat):tS (iJ r c vs)=tbS r c (vs.map qS):=by
 show tS ⟨2,rq0,(r:Int),(c:Int),vs.map cq,[],0,0,0,[],[],[]⟩=_;rw[tS,if_neg zc,if_pos rfl,zv4,zw8,zw8,show (fun x=>qS (rqv x)) ∘ cq=qS from funext fun x=>congrArg qS (ku x)]
theorem au1(zs:List Int):tS (uS zs)=plS (zs.map zS):=by
 show tS ⟨3,rq0,0,0,[],zs.map cz,0,0,0,[],[],[]⟩=_;rw[tS,if_neg zc,if_neg zc,if_pos rfl,zv4,show (fun x=>zS (rzv x)) ∘ cz=zS from funext fun x=>congrArg zS (pW x)]
theorem au5(p r c:Nat)(l:List Nat):tS (uF p r c l)=mdS (tbS r c (l.map aW)) p:=by
 show tS ⟨4,rq0,0,0,[],[],p,(r:Int),(c:Int),l,[],[]⟩=_;rw[tS,if_neg zc,if_neg zc,if_neg zc,if_pos rfl,zw8,zw8]
theorem aup(p:Nat)(l:List Nat):tS (wM p l)=mdS (plS (l.map aW)) p:=by
 show tS ⟨5,rq0,0,0,[],[],p,0,0,[],l,[]⟩=_;rw[tS,if_neg zc,if_neg zc,if_neg zc,if_neg zc,if_pos rfl]
theorem aoD(l:List Vl):tS (dz l)=123::(jn 44 (l.map tS)++[125]):=by
 show tS ⟨6,rq0,0,0,[],[],0,0,0,[],[],l⟩=_;rw[tS,if_neg zc,if_neg zc,if_neg zc,if_neg zc,if_neg zc,att]
def dgc(c:UInt8):Prop:=48<=c.toNat/\c.toNat<=57
theorem dg_of{d:Nat}(h:d < 10):dgc (UInt8.ofNat (48+d))/\(UInt8.ofNat (48+d)).toNat=48+d:=by
 have:(UInt8.ofNat (48+d)).toNat=48+d:=by rw[UInt8.toNat_ofNat'];omega
 unfold dgc;omega
theorem aul:∀(n x:Nat),x<=n->∀c∈dig x,dgc c:=by
 intro n
 induction n with
 |zero=>intro x hx c hc;rw[show x=0 by omega,kG]at hc;cases hc
 |succ n ih=>
  intro x hx c hc;by_cases h0:x=0
  ·rw[h0,kG]at hc;cases hc
  ·rw[oQ h0,zyg,zxi]at hc;rcases hc with hc|rfl
   ·exact ih (x / 10) zE c hc
   ·exact(dg_of (zyi x zc)).1
theorem aew(x:Nat):∀c∈aW x,dgc c:=by
 intro c hc;unfold aW at hc
 split at hc
 ·rw[zxi]at hc;subst hc;unfold dgc;decide
 ·exact aul x x (zq6 _) c hc
theorem aiA(x:Nat):∃c m,aW x=c::m/\dgc c:=by
 cases h:aW x with
 |nil=>
  unfold aW at h
  split at h
  ·cases h
  ·next h0=>exact absurd h (ais h0)
 |cons c m=>exact⟨c,m,rfl,aew x c (by rw[h];exact zq9 ..)⟩
theorem zS_ch(z:Int):∀c∈zS z,c=45\/dgc c:=by
 intro c hc;unfold zS at hc
 split at hc
 ·rw[zy3]at hc;exact hc.imp id (aew _ c)
 ·exact .inr (aew _ c hc)
theorem asO(z:Int):∃c m,zS z=c::m/\(c=45\/dgc c):=by
 cases h:zS z with
 |nil=>
  unfold zS at h
  split at h
  ·cases h
  ·obtain⟨c,m,e,_⟩:=aiA z.natAbs;rw[e]at h;cases h
 |cons c m=>exact⟨c,m,rfl,zS_ch z c (by rw[h];exact zq9 ..)⟩
theorem zx(x:Rat):qS x=if x.den=1 then zS x.num else zS x.num++47::zS (x.den:Int):=by
 unfold qS rS
 dsimp only
 by_cases h:x.den=1
 ·rw[if_pos (show (x.den:Int)=1 by omega),if_pos h]
 ·rw[if_neg (show¬(x.den:Int)=1 by omega),if_neg h,zqj];rfl
theorem qS_ne(x:Rat):∃c m,qS x=c::m/\(c=45\/dgc c):=by
 obtain⟨c,m,e,h⟩:=asO x.num;rw[zx,e]
 split
 ·exact⟨c,m,rfl,h⟩
 ·exact⟨c,_,rfl,h⟩
def Tm(r:List UInt8):Prop:=∀c m,r=c::m->c=44\/c=59\/c=93\/c=41\/c=125
def Tell{α:Type}(A:α->Prop)(T:List UInt8->Prop)(f:α->List UInt8):Prop:=∀x y,A x->A y->∀r s,T r->T s->f x++r=f y++s->x=y/\r=s
section
variable{α:Type}{f:α->List UInt8}(hf:Tell (fun _=>True) Tm f)(hn:∀x,∃c m,f x=c::m/\(c=45\/dgc c))
include hf hn
end
def kd(v:Vl)(d:UInt8):Prop:=(v.k=1/\(d=45\/dgc d))\/(v.k=2/\(d=122\/d=91))\/(v.k=3/\d=112)\/(v.k=4/\d=109)\/(v.k=5/\d=109)\/(v.k=6/\d=123)
end
section
def sq(c:Nat):Nat->List (List UInt8)->List UInt8
 |_,[]=>[]
 |i,x::l=>(if 0 < i/\i % c=0 then [59,32]else [])++((if 0 < i % c then [44,32]else [])++(x++sq c (i+1) l))
attribute [local irreducible] IntKind.wrap Go1 Reg WP aJ aN bF bD aM aA ak aj aT Sat
attribute [local irreducible] bK bO bM bS bN qv bZ mf PrP qOk zOk vP dx lz vF cq rqv dI aX bG aV dN jn sq aW qS zS
theorem apz(l:List Nat):l.flatMap wdC=l.map fun x:Nat=>CA.val (.int .u64 (x:Int)):=by
 induction l with
 |nil=>rfl
 |cons x l ih=>rw[zq7,ih];rfl
theorem arF(l:List Nat):aB 1 wdC l=aQ 1 l.length (l.map fun x:Nat=>CA.val (.int .u64 (x:Int))):=by
 show aQ 1 l.length (l.flatMap wdC)=_;rw[apz]
theorem aF.auo{l:List Nat}:aF (.c (.sat (bL l))) (.c (.sat (aB 1 wdC l))):=fun E S w v h=>by
 rw[arF];exact(nC.1 h).2
theorem aav(n:Nat):zS (n:Int)=aW n:=by unfold zS;rw[if_neg zE,zxa]
end
end
section
open Go.RowKit QM SX LA
attribute [local irreducible] IntKind.wrap Go1 Reg WP aJ aN bF bD aM aA ak aj aT Sat
attribute [local irreducible] bK bO bM bS bN qv bZ mf PrP qOk zOk vP dx lz vF cq rqv dI aX bG aV dN vW
section
variable(n:Int){k:Nat}(hn:n.tmod 7=(k:Int))(hk:k<=6){v:Vl}
include hn hk
end
end
section
open Go.RowKit QM SX LA
attribute [local irreducible] IntKind.wrap Go1 Reg WP aJ aN bF bD aM aA ak aj aT Sat
attribute [local irreducible] bK bO bM bS bN qv bZ mf PrP qOk zOk vP dx lz vF cq rqv dI aX bG aV dN aW jn qS zS
section
variable(v:Vl){i:Nat}
end
end
section
open Go.RowKit QM SX
attribute [local irreducible] IntKind.wrap bitLen kJ nval Go1 Reg WP aJ aN bF aA ak aj aT Sat
def pO(a b x n:Int):Int×Int:=if h:b=0 then(a,x)else pO b (a.tmod b) n (x - a.tdiv b*n)
termination_by b.natAbs
decreasing_by rw[Int.natAbs_tmod];exact zyi _ zE
theorem yO(a x n:Int):pO a 0 x n=(a,x):=by rw[pO];simp
theorem xU{a b x n:Int}(h:b≠0):pO a b x n=pO b (a.tmod b) n (x - a.tdiv b*n):=by rw[pO];simp[h]
theorem asa{A B X N Q R M:Nat}(h:B*Q+R=A)(hi:X*B+N*A<=M):N*R+(X+Q*N)*B<=M:=by
 subst h;refine zxf (Nat.le_of_eq ?_) hi
 grind
structure Cof(a0 b0 a b x n:Int):Prop where
 inv:x.natAbs*b.natAbs+n.natAbs*a.natAbs<=b0.natAbs
 hx:x.natAbs<=b0.natAbs+1
 hn:n.natAbs<=b0.natAbs
 ha:a.natAbs<=a0.natAbs+b0.natAbs
 hb:b.natAbs<=a0.natAbs+b0.natAbs
 eq:pO a b x n=pO a0 b0 1 0
theorem Cof.start(a b:Int):Cof a b a b 1 0:=⟨by simp,by simp,by simp,zE,zE,rfl⟩
theorem Cof.step{a0 b0 a b x n:Int}(hb0:b≠0)(h:Cof a0 b0 a b x n):Cof a0 b0 b (jC a b) n (x - a.tdiv b*n)/\(jC a b).natAbs < b.natAbs:=by
 have hr:jC a b=a.tmod b:=by unfold jC;rw[if_neg hb0]
 have hB:0 < b.natAbs:=zE
 rw[hr];have hN:(x - a.tdiv b*n).natAbs<=x.natAbs+a.natAbs / b.natAbs*n.natAbs:=by
  have:=Int.natAbs_sub_le x (a.tdiv b*n);rw[zve,Int.natAbs_tdiv]at this;exact this
 have hi:=asa (Nat.div_add_mod a.natAbs b.natAbs) h.inv;have hi2:(x - a.tdiv b*n).natAbs*b.natAbs<=(x.natAbs+a.natAbs / b.natAbs*n.natAbs)*b.natAbs:=zx1 _ hN;have hm:a.natAbs % b.natAbs < b.natAbs:=zyi _ hB;refine⟨⟨?_,by have:=h.hn;omega,?_,h.hb,?_,?_⟩,?_⟩
 ·rw[Int.natAbs_tmod];omega
 ·have:(x - a.tdiv b*n).natAbs*1<=(x - a.tdiv b*n).natAbs*b.natAbs:=zx8 _ hB;omega
 ·rw[Int.natAbs_tmod];have:=h.hb;omega
 ·rw[<-h.eq,xU hb0]
 ·rw[Int.natAbs_tmod];exact hm
theorem ani(a b:Int):Int.gcd b (a.tmod b)=Int.gcd a b:=by
 unfold Int.gcd;rw[Int.natAbs_tmod,Nat.gcd_comm b.natAbs,Nat.gcd_comm a.natAbs];exact(Nat.gcd_rec b.natAbs a.natAbs).symm
theorem yB(a0 b0:Int):∀(m:Nat) (a b x n:Int),b.natAbs<=m->(∃u,x*a0+u*b0=a)->(∃u,n*a0+u*b0=b)->(pO a b x n).1.natAbs=Int.gcd a b/\∃u,(pO a b x n).2*a0+u*b0=(pO a b x n).1
 |m,a,b,x,n,hm,ha,hb=>by
  by_cases h0:b=0
  ·subst h0;rw[yO];exact⟨by simp,ha⟩
  ·cases m with
   |zero=>omega
   |succ m=>
    rw[xU h0,<-ani a b];refine yB a0 b0 m b (a.tmod b) n (x - a.tdiv b*n) ?_ hb ?_
    ·rw[Int.natAbs_tmod];have:=zyi a.natAbs (show 0 < b.natAbs by omega)
     omega
    ·obtain⟨u,hu⟩:=ha;obtain⟨v,hv⟩:=hb;refine⟨u - a.tdiv b*v,?_⟩;have h1:=Int.tmod_add_mul_tdiv a b;have h2:a.tmod b=a - b*a.tdiv b:=zE
     rw[h2];generalize a.tdiv b=q;rw[<-hu,<-hv]
     grind
def p8(a b:Int):Int:=if(pO a b 1 0).1 < 0 then -(pO a b 1 0).2 else(pO a b 1 0).2
theorem alC(a b:Int):∃u,p8 a b*a+u*b=(Int.gcd a b:Int):=by
 obtain⟨h1,u,hu⟩:=yB a b b.natAbs a b 1 0 (zq6 _) ⟨0,zE⟩ ⟨1,zE⟩
 unfold p8
 split
 ·refine⟨-u,?_⟩;rw[<-h1,Int.neg_mul,Int.neg_mul];omega
 ·refine⟨u,?_⟩;rw[<-h1];omega
theorem arx(a b:Int):((pO a b 1 0).1 < 0-> -(pO a b 1 0).1=(Int.gcd a b:Int))/\(¬(pO a b 1 0).1 < 0->(pO a b 1 0).1=(Int.gcd a b:Int)):=by
 obtain⟨h1,_⟩:=yB a b b.natAbs a b 1 0 (zq6 _) ⟨0,zE⟩ ⟨1,zE⟩
 omega
theorem aiQ(a0 b0:Int):∀(m:Nat) (a b x n:Int),b.natAbs<=m->Cof a0 b0 a b x n->(pO a b x n).2.natAbs<=b0.natAbs+1
 |m,a,b,x,n,hm,h=>by
  by_cases h0:b=0
  ·subst h0;rw[yO];exact h.hx
  ·cases m with
   |zero=>omega
   |succ m=>
    obtain⟨h1,h2⟩:=h.step h0;rw[xU h0];have hr:jC a b=a.tmod b:=by unfold jC;rw[if_neg h0]
    rw[hr]at h1 h2;exact aiQ a0 b0 m b (a.tmod b) n _ zE h1
theorem aiS{z:Int}{B k:Nat}(h:z.natAbs<=B)(hb:B < WB ^ k):z.natAbs < WB ^ k:=zxb h hb
theorem aqm{B k:Nat}(h:B < WB ^ k):B+1 < WB ^ (k+1+1):=aal (x:=B) (y:=1) h (by simp[WB])
instance Bd.p8(a b:Int)(m:Nat)[h:Bd b m]:Bd (p8 a b) (m+1+1):=⟨by
 have:=aiQ a b b.natAbs a b 1 0 (zq6 _) (Cof.start a b);unfold Proofs.YthnkfhfcgjoieaaGreatDoor.p8;refine zxb ?_ (aqm h.h)
 split <;> omega⟩
instance Bd.zer(x y:Int)(m:Nat)[h:Bd y m]:Bd (zer x y) m:=⟨by
 unfold Proofs.YthnkfhfcgjoieaaGreatDoor.zer
 split
 ·exact zqf zc (gD _)
 ·have h1:=Int.emod_nonneg x (show y≠0 by assumption)
  have h2:x % y < (y.natAbs:Int):=by
   rcases Int.lt_or_le y 0 with h|h
   ·have:=Int.emod_lt_of_pos x (show 0 < -y by omega)
    rw[Int.emod_neg]at this;omega
   ·have:=Int.emod_lt_of_pos x (show 0 < y by omega)
    omega
  exact zxb (show (x % y).natAbs<=y.natAbs by omega) h.h⟩
theorem xq{x y:Int}(hy:y≠0)(h:y ∣ x):jO x y=true:=by
 unfold jO jC;rw[if_neg hy];simp[hy,Int.tmod_eq_zero_of_dvd h]
theorem ae4{x y:Int}(hy:y≠0)(h:y ∣ x):eZ x y*y=x:=by
 unfold eZ;rw[xq hy h,if_pos rfl];exact Int.tdiv_mul_cancel h
attribute [local irreducible] sgn aS jC jO eZ zer zeq p8
theorem zCof{l l':List Atom}{x y:Int}{k m:Nat}[h:ZI l x k][h':ZI l' y m](hk:k+m<=68719476736):ah prog 28 [.agg l,.agg l'] (.tup [.agg (zN (Int.gcd x y:Int)),.agg (zN (p8 x y))]):=by
 refine z2 ⟨_,func28,rfl,rfl⟩ fun neg n neg2 n2 hz hz2 hn hn2=>?_
 refine ah.fn func28 results28 ntmps28 rfl rfl rfl zd rfl fun _ _ _ _ _=>?_
 have bx0:Bd x k:=by rw[hz];infer_instance
 have by0:Bd y m:=by rw[hz2];infer_instance
 repeat(first|refine zg ?_|(refine SX.Go1.is ?_;refine SX.Go1.dw ?_;first
    |refine SX.Go1.call rfl (zOne) rfl rfl ?_
    |refine SX.Go1.call rfl (pq _ zE) rfl rfl ?_))
 rw[<-hz,<-hz2];refine WP.loop (ι:={p:Int×Int×Int×Int // Cof x y p.1 p.2.1 p.2.2.1 p.2.2.2}) (fun i=>fP [(2,.ptr 2 0),(3,.ptr 3 0),(4,.ptr 4 0),(5,.ptr 5 0),(6,.ptr 6 0),(7,.ptr 7 0)]
   [(2,.box 25 (zN i.val.1)),(3,.box 25 (zN i.val.2.1)),(4,.box 25 [.c (.val (.bool false)),.c (.val (.slice none 0 0))]),(5,.box 25 [.c (.val (.bool false)),.c (.val (.slice none 0 0))]),(6,.box 25 (zN i.val.2.2.1)),(7,.box 25 (zN i.val.2.2.2))])
  (fun i=>i.val.2.1.natAbs) ⟨(x,y,1,0),Cof.start x y⟩
  (St.bV [] (fun b h=>by cases h) ⟨⟨_,rfl,aH.same rfl⟩,⟨_,rfl,aH.same rfl⟩,⟨_,rfl,aH.same rfl⟩,⟨_,rfl,aH.same rfl⟩,⟨_,rfl,aH.same rfl⟩,⟨_,rfl,aH.same rfl⟩,trivial⟩
   ⟨.same rfl rfl,.same rfl rfl,.same rfl rfl,.same rfl rfl,.same rfl rfl,.box rfl zN0 rfl,trivial⟩ rfl) (fun i=>?_)
 obtain⟨⟨a,b,u,n0⟩,hc⟩:=i;simp only at hc ⊢;have ba:Bd a (k+m+1):=⟨aiS hc.ha (aal bx0.h by0.h)⟩;have bb:Bd b (k+m+1):=⟨aiS hc.hb (aal bx0.h by0.h)⟩;have bu:Bd u (m+1+1):=⟨aiS hc.hx (aqm by0.h)⟩;have bn:Bd n0 m:=⟨aiS hc.hn by0.h⟩;by_cases hb0:b=0
 ·have g1:decide (aS b≠0)=false:=by rw[hb0];unfold aS;rfl
  repeat(first|refine zg ?_|(refine SX.Go1.is ?_;refine SX.Go1.dw ?_;first
     |refine SX.Go1.call rfl (jQ zE) rfl rfl ?_))
  subst hb0;have he:=hc.eq;rw[yO]at he;obtain⟨e1,e2⟩:=arx x y;rw[<-he]at e1 e2;simp only at e1 e2;have hcx:p8 x y=if a < 0 then -u else u:=by unfold p8;rw[<-he]
  rw[hcx];by_cases ha:a < 0
  ·have g2:decide (aS a < 0)=true:=by rw[yg];simp[ha]
   rw[if_pos ha,<-e1 ha];repeat(first|refine zg ?_|(refine SX.Go1.is ?_;refine SX.Go1.dw ?_;first
      |refine SX.Go1.call rfl (jQ zE) rfl rfl ?_
      |refine SX.Go1.call rfl (alI zE) rfl rfl ?_))
   exact aA.eq2 ak.dP ak.dP rfl rfl
  ·have g2:decide (aS a < 0)=false:=by rw[yg];simp[ha]
   rw[if_neg ha,<-e2 ha];repeat(first|refine zg ?_|(refine SX.Go1.is ?_;refine SX.Go1.dw ?_;first
      |refine SX.Go1.call rfl (jQ zE) rfl rfl ?_
      |refine SX.Go1.call rfl (alI zE) rfl rfl ?_))
   exact aA.eq2 ak.dP ak.dP rfl rfl
 ·have g1:decide (aS b≠0)=true:=by
   have:=pU b;simp[hb0]at this
   simp[this]
  repeat(first|refine zg ?_|(refine SX.Go1.is ?_;refine SX.Go1.dw ?_;first
     |refine SX.Go1.call rfl (jQ zE) rfl rfl ?_
     |refine SX.Go1.call rfl (ahP zE) rfl rfl ?_
     |refine SX.Go1.call rfl (alJ zE) rfl rfl ?_
     |refine SX.Go1.call rfl (zMul zE) rfl rfl ?_))
  obtain⟨c1,c2⟩:=hc.step hb0;exact⟨⟨(b,jC a b,n0,u - a.tdiv b*n0),c1⟩,St.bV [] (fun b h=>by cases h) ⟨⟨_,rfl,aH.same rfl⟩,⟨_,rfl,aH.same rfl⟩,⟨_,rfl,aH.same rfl⟩,⟨_,rfl,aH.same rfl⟩,⟨_,rfl,aH.same rfl⟩,⟨_,rfl,aH.same rfl⟩,trivial⟩
   ⟨.same rfl rfl,.same rfl rfl,.same rfl rfl,.same rfl rfl,.same rfl rfl,.same rfl rfl,trivial⟩ rfl,c2⟩
def xgx(a b:Int):Int:=if b=0 then aS a else zer (p8 a b) (eZ (b.natAbs:Int) (Int.gcd a b:Int))
def xgy(a b:Int):Int:=if b=0 then 0 else eZ ((Int.gcd a b:Int) - xgx a b*a) b
theorem amT{l l':List Atom}{x y:Int}{k m:Nat}[h:ZI l x k][h':ZI l' y m](hk:k+m<=1073741824):ah prog 9 [.agg l,.agg l'] (.tup [.agg (zN (Int.gcd x y:Int)),.agg (zN (xgx x y)),.agg (zN (xgy x y))]):=by
 refine z2 ⟨_,func9,rfl,rfl⟩ fun neg n neg2 n2 hz hz2 hn hn2=>?_
 refine ah.fn func9 results9 ntmps9 rfl rfl rfl zd rfl fun _ _ _ _ _=>?_
 by_cases hy:y=0
 ·have g1:decide (aS (sgn neg2 n2)=0)=true:=by rw[pU,<-hz2];simp[hy]
  have hx:xgx x y=aS (sgn neg n):=by unfold xgx;rw[if_pos hy,hz]
  have hY:xgy x y=0:=by unfold xgy;rw[if_pos hy]
  have hg:(Int.gcd x y:Int)=((sgn neg n).natAbs:Int):=by rw[hy,hz];simp
  have hs: -1<=aS (sgn neg n)/\aS (sgn neg n)<=1:=by unfold aS;repeat' split <;> omega
  rw[hx,hY,hg];repeat(first|refine zg ?_|(refine SX.Go1.is ?_;refine SX.Go1.dw ?_;first
     |refine SX.Go1.call rfl (jQ zE) rfl rfl ?_
     |refine SX.Go1.call rfl (zAbs zE) rfl rfl ?_
     |refine SX.Go1.call rfl (zOf _ zE zE) rfl rfl ?_))
  exact aA.mk3 ak.dP ak.dP (ak.imp ak.dP zN0)
 ·have g1:decide (aS (sgn neg2 n2)=0)=false:=by rw[pU,<-hz2];simp[hy]
  have hx:xgx x y=zer (p8 x y) (eZ (y.natAbs:Int) (Int.gcd x y:Int)):=by unfold xgx;rw[if_neg hy]
  have hY:xgy x y=eZ ((Int.gcd x y:Int) - xgx x y*x) y:=by unfold xgy;rw[if_neg hy]
  rw[hY,hx];subst hz hz2;repeat(first|refine zg ?_|(refine SX.Go1.is ?_;refine SX.Go1.dw ?_;first
     |refine SX.Go1.call rfl (jQ zE) rfl rfl ?_
     |refine SX.Go1.call rfl (zAbs zE) rfl rfl ?_
     |refine SX.Go1.call rfl (zCof zE) rfl rfl ?_
     |refine SX.Go1.call rfl (anq zE) rfl rfl ?_
     |refine SX.Go1.call rfl (aiX zE) rfl rfl ?_
     |refine SX.Go1.call rfl (alJ zE) rfl rfl ?_
     |refine SX.Go1.call rfl (zMul zE) rfl rfl ?_))
  exact aA.mk3 ak.dP ak.dP ak.dP
instance Bd.aS(x:Int):Bd (aS x) 1:=⟨by
 have:(Proofs.YthnkfhfcgjoieaaGreatDoor.aS x).natAbs<=1:=by unfold Proofs.YthnkfhfcgjoieaaGreatDoor.aS;repeat' split <;> omega
 exact zxb this (by simp[WB])⟩
instance Bd.xgx(x y:Int)(k m:Nat)[hx:Bd x k][hy:Bd y m]:Bd (xgx x y) (m+1):=⟨by
 unfold Proofs.YthnkfhfcgjoieaaGreatDoor.xgx
 split
 ·exact Bd.mono (Bd.aS x).h zE
 ·exact Bd.mono (Bd.zer (Proofs.YthnkfhfcgjoieaaGreatDoor.p8 x y) (Proofs.YthnkfhfcgjoieaaGreatDoor.eZ (y.natAbs:Int) (Int.gcd x y:Int)) m).h zE⟩
instance Bd.xgy(x y:Int)(k m:Nat)[hx:Bd x k][hy:Bd y m]:Bd (xgy x y) (k+m+(m+1+k)+1):=⟨by
 unfold Proofs.YthnkfhfcgjoieaaGreatDoor.xgy
 split
 ·exact zqf zc (gD _)
 ·exact(Bd.eZ _ _ (k+m+(m+1+k)+1)).h⟩
theorem akn{x y:Int}(hy:y≠0):jO (y.natAbs:Int) (Int.gcd x y:Int)=true/\0<=xgx x y/\xgx x y < eZ (y.natAbs:Int) (Int.gcd x y:Int)/\xgx x y*x+xgy x y*y=(Int.gcd x y:Int):=by
 have hg0:(Int.gcd x y:Int)≠0:=fun e=>hy ((Int.gcd_eq_zero_iff.1 (show Int.gcd x y=0 by omega)).2)
 have hd:(Int.gcd x y:Int) ∣ (y.natAbs:Int):=Int.dvd_natAbs.2 (Int.gcd_dvd_right ..);have hs:=ae4 hg0 hd;have hX:xgx x y=zer (p8 x y) (eZ (y.natAbs:Int) (Int.gcd x y:Int)):=by unfold xgx;rw[if_neg hy]
 have hY:xgy x y=eZ ((Int.gcd x y:Int) - xgx x y*x) y:=by unfold xgy;rw[if_neg hy]
 obtain⟨x',hx'⟩:(Int.gcd x y:Int) ∣ x:=Int.gcd_dvd_left ..;obtain⟨u,hu⟩:=alC x y;generalize hsn:eZ (y.natAbs:Int) (Int.gcd x y:Int)=s at*;have hs0:s≠0:=by rintro rfl;rw[Int.zero_mul]at hs;omega
 have hsp:0 < s:=by
  rcases Int.lt_trichotomy s 0 with h|h|h
  ·have:=Int.mul_neg_of_neg_of_pos h (show 0 < (Int.gcd x y:Int)by omega);omega
  ·exact absurd h hs0
  ·exact h
 have hXe:xgx x y=p8 x y % s:=by rw[hX];unfold zer;rw[if_neg hs0]
 have hdv:y ∣ (Int.gcd x y:Int) - xgx x y*x:=by
  have h1:=Int.emod_add_mul_ediv (p8 x y) s;have h2:xgx x y=p8 x y - s*(p8 x y / s):=zE
  obtain⟨t,ht⟩:y ∣ (y.natAbs:Int):=Int.dvd_natAbs.2 (Int.dvd_refl y);refine⟨u+t*(p8 x y / s)*x',?_⟩;rw[h2];generalize p8 x y / s=q at*;generalize p8 x y=c at*;have e1:s*q*x=y*(t*q*x'):=by
   rw[hx'];generalize (Int.gcd x y:Int)=g at*;rw[ht]at hs;have:s*q*(g*x')=(s*g)*(q*x'):=by grind
   rw[this,hs];grind
  rw[Int.sub_mul,e1,Int.mul_add,<-hu]
  grind
 refine⟨xq hg0 hd,?_,?_,?_⟩
 ·rw[hXe];exact Int.emod_nonneg _ hs0
 ·rw[hXe];exact Int.emod_lt_of_pos _ hsp
 ·rw[hY,ae4 hy hdv];omega
end
