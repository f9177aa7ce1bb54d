import Derived.Test.YtjnhnbgpifohjaaGreatDoorL9
import Derived.Test.YtjnhnbgpifohjaaGreatDoorL6
import Derived.Test.YtjnhnbgpifohjaaGreatDoorL28
set_option linter.unusedVariables false
set_option linter.unusedSimpArgs false
open Go.Proofs.Tryz
namespace Go.Proofs.YtjnhnbgpifohjaaGreatDoor
open Go.RowKit QM SX LA
section
attribute [local irreducible] IntKind.wrap Go1 Reg WP aO aR bM bK aN aD aj ak aX Sat
attribute [local irreducible] bO bX bV cK bW qv dH mf PrP qOk zOk vP dP lz
theorem aip(q:kS)(hq:(Sm WB q.2.1/\Sm WB q.2.2.2)/\q.2.1.length<=100000/\q.2.2.2.length<=100000):ah prog 219 [.agg (q4A (rq q))] (.v (.bool (!qOk q))):=by
 have c:=ahh q hq.1 zE
 refine ah.fq func219 results219 ntmps219 fun _ _ _ _ _=>?_
 refine zg ?_;exact bg rfl
theorem ahl(z:nL)(hz:Sm WB z.2/\z.2.length<=100000):ah prog 221 [.agg (z2A (rz z))] (.v (.bool (!zOk z))):=by
 have c:=xA z zE
 refine ah.fq func221 results221 ntmps221 fun _ _ _ _ _=>?_
 refine zg ?_;exact bg rfl
theorem ahD(v:Vl)(d:Int)(b:Bool)(hd:0 < d)(hd2:d<=100)(c:ah prog 123 [.agg (vlA v),.v (.int .i64 (d - 1))] (.v (.bool b))):ah prog 226 [.agg (vlA v),.r (dK [.val (.int .i64 d)])] (.v (.bool (!b))):=by
 refine ah.fq func226 results226 ntmps226 fun _ _ _ _ _=>?_
 refine zg ?_;exact bg rfl
theorem qmF(r c:Int){n:Nat}{cells:List CA}:ah prog 39 [.agg [.c (.val (.int .i64 r)),.c (.val (.int .i64 c)),.c (.sat (aQ 4 n cells))]] (.v (.bool (dP r c n))):=by
 unfold dP;exact(adl r c).h trivial
section
variable(v:Vl)(d:Nat)(hz:vZ0 v)
include hz
theorem qw:ah prog 216 [.agg (vlA v),.r (aQ 1 1 [.val (.int .i64 v.k)])] (.v (.bool (decide (vP v=0)))):=aoH v hz
theorem aaZ(hP:vP v≠0):ah prog 123 [.agg (vlA v),.v (.int .i64 (d:Int))] (.v (.bool (vF d v))):=by
 have c:=qw v hz;rw[decide_eq_false hP]at c;rw[vF_P hP];refine ah.fq func123 results123 ntmps123 fun _ _ _ _ _=>?_
 refine zg ?_;exact bg rfl
theorem zQ(hP:vP v=0)(hk:v.k=1):ah prog 123 [.agg (vlA v),.v (.int .i64 (d:Int))] (.v (.bool (vF d v))):=by
 have c:=qw v hz;rw[decide_eq_true hP]at c;rw[vF_1 hP hk];have cF:=ahh v.q hz.q.1 (by have:=hz.q.2;omega)
 refine ah.fq func123 results123 ntmps123 fun _ _ _ _ _=>?_
 refine zg ?_;exact bg rfl
theorem yQ(hP:vP v=0)(hk:v.k=2):ah prog 123 [.agg (vlA v),.v (.int .i64 (d:Int))] (.v (.bool (vF d v))):=by
 have c:=qw v hz;rw[decide_eq_true hP]at c;rw[vF_2 hP hk];have cA:=anE v.a 219 (fun x=>!qOk x) (fun x hx=>aip x (hz.a x hx)) hz.al
 have cF:=qmF v.r v.c (n:=(v.a.map rq).length) (cells:=(v.a.map rq).flatMap q4C);have hl:(v.a.map rq).length=v.a.length:=zq5 _;unfold mOk;rw[<-hl,<-ach];cases h:dP v.r v.c (v.a.map rq).length
 ·rw[h]at cF;refine ah.fq func123 results123 ntmps123 fun w0 T B E0 hB=>?_
  refine zg ?_;refine bg ?_;rw[Bool.and_false]
 ·rw[h]at cF;refine ah.fq func123 results123 ntmps123 fun w0 T B E0 hB=>?_
  refine zg ?_;refine bg ?_;rw[Bool.and_true]
theorem z8(hP:vP v=0)(hk:v.k=3):ah prog 123 [.agg (vlA v),.v (.int .i64 (d:Int))] (.v (.bool (vF d v))):=by
 have c:=qw v hz;rw[decide_eq_true hP]at c;rw[vF_3 hP hk];have cA:=ao7 v.po 221 (fun x=>!zOk x) (fun x hx=>ahl x (hz.po x hx)) hz.pol
 have hl:(v.po.map rz).length=v.po.length:=zq5 _;have hb:=hz.pol;unfold pOk lz;rw[<-ach];by_cases h0:v.po.length=0
 ·rw[decide_eq_true h0,Bool.true_or,Bool.and_true];refine ah.fq func123 results123 ntmps123 fun w0 T B E0 hB=>?_
  refine zg ?_;exact bg rfl
 ·obtain⟨x,hx⟩:∃x,v.po[v.po.length - 1]? =some x:=⟨_,zyh zE⟩
  have hq:(v.po.map rz)[(v.po.map rz).length - 1]? =some (rz x):=by rw[hl,zqa,hx];rfl
  have hg:v.po.getD (v.po.length - 1) (false,[])=x:=by rw[zx7,hx];rfl
  have hax:=hz.po x (zq4 hx);have cS:=(rA (h:=ZI.raw x.1 x.2)).h (show x.2.length<=1099511627775 by omega)
  have hs0:bI (rzv x)=0↔rzv x=0:=by unfold bI;(repeat' split) <;> omega
  change ah _ _ _ (.v (.int .i64 (bI (rzv x))))at cS
  rw[hg,decide_eq_false h0,Bool.false_or];by_cases h1:rzv x=0
  ·have h2:bI (rzv x)=0:=hs0.2 h1;rw[decide_eq_false (fun e=>e h1),Bool.and_false]
   refine ah.fq func123 results123 ntmps123 fun w0 T B E0 hB=>?_
   refine zg ?_;exact bg rfl
  ·have h2:¬bI (rzv x)=0:=fun e=>h1 (hs0.1 e)
   rw[decide_eq_true h1,Bool.and_true];refine ah.fq func123 results123 ntmps123 fun w0 T B E0 hB=>?_
   refine zg ?_;exact bg rfl
theorem yM(hP:vP v=0)(hk:v.k=4):ah prog 123 [.agg (vlA v),.v (.int .i64 (d:Int))] (.v (.bool (vF d v))):=by
 have c:=qw v hz;rw[decide_eq_true hP]at c;rw[vF_4 hP hk];have cB:=afl v v.fa hz.p hz.fal;have cF:ah prog 223 [.agg [.c (.val (.int .i64 v.fr)),.c (.val (.int .i64 v.fc)),.c (.sat (aA 1 wdC v.fa))]] (.v (.bool (dP v.fr v.fc v.fa.length))):=aaU v.fr v.fc;unfold fOk;cases h:dP v.fr v.fc v.fa.length
 ·rw[h]at cF;refine ah.fq func123 results123 ntmps123 fun w0 T B E0 hB=>?_
  refine zg ?_;refine bg ?_;rw[Bool.and_false,Bool.and_false]
 ·rw[h]at cF;refine ah.fq func123 results123 ntmps123 fun w0 T B E0 hB=>?_
  refine zg ?_;refine bg ?_;rw[Bool.and_true]
theorem yg(hP:vP v=0)(hk:v.k=5):ah prog 123 [.agg (vlA v),.v (.int .i64 (d:Int))] (.v (.bool (vF d v))):=by
 have c:=qw v hz;rw[decide_eq_true hP]at c;rw[vF_5 hP hk];have cB:=afl v v.ri hz.p hz.ril;have hb:=hz.ril;unfold rOk lw;rw[<-Bool.and_assoc];generalize (decide (PrP v.p)&&v.ri.all (ltp v.p))=b at cB ⊢;cases b
 ·refine ah.fq func123 results123 ntmps123 fun w0 T B E0 hB=>?_
  refine zg ?_;exact bg rfl
 ·by_cases h0:v.ri.length=0
  ·rw[decide_eq_true h0];refine ah.fq func123 results123 ntmps123 fun w0 T B E0 hB=>?_
   refine zg ?_;exact bg rfl
  ·obtain⟨x,hx⟩:∃x,v.ri[v.ri.length - 1]? =some x:=⟨_,zyh zE⟩
   have hg:v.ri.getD (v.ri.length - 1) 0=x:=by rw[zx7,hx];rfl
   rw[hg,decide_eq_false h0,Bool.false_or,Bool.true_and];refine ah.fq func123 results123 ntmps123 fun w0 T B E0 hB=>?_
   refine zg ?_;refine bg ?_;rw[decide_eq_decide];omega
theorem yZ(hP:vP v=0)(hk:v.k=6)(hd:d<=20)(hr:∀e,d=e+1->∀x∈v.li,ah prog 123 [.agg (vlA x),.v (.int .i64 (e:Int))] (.v (.bool (vF e x)))):ah prog 123 [.agg (vlA v),.v (.int .i64 (d:Int))] (.v (.bool (vF d v))):=by
 have c:=qw v hz;rw[decide_eq_true hP]at c;cases d with
 |zero=>
  rw[vF_60 hk];refine ah.fq func123 results123 ntmps123 fun w0 T B E0 hB=>?_
  refine zg ?_;refine WP.jP 3 hB rfl rfl ?_;refine WP.aI ?_;refine zg ?_;exact bg rfl
 |succ e=>
  rw[vF_6 hP hk,<-ach];have cA:=as3 v.li (.sat (fJ 226 [] [.sat (dK [.val (.int .i64 ((e+1:Nat):Int))])])) (fun x=>!vF e x) (fun x hx=>FnV.clo (ahD x ((e+1:Nat):Int) (vF e x) zE zE (by
   rw[show ((e+1:Nat):Int) - 1=(e:Int)by omega];exact hr e rfl x hx))) hz.lil rfl
  refine ah.fq func123 results123 ntmps123 fun w0 T B E0 hB=>?_
  refine zg ?_;refine WP.jP 3 hB rfl rfl ?_;refine WP.aI ?_;refine zg ?_;exact bg rfl
theorem yX(hP:vP v=0)(hk:v.k≠1/\v.k≠2/\v.k≠3/\v.k≠4/\v.k≠5/\v.k≠6):ah prog 123 [.agg (vlA v),.v (.int .i64 (d:Int))] (.v (.bool (vF d v))):=by
 have c:=qw v hz;rw[decide_eq_true hP]at c;rw[vF_7 hk];refine ah.fq func123 results123 ntmps123 fun _ _ _ _ _=>?_
 refine zg ?_;exact bg rfl
end
theorem ak0:∀(n d:Nat) (v:Vl),vZ n v->d<=20->ah prog 123 [.agg (vlA v),.v (.int .i64 (d:Int))] (.v (.bool (vF d v))):=by
 intro n
 induction n with
 |zero=>
  intro d v hv hd;by_cases hP:vP v=0
  ·have hk:v.k=1\/v.k=2\/v.k=3\/v.k=4\/v.k=5\/v.k=6\/(v.k≠1/\v.k≠2/\v.k≠3/\v.k≠4/\v.k≠5/\v.k≠6):=zE
   rcases hk with hk|hk|hk|hk|hk|hk|hk
   ·exact zQ v d hv.z hP hk
   ·exact yQ v d hv.z hP hk
   ·exact z8 v d hv.z hP hk
   ·exact yM v d hv.z hP hk
   ·exact yg v d hv.z hP hk
   ·exact yZ v d hv.z hP hk hd fun e _ x hx=>by rw[hv.2]at hx;cases hx
   ·exact yX v d hv.z hP hk
  ·exact aaZ v d hv.z hP
 |succ n ih=>
  intro d v hv hd;by_cases hP:vP v=0
  ·have hk:v.k=1\/v.k=2\/v.k=3\/v.k=4\/v.k=5\/v.k=6\/(v.k≠1/\v.k≠2/\v.k≠3/\v.k≠4/\v.k≠5/\v.k≠6):=zE
   rcases hk with hk|hk|hk|hk|hk|hk|hk
   ·exact zQ v d hv.z hP hk
   ·exact yQ v d hv.z hP hk
   ·exact z8 v d hv.z hP hk
   ·exact yM v d hv.z hP hk
   ·exact yg v d hv.z hP hk
   ·exact yZ v d hv.z hP hk hd fun e he x hx=>ih e x (hv.2 x hx) zE
   ·exact yX v d hv.z hP hk
  ·exact aaZ v d hv.z hP
theorem abu{n:Nat}{v:Vl}(hv:vZ n v):ah prog 78 [.agg (vlA v)] (.v (.bool (vF 20 v))):=by
 have c:=ak0 n 20 v hv (zq6 _);refine ah.fq func78 results78 ntmps78 fun _ _ _ _ _=>?_
 refine zg ?_;exact bg rfl
end
section
section
abbrev vlB(v:Vl):List Atom:=[.c (.val (.int .i64 v.k)),.c (.val (.bool v.q.1)),.c (.sat (eT v.q.2.1)),.c (.val (.bool v.q.2.2.1)),.c (.sat (eT v.q.2.2.2)),.c (.val (.int .i64 v.r)),.c (.val (.int .i64 v.c)),.c (.sat (aA 4 q4C (v.a.map rq))),.c (.sat (aA 2 z2C (v.po.map rz))),.c (.val (.int .u64 (v.p:Int))),.c (.val (.int .i64 v.fr)),.c (.val (.int .i64 v.fc)),.c (.sat (aA 1 wdC v.fa)),.c (.sat (aA 1 wdC v.ri)),.c (.sat (aA 15 vlE v.li))]
theorem ar7(v:Vl):vlA v=vlB v:=by unfold vlA vlB;rw[vX]
attribute [local irreducible] IntKind.wrap Go1 Reg WP aO aR bM bK aN aD aj ak aX Sat
attribute [local irreducible] bO bX bV cK bW qv dH mf PrP qOk zOk vP dP lz
section
variable(v:Vl)(d:Nat)(hz:vZ0 v)
include hz
omit hz in
end
end
section
theorem vZ0.num{v:Rat}{K:Nat}(h:RB v K)(hK:K<=100000):vZ0 (iR v) where
 q:=⟨alF v,zxf (qD h.n) hK,zxf (qD (by rw[zxa];exact h.d)) hK⟩
 a:=by intro x hx;cases hx
 al:=zq8 _
 po:=by intro x hx;cases hx
 pol:=zq8 _
 p:=aZ
 fa:=by intro x hx;cases hx
 fal:=zq8 _
 ri:=by intro x hx;cases hx
 ril:=zq8 _
 lil:=zq8 _
theorem vZ.num{v:Rat}{K:Nat}(h:RB v K)(hK:K<=100000):vZ 0 (iR v):=⟨vZ0.num h hK,rfl⟩
theorem ayM(v:Rat):vP (iR v)=0:=(vP0 _).2 ⟨.inl rfl,.inr ⟨rfl,rfl,rfl⟩,.inr rfl,.inr ⟨rfl,rfl,rfl⟩,.inr rfl,.inr (.inr rfl),.inr rfl⟩
theorem ars(d:Nat)(v:Rat):vF d (iR v)=true:=by
 rw[vF_1 (ayM v) rfl];exact(am8 (alF v)).2 (by rw[kV])
theorem asJ(p q:Int):rmk p q=((qv p q).num,((qv p q).den:Int)):=by
 have h2:Nat.Coprime (qv p q).num.natAbs (qv p q).den:=(qv p q).reduced;have hd:=(qv p q).den_nz;have:=Rd.uniq (pY p q) (abK p q) (r:=(qv p q).num) (s:=((qv p q).den:Int)) zE (by unfold Int.gcd;rw[zxa];exact h2) (by rw[jA,ku])
 exact Prod.ext this.1 this.2
theorem amj(x:Rat):qv (sgn (cq x).1 (nval WB (cq x).2.1)) (sgn (cq x).2.2.1 (nval WB (cq x).2.2.2))=x:=kV x
def qS(v:Rat):List UInt8:=rS (v.num,(v.den:Int))
def qB(v:Rat):Nat:=max (bitLen v.num.natAbs) (bitLen v.den)
attribute [local irreducible] IntKind.wrap Go1 Reg WP aO aR bM bK aN aD aj ak aX Sat
attribute [local irreducible] bO bX bV cK bW qv dH mf PrP qOk zOk vP dP lz vF cq rqv
theorem ak5{x0 x1 x2 x3:Atom}{p q:Int}{k m:Nat}[h:ZI [x0,x1] p k][h':ZI [x2,x3] q m](hk:k+m<=1000000):ah prog 534 [.agg [x0,x1,x2,x3]] (.v (.int .i64 ((max (bitLen (rmk p q).1.natAbs) (bitLen (rmk p q).2.natAbs):Nat):Int))):=by
 refine q1 ⟨_,func534,rfl,rfl⟩ fun neg n neg2 n2 hz hz2 hn hn2=>?_
 subst hz;subst hz2;refine ah.fq func534 results534 ntmps534 fun _ _ _ _ _=>?_
 refine zg ?_;exact fC rfl
theorem afj{q:kS}(hk:q.2.1.length+q.2.2.2.length<=1000000):ah prog 534 [.agg (q4A (rq q))] (.v (.int .i64 (qB (rqv q):Int))):=by
 have h:=ak5 (h:=ZI.raw q.1 q.2.1) (h':=ZI.raw q.2.2.1 q.2.2.2) hk;rw[asJ]at h
 dsimp only at h
 rw[zxa]at h;unfold rqv qB;exact h
theorem aiN(v:Rat)(e:Int):ah prog 535 [.agg (qA v),.v (.bool true),.v (.int .i64 e)] (.tup [.agg (vlA (iR v)),eNo 0]):=by
 refine ah.fq func535 results535 ntmps535 fun _ _ _ _ _=>?_
 refine zg ?_;refine .ok (aD.mk2 ((aj.ig rfl rfl rfl).imp ?_) (aj.tmp rfl));exact alE
theorem ajp{x y:Rat}{K L:Nat}(hx:RB x K)(hy:RB y L)(hK:K+L<=400000):ah prog 110 [.agg (vlA (iR x)),.agg (vlA (iR y))] (.v (.bool (decide (x=y)))):=by
 haveI:=Ra.cq hx
 haveI:=Ra.cq hy
 obtain⟨z,cA,hz,_⟩:=eCmp (q4A (rq (cq x))) (q4A (rq (cq y))) (K:=K) (K':=L) zE
 rw[<-decide_eq_decide.2 hz];refine ah.fq func110 results110 ntmps110 fun _ _ _ _ _=>?_
 refine zg ?_;exact bg rfl
theorem avj{x:Rat}{K:Nat}(hx:RB x K)(hK:K<=100000):ah prog 518 [.agg (q4A (rq (cq x)))] (.v (str (qS x))):=by
 have hl:=(vZ0.num hx hK).q.2
 dsimp only at hl
 have h:=(ak6 (h:=ZI.raw (cq x).1 (cq x).2.1) (h':=ZI.raw (cq x).2.2.1 (cq x).2.2.2)).h zE
 rw[asJ]at h;rw[amj]at h;exact h
theorem aoG{x:Rat}{K:Nat}(hx:RB x K)(hK:K<=100000):ah prog 491 [.agg (vlA (iR x))] (.v (str (qS x))):=by
 have c:=avj hx hK;refine ah.fq func491 results491 ntmps491 fun _ _ _ _ _=>?_
 refine zg ?_;exact akT rfl
theorem aj4{x:Rat}{K:Nat}(hx:RB x K)(hK:K<=100000):ah prog 462 [.agg (vlA (iR x))] (.tup [.one (.c (.val (str (qS x)))),eNo 0]):=by
 have c:=aoG hx hK;have c1:=abu (vZ.num hx hK);rw[ars]at c1;refine ah.fq func462 results462 ntmps462 fun _ _ _ _ _=>?_
 refine zg ?_;exact .ok (aD.mk2 (aj.tmp rfl) (aj.tmp rfl))
theorem apo{x:Rat}{K:Nat}(hx:RB x K)(hK:K<=100000):ah prog 505 [.agg (vlA (iR x))] (.v (.int .i64 (qB x:Int))):=by
 have cO:=an4 0 zc zc
 have cB:ah prog 102 [.r (bN (0:Int).natAbs)] (.v (.int .i64 0)):=by
  haveI:BdN 0 1:=⟨by rw[bJ];decide⟩
  exact(aaP (a:= .sat (bN 0))).h zc
 have c:=afj (q:=cq x) (by have:=(vZ0.num hx hK).q.2;dsimp only at this;omega)
 rw[kV]at c;refine ah.fq func505 results505 ntmps505 fun _ _ _ _ _=>?_
 refine zg ?_;exact fC rfl
end
section
theorem au9{vs:List Rat}{K:Nat}(h:∀v∈vs,RB v K)(hK:K<=100000):∀x∈vs.map cq,(Sm WB x.2.1/\Sm WB x.2.2.2)/\x.2.1.length<=100000/\x.2.2.2.length<=100000:=fun x hx=>by
 obtain⟨v,hv,rfl⟩:=zqg.1 hx;exact(vZ0.num (h v hv) hK).q
theorem vZ0.mat{r c:Nat}{vs:List Rat}{K:Nat}(h:∀v∈vs,RB v K)(hK:K<=100000)(hl:vs.length<=100000):vZ0 (iC r c vs) where
 q:=⟨⟨Sm.nil,Sm.nil⟩,zq8 _,zq8 _⟩
 a:=au9 h hK
 al:=by rw[zq5];exact hl
 po:=by intro x hx;cases hx
 pol:=zq8 _
 p:=aZ
 fa:=by intro x hx;cases hx
 fal:=zq8 _
 ri:=by intro x hx;cases hx
 ril:=zq8 _
 lil:=zq8 _
theorem ayO(r c:Nat)(vs:List Rat):vP (iC r c vs)=0:=(vP0 _).2 ⟨.inr ⟨rfl,rfl,rfl,rfl⟩,.inl rfl,.inr rfl,.inr ⟨rfl,rfl,rfl⟩,.inr rfl,.inr (.inr rfl),.inr rfl⟩
theorem ayJ(v:Rat):qOk (cq v)=true:=(am8 (alF v)).2 (by rw[kV])
theorem adY{r c n:Nat}(hr:r<=64)(hc:c<=64)(hl:n=r*c):dP (r:Int) (c:Int) n=true:=decide_eq_true ⟨zE,zE,zE,zE,by rw[hl];simp⟩
theorem awZ(d:Nat){r c:Nat}{vs:List Rat}(hl:vs.length=r*c)(hr:r<=64)(hc:c<=64):vF d (iC r c vs)=true:=by
 rw[vF_2 (ayO r c vs) rfl];unfold mOk;rw[zx4];refine⟨zqh.2 fun x hx=>?_,adY hr hc (by rw[zq5];exact hl)⟩
 obtain⟨v,_,rfl⟩:=zqg.1 hx;exact ayJ v
attribute [local irreducible] IntKind.wrap Go1 Reg WP aO aR bM bK aN aD aj ak aX Sat
attribute [local irreducible] bO bX bV cK bW qv dH mf PrP qOk zOk vP dP lz vF cq rqv
end
end
section
open Go.ChangeShapes Go.WideShapes Go.ChangeAt Go.Joins
section
variable{H:Type}{enc:TypeId×Value->H}{W:World}{base:Nat}{sp:Nat->Bool}{hd:Bool}
def vzC(p:nL):List CA:=z2C (rz p)
instance:fF vzC 2:=⟨fun _=>rfl⟩
theorem awO(l:List nL):aA 2 vzC l=aA 2 z2C (l.map rz):=by
 show aQ 2 l.length (l.flatMap vzC)=aQ 2 (l.map rz).length ((l.map rz).flatMap z2C);rw[zq5,List.flatMap_map];rfl
theorem decPoly(n:Nat):jB enc prog W base sp hd n 35 (fun l:List nL=>[.sat (aA 2 z2C (l.map rz))]) (fun l=>∀x∈l,Sm WB x.2):=
 jB.all (fun n=>(aff (enc':=vzC) underlying35 z6 ((decZS n).conv (e':=vzC) (ψ:=fun p=>Sm WB p.2) id (fun _ h=>h) (fun _=>rfl))).conv id (fun _ h=>h.2) (fun l=>by
  show [CA.sat (aA 2 z2C (l.map rz))]=[CA.sat (aA 2 vzC l)];rw[awO])) n
end
def vW1(d:Nat)(v:Vl):Prop:=(v.po.length<=5/\∀x∈v.po,x.2.length<=2)/\v.ri.length<=5/\v.li.length<=4/\(v.li.length=0\/d≠0)/\v.p<=4294967296/\(v.q.2.1.length<=2/\v.q.2.2.2.length<=2)/\FewP v.r v.c v.a 4 2/\(v.fr<=4/\v.fc<=4/\v.fa.length<=100)
def vW:Nat->Vl->Prop
 |0,v=>vW1 0 v/\v.li=[]
 |d+1,v=>vW1 (d+1) v/\∀x∈v.li,vW d x
end
section
section
instance zeroZ:adt [.bool false,.slice none 0 0] (z2C (z2v 0)):=⟨fun S w=>⟨rfl,bN.zero,trivial⟩⟩
def pl(zs:List Int):Nat->Nat
 |0=>0
 |k+1=>if zs.getD k 0=0 then pl zs k else k+1
def dX(zs:List Int):Nat:=pl zs zs.length
def aS(zs:List Int):List Int:=zs.take (dX zs)
def pN(zs:List Int):Prop:=zs.length=0\/zs.getD (zs.length - 1) 0≠0
theorem awi(zs:List Int):∀k,pl zs k<=k
 |0=>zq6 _
 |k+1=>by unfold pl;split;exact Nat.le_succ_of_le (awi zs k);exact zq6 _
theorem asW(zs:List Int):∀k,pl zs k=0\/zs.getD (pl zs k - 1) 0≠0
 |0=> .inl rfl
 |k+1=>by
  unfold pl;split
  ·exact asW zs k
  ·next h=>exact .inr h
theorem amT(zs:List Int):∀(k j:Nat),pl zs k<=j->j < k->zs.getD j 0=0
 |0,j,_,h=>absurd h (zvj _)
 |k+1,j,h1,h2=>by
  unfold pl at h1
  split at h1
  ·next h=>
   by_cases hj:j=k
   ·subst hj;exact h
   ·exact amT zs k j h1 zE
  ·omega
theorem kF(zs:List Int):dX zs<=zs.length:=awi zs _
theorem gU(zs:List Int):(aS zs).length=dX zs:=by unfold aS;rw[zx3];exact zv9 (kF zs)
theorem oq{zs:List Int}{j:Nat}(h:zs.length<=j):zs.getD j 0=0:=by rw[zx7,zqe h];rfl
theorem uU(zs:List Int)(j:Nat):(aS zs).getD j 0=zs.getD j 0:=by
 by_cases h:j < dX zs
 ·unfold aS;rw[zx7,zy9,if_pos h,<-zx7]
 ·rw[oq (by rw[gU];omega)]
  by_cases h2:j < zs.length
  ·exact(amT zs _ j (by unfold dX at h;omega) h2).symm
  ·exact(oq zE).symm
theorem pQ(zs:List Int):pN (aS zs):=by
 rcases asW zs zs.length with h|h
 ·exact .inl (by rw[gU];exact h)
 ·exact .inr (by rw[gU,uU];exact h)
theorem akl{a b:List Int}(ha:pN a)(hb:pN b)(h:∀j,a.getD j 0=b.getD j 0):a=b:=by
 have key:∀{a b:List Int},pN a->(∀j,a.getD j 0=b.getD j 0)->a.length<=b.length:=fun {a b} ha h=>by
  rcases ha with h0|h0
  ·omega
  ·rcases zyd b.length a.length with h1|h1
   ·rw[h,oq zE]at h0;exact absurd rfl h0
   ·exact h1
 have hl:a.length=b.length:=Nat.le_antisymm (key ha h) (key hb fun j=>(h j).symm)
 apply zyb;intro j
 by_cases hj:j < a.length
 ·have:=h j;rw[zx7,zx7,zyh hj,zyh zE]at this
  rw[zyh hj,zyh zE]
  exact congrArg some this
 ·rw[zqe zE,zqe zE]
theorem ajw{zs:List Int}(h:pN zs):aS zs=zs:=akl (pQ zs) h (uU zs)
theorem lU{zs:List Int}:∀z∈aS zs,z∈zs:=fun z h=>zv3 h
def xK(n:Nat)(f:Nat->Int):List Int:=(List.range n).map f
theorem zl(n:Nat)(f:Nat->Int):(xK n f).length=n:=by unfold xK;rw[zq5,zy1]
theorem alp{n:Nat}{f:Nat->Int}{j:Nat}(h:j < n):(xK n f).getD j 0=f j:=by
 unfold xK;rw[zx7,zqa,zvb h];rfl
def bU(op:Int->Int->Int)(a b:List Int):List Int:=aS (xK (max a.length b.length) fun i=>op (a.getD i 0) (b.getD i 0))
theorem ai4{op:Int->Int->Int}(h0:op 0 0=0)(a b:List Int)(j:Nat):(bU op a b).getD j 0=op (a.getD j 0) (b.getD j 0):=by
 unfold bU;rw[uU];by_cases h:j < max a.length b.length
 ·exact alp h
 ·rw[oq (by rw[zl];omega),oq (zs:=a) zE,oq (zs:=b) zE,h0]
def aiI(l:List Z2)(i:Nat):Z2:=l.getD i (z2v 0)
theorem ZQ.zero(K:Nat):ZQ (z2v 0) 0 K:=ZQ.made (z:=0) (by rw[show (0:Int).natAbs=0 from rfl];exact gQ K)
theorem MZ.pat{l:List Z2}{zs:List Int}{K:Nat}(h:MZ l zs K)(i:Nat):ZQ (aiI l i) (zs.getD i 0) K:=by
 unfold aiI;rw[zx7,zx7]
 have hl:=h.len;by_cases hi:i < l.length
 ·rw[zyh hi,zyh zE]
  exact h.z i _ _ (zyh hi) (zyh zE)
 ·rw[zqe zE,zqe zE]
  exact ZQ.zero K
theorem qE{zs:List Int}{K:Nat}(h:∀z∈zs,z.natAbs < WB ^ K)(i:Nat):(zs.getD i 0).natAbs < WB ^ K:=by
 rw[zx7]
 by_cases hi:i < zs.length
 ·rw[zyh hi];exact h _ (List.getElem_mem hi)
 ·rw[zqe zE];exact gQ K
theorem alP{f:Nat->Z2}{z:Z2}{n k:Nat}(hk:k < n):((List.range n).map fun i=>if i < k then f i else z).set k (f k)=(List.range n).map fun i=>if i < k+1 then f i else z:=by
 apply zyb
 intro j;rw[zv2]
 by_cases hj:k=j
 ·subst hj;rw[if_pos rfl,if_pos (by rw[zq5,zy1];exact hk),zqa,zvb hk]
  simp
 ·rw[if_neg hj,zqa,zqa]
  by_cases hjn:j < n
  ·rw[zvb hjn]
   simp only[Option.map_some];by_cases h1:j < k
   ·rw[if_pos h1,if_pos zE]
   ·rw[if_neg h1,if_neg zE]
  ·rw[zqe (by rw[zy1];omega)];rfl
theorem al4{f:Nat->Z2}{z:Z2}{n:Nat}:((List.range n).map fun i=>if i < n then f i else z)=(List.range n).map f:=by
 refine zvg fun i hi=>?_
 rw[if_pos (List.mem_range.1 hi)]
theorem aiO{f:Nat->Z2}{z:Z2}{n:Nat}:(List.replicate n (z2C z)).flatten=((List.range n).map fun i=>if i < 0 then f i else z).flatMap z2C:=by
 have:((List.range n).map fun i=>if i < 0 then f i else z)=List.replicate n z:=by
  apply zyb;intro j
  rw[zqa,List.getElem?_replicate]
  by_cases hj:j < n
  ·rw[zvb hj,if_pos hj];simp
  ·rw[zqe (by rw[zy1];omega),if_neg hj];rfl
 rw[this,List.flatMap,List.map_replicate]
attribute [local irreducible] IntKind.wrap Go1 Reg WP aO aR bM bK aN aD aj ak aX Sat
attribute [local irreducible] bO bX bV cK bW qv dH mf PrP qOk zOk vP dP lz vF cq rqv dX
theorem ag2(l:List Z2)(i:Nat)(hl:l.length<=1000000):ah prog 178 [.r (aA 2 z2C l),.v (.int .i64 (i:Int))] (.agg (z2A (aiI l i))):=by
 unfold aiI;rw[zx7]
 refine ah.fq func178 results178 ntmps178 fun _ _ _ _ _=>?_
 by_cases h:i < l.length
 ·obtain⟨q,hq⟩:∃q,l[i]? =some q:=⟨_,zyh h⟩
  rw[hq];refine zg ?_;exact nM aj.gV rfl
 ·rw[zqe zE]
  refine zg ?_;refine oJ aj.gV ?_;exact zO
theorem jr{l:List Z2}{zs:List Int}{K:Nat}(hM:MZ l zs K)(hK:K<=1000000)(hl:l.length<=100000):ah prog 23 [.r (aA 2 z2C l)] (.r (aA 2 z2C ((aS zs).map z2v))):=by
 have hlen:=hM.len;have hle:=kF zs;refine ah.fq func23 results23 ntmps23 fun _ _ _ _ _=>?_
 refine zg ?_;refine W.loop (fun k=>k<=l.length/\pl zs k=dX zs) (fun k=>[(0,.r (aA 2 z2C l)),(3,.v (.int .i64 (k:Int)))]) (fun _=>[]) (fun k=>k) l.length ⟨zq6 _,by rw[hlen];unfold dX;rfl⟩ (fun k ⟨hk,he⟩=>?_)
 by_cases h0:0 < k
 ·obtain⟨m,rfl⟩:∃m,k=m+1:=⟨k - 1,zE⟩
  obtain⟨q,hq⟩:∃q,l[m+1 - 1]? =some q:=⟨_,zyh zE⟩
  have hq':l[m]? =some q:=hq;obtain⟨z,hz⟩:∃z,zs[m]? =some z:=⟨_,zyh zE⟩
  have hg:zs.getD m 0=z:=by rw[zx7,hz];rfl
  have zq:=hM.z m q z hq' hz;have cS:=(rA (h:=zq.zi)).h zE
  have hs0:bI z=0↔z=0:=by unfold bI;(repeat' split) <;> omega
  unfold pl at he;rw[hg]at he;by_cases hz0:z=0
  ·rw[if_pos hz0]at he;have h1:=hs0.2 hz0;refine zg ?_;exact W.next m ⟨zE,he⟩ zE
  ·rw[if_neg hz0]at he;have h1:¬bI z=0:=fun e=>hz0 (hs0.1 e)
   rw[<-he]at hle;have e3:(l.take (m+1)).length=m+1:=by rw[zx3];omega
   refine zg ?_;refine W.loop (fun j=>j<=m+1) (fun j=>[(4,.own 100),(24,.r (aA 2 z2C (l.take (m+1)))),(25,.v (.int .i64 ((m+1:Nat):Int))),(26,.v (.int .i64 (j:Int)))]) (fun j=>[(100,.row 31 2 j (((zs.take j).map z2v).flatMap z2C))]) (fun j=>m+1 - j) 0 (zq8 _) (fun j hj=>?_)
    (by
     refine St.aW [(100,none)] zt ?_ ?_ rfl
     ·repeat(first|exact trivial|refine⟨⟨_,rfl,aF.same rfl⟩,?_⟩|refine⟨⟨_,rfl,aF.nil rfl⟩,?_⟩|refine⟨⟨_,rfl,aF.int (by rw[e3])⟩,?_⟩)
     ·exact⟨ay.dO rfl,trivial⟩)
   by_cases h2:j < m+1
   ·obtain⟨q2,hq2⟩:∃q2,l[j]? =some q2:=⟨_,zyh zE⟩
    have hq3:(l.take (m+1))[j]? =some q2:=by rw[zy9,if_pos h2];exact hq2
    have h3:j < (l.take (m+1)).length:=zE
    obtain⟨z2,hz2⟩:∃z2,zs[j]? =some z2:=⟨_,zyh zE⟩
    have cF:=agS (hM.z j q2 z2 hq2 hz2) hK;have e2:((zs.take j).map z2v).flatMap z2C++z2C (z2v z2)=((zs.take (j+1)).map z2v).flatMap z2C:=by rw[zw7,hz2];simp
    refine zg ?_;refine W.next (j+1) h2 zE (by
     refine St.aW [(100,some 37)] zt ?_ ?_ rfl
     ·exact yb
     ·exact⟨ay.row rfl rfl rfl e2,trivial⟩)
   ·obtain rfl:j=m+1:=zE
    refine zg ?_;refine aN.frz 100 ?_;refine uX ?_;unfold aS;rw[<-he];show AV0.one (.c (.sat (aQ 2 (m+1) _)))= .one (.c (.sat (aQ 2 ((zs.take (m+1)).map z2v).length _)));rw[zq5,zx3,zv9 zE]
 ·obtain rfl:k=0:=zE
  have he':dX zs=0:=he.symm;refine zg ?_;refine W.loop (fun j:Nat=>j=0) (fun j=>[(4,.v (.slice none 0 0)),(25,.v (.int .i64 0)),(26,.v (.int .i64 (j:Int)))]) (fun _=>[]) (fun j=>j) 0 rfl (fun j hj=>?_)
  subst hj;refine zg ?_;refine zY ?_;unfold aS;rw[he'];exact fun E S w v h=>(aB.nil (α:=Z2) (enc:=z2C) (size:=2)) E S w v h
end
section
theorem ato{n K:Nat}{f:Nat->Int}(h:∀i,i < n->(f i).natAbs < WB ^ K):MZ ((List.range n).map fun i=>z2v (f i)) (xK n f) K:=by
 refine⟨by rw[zq5,zy1,zl],fun i q z hq hz=>?_⟩
 have hi:i < n:=by have:=xg hq;rwa [zq5,zy1]at this
 rw[zqa,zvb hi]at hq
 unfold xK at hz;rw[zqa,zvb hi]at hz
 cases hq;cases hz;exact ZQ.made (h i hi)
theorem wF{n:Nat}{l:List Z2}(h:l.length=n):aA 2 z2C l=aQ 2 n (l.flatMap z2C):=by subst h;rfl
attribute [local irreducible] IntKind.wrap Go1 Reg WP aO aR bM bK aN aD aj ak aX Sat
attribute [local irreducible] bO bX bV cK bW qv dH mf PrP qOk zOk vP dP lz vF cq rqv dX aS
theorem aiZ{l l':List Z2}{zs zs':List Int}{K K' L:Nat}(op:Int->Int->Int)(x:CA)(hx1:x.eY=true)(hM:MZ l zs K)(hM':MZ l' zs' K')(hl:l.length<=10000)(hl':l'.length<=10000)
  (hx:∀i,FnV prog x [.agg (z2A (aiI l i)),.agg (z2A (aiI l' i))] (.agg (zN (op (zs.getD i 0) (zs'.getD i 0))))) (hb:∀i,(op (zs.getD i 0) (zs'.getD i 0)).natAbs < WB ^ L) (hL:L<=1000000):
  ah prog 287 [.r (aA 2 z2C l),.r (aA 2 z2C l'),.it (.one (.c x))] (.r (aA 2 z2C ((bU op zs zs').map z2v))):=by
 have cN:ah prog 23 [.r (aQ 2 (max l.length l'.length) (((List.range (max l.length l'.length)).map fun i=>z2v (op (zs.getD i 0) (zs'.getD i 0))).flatMap z2C))] (.r (aA 2 z2C ((bU op zs zs').map z2v))):=by
  have h:=jr (ato (n:=max l.length l'.length) (f:=fun i=>op (zs.getD i 0) (zs'.getD i 0)) fun i _=>hb i) hL (by rw[zq5,zy1];omega)
  rw[wF (n:=max l.length l'.length) (by rw[zq5,zy1])]at h
  unfold bU;rw[<-hM.len,<-hM'.len];exact h
 have hm:max l.length l'.length<=10000:=zE
 refine ah.fq func287 results287 ntmps287 fun _ _ _ _ hB=>?_
 refine zg ?_;refine W.loop (fun k=>k<=max l.length l'.length) (fun k=>[(0,.r (aA 2 z2C l)),(1,.r (aA 2 z2C l')),(2,.it (.one (.c x))),(7,.own 100),(16,.v (.int .i64 ((max l.length l'.length:Nat):Int))),(17,.v (.int .i64 (k:Int)))]) (fun k=>[(100,.row 31 2 (max l.length l'.length) (((List.range (max l.length l'.length)).map fun i=>if i < k then z2v (op (zs.getD i 0) (zs'.getD i 0))else z2v 0).flatMap z2C))]) (fun k=>max l.length l'.length - k) 0 (zq8 _) (fun k hk=>?_)
  (by
   refine St.aW [(100,some 14)] zt ?_ ?_ rfl
   ·exact yb
   ·exact⟨ay.row rfl rfl rfl (aiO (f:=fun i=>z2v (op (zs.getD i 0) (zs'.getD i 0)))),trivial⟩)
 by_cases h:k < max l.length l'.length
 ·have c1:=ag2 l k zE
  have c2:=ag2 l' k zE
  have c3:=hx k;have e2:((List.range (max l.length l'.length)).map fun i=>if i < k then z2v (op (zs.getD i 0) (zs'.getD i 0))else z2v 0).length=max l.length l'.length:=by rw[zq5,zy1]
  have e3:=alP (f:=fun i=>z2v (op (zs.getD i 0) (zs'.getD i 0))) (z:=z2v 0) h
  refine zg ?_;refine SX.G.nk (a:=z2v (op (zs.getD k 0) (zs'.getD k 0))) ?_;rw[e3];refine zg ?_;exact W.next (k+1) h zE
 ·obtain rfl:k=max l.length l'.length:=zE
  rw[al4];refine WP.freeze 100 hB rfl ?_;refine zg ?_;exact uX rfl
theorem yP{P:Program}{f g:FuncId}{a b r:AV}(h:ah P f [a,b,.it (.one (.c (.sat (fJ g [] []))))] r):ah P f [a,b,.it (.one (.clo g []))] r:=
 weakArgs h fun E S w vs hv=>by
  match vs,hv with
  |[u1,u2,u3],⟨h1,h2,h3,_⟩=>exact⟨h1,h2,ane h3,trivial⟩
abbrev atb:=bU (· + ·)
abbrev aak:=bU (· - ·)
theorem atr{l l':List Z2}{zs zs':List Int}{K K':Nat}(hM:MZ l zs K)(hM':MZ l' zs' K')(hl:l.length<=10000)(hl':l'.length<=10000)(hK:K+K'<=100000):
  ah prog 179 [.r (aA 2 z2C l),.r (aA 2 z2C l')] (.r (aA 2 z2C ((atb zs zs').map z2v))):=by
 have c:=yP (aiZ (· + ·) (.sat (fJ 88 [] [])) rfl hM hM' hl hl' (fun i=>FnV.const ((aiW (h:=(hM.pat i).zi) (h':=(hM'.pat i).zi)).h zE)) (L:=K+K'+1) (fun i=>acW (hM.pat i).b (hM'.pat i).b) zE)
 refine ah.fq func179 results179 ntmps179 fun _ _ _ _ _=>?_
 refine zg ?_;exact uX rfl
theorem ajd{l l':List Z2}{zs zs':List Int}{K K':Nat}(hM:MZ l zs K)(hM':MZ l' zs' K')(hl:l.length<=10000)(hl':l'.length<=10000)(hK:K+K'<=100000):
  ah prog 181 [.r (aA 2 z2C l),.r (aA 2 z2C l')] (.r (aA 2 z2C ((aak zs zs').map z2v))):=by
 have c:=yP (aiZ (· - ·) (.sat (fJ 75 [] [])) rfl hM hM' hl hl' (fun i=>FnV.const ((ajn (h:=(hM.pat i).zi) (h':=(hM'.pat i).zi)).h zE)) (L:=K+K'+1) (fun i=>by
  have h2:(-(zs'.getD i 0)).natAbs < WB ^ K':=by rw[Int.natAbs_neg];exact(hM'.pat i).b
  have:=acW (hM.pat i).b h2
  rwa [<-Int.sub_eq_add_neg]at this) zE)
 refine ah.fq func181 results181 ntmps181 fun _ _ _ _ _=>?_
 refine zg ?_;exact uX rfl
theorem abF(a b:List Int)(j:Nat):(aak a b).getD j 0=a.getD j 0 - b.getD j 0:=ai4 (op:=(· - ·)) rfl a b j
theorem av5(a b:List Int)(j:Nat):(atb a b).getD j 0=a.getD j 0+b.getD j 0:=ai4 (op:=(· + ·)) rfl a b j
theorem zo(op:Int->Int->Int)(a b:List Int):pN (bU op a b):=by unfold bU;exact pQ _
theorem aq4{a b:List Int}(ha:pN a)(hb:pN b):(aak a b).length=0↔a=b:=by
 constructor
 ·intro h;refine akl ha hb fun j=>?_
  have h2:=abF a b j;have h3:(aak a b).getD j 0=0:=oq zE
  omega
 ·rintro rfl;have h2:∀j,(aak a a).getD j 0=([]:List Int).getD j 0:=fun j=>by
   rw[abF];show a.getD j 0 - a.getD j 0=0;omega
  have h3:aak a a=[]:=akl (zo _ a a) (.inl rfl) h2;rw[h3];rfl
theorem ant{l l':List Z2}{zs zs':List Int}{K K':Nat}(hM:MZ l zs K)(hM':MZ l' zs' K')(hl:l.length<=10000)(hl':l'.length<=10000)(hK:K+K'<=100000)(hn:pN zs)(hn':pN zs'):
  ah prog 208 [.r (aA 2 z2C l),.r (aA 2 z2C l')] (.v (.bool (decide (zs=zs')))):=by
 have c:=ajd hM hM' hl hl' hK;have hlen:((aak zs zs').map z2v).length=(aak zs zs').length:=zq5 _;rw[show decide (zs=zs')=decide ((aak zs zs').length=0)from decide_eq_decide.2 (aq4 hn hn').symm]
 refine ah.fq func208 results208 ntmps208 fun _ _ _ _ _=>?_
 refine zg ?_;refine bg ?_;rw[decide_eq_decide];omega
def aV(zs:List Int)(d:Int):List Int:=aS (zs.map (· *d))
theorem tu{l:List Z2}{q:Z2}{zs:List Int}{d:Int}{K K':Nat}(hM:MZ l zs K)(hd:ZQ q d K')(hl:l.length<=10000)(hK:K+K'<=100000):
  ah prog 93 [.r (aA 2 z2C l),.agg (z2A q)] (.r (aA 2 z2C ((aV zs d).map z2v))):=by
 have hlen:=hM.len;have et:zs.map (· *d)=xK l.length (fun i=>zs.getD i 0*d):=by
  unfold xK;apply zyb;intro j
  rw[zqa,zqa]
  by_cases hj:j < l.length
  ·rw[zvb hj,zyh zE]
   show some (zs[j]*d)=some (zs.getD j 0*d);rw[zx7,zyh zE];rfl
  ·rw[zqe zE,zqe (by rw[zy1];omega)];rfl
 have hb:∀i,(zs.getD i 0*d).natAbs < WB ^ (K+K'):=fun i=>by
  rw[zve,zw5];exact Nat.mul_lt_mul'' (hM.pat i).b hd.b
 have cN:ah prog 23 [.r (aQ 2 l.length (((List.range l.length).map fun i=>z2v (zs.getD i 0*d)).flatMap z2C))] (.r (aA 2 z2C ((aV zs d).map z2v))):=by
  have h:=jr (ato (n:=l.length) (f:=fun i=>zs.getD i 0*d) fun i _=>hb i) zE (by rw[zq5,zy1];omega)
  rw[wF (n:=l.length) (by rw[zq5,zy1])]at h
  unfold aV;rw[et];exact h
 refine ah.fq func93 results93 ntmps93 fun _ _ _ _ hB=>?_
 refine zg ?_;refine W.loop (fun k=>k<=l.length) (fun k=>[(3,.ptr 3 0),(5,.own 100),(11,.r (aA 2 z2C l)),(12,.v (.int .i64 (l.length:Int))),(13,.v (.int .i64 (k:Int)))]) (fun k=>[(3,.box 31 (z2A q)),(100,.row 31 2 l.length (((List.range l.length).map fun i=>if i < k then z2v (zs.getD i 0*d)else z2v 0).flatMap z2C))]) (fun k=>l.length - k) 0 (zq8 _) (fun k hk=>?_)
  (by
   refine St.aW [(100,some 10)] zt ?_ ?_ rfl
   ·exact yb
   ·exact⟨ay.same rfl rfl,ay.row rfl rfl rfl (aiO (f:=fun i=>z2v (zs.getD i 0*d))),trivial⟩)
 by_cases h:k < l.length
 ·obtain⟨q2,hq2⟩:∃q2,l[k]? =some q2:=⟨_,zyh h⟩
  obtain⟨z2,hz2⟩:∃z2,zs[k]? =some z2:=⟨_,zyh zE⟩
  have hg:zs.getD k 0=z2:=by rw[zx7,hz2];rfl
  have cM:=(ad4 (h:=(hM.z k q2 z2 hq2 hz2).zi) (h':=hd.zi)).h zE
  have e2:((List.range l.length).map fun i=>if i < k then z2v (zs.getD i 0*d)else z2v 0).length=l.length:=by rw[zq5,zy1]
  have e3:=alP (f:=fun i=>z2v (zs.getD i 0*d)) (z:=z2v 0) h
  rw[<-hg]at cM;refine zg ?_;refine SX.G.nk (a:=z2v (zs.getD k 0*d)) ?_;rw[e3];refine zg ?_;exact W.next (k+1) h zE
 ·obtain rfl:k=l.length:=zE
  rw[al4];refine WP.freeze 100 hB rfl ?_;refine zg ?_;exact uX rfl
end
section
theorem PrP.lt{p:Nat}(h:PrP p):2<=p/\p < 2147483648:=⟨h.1,h.2.1⟩
abbrev gfA(p:Nat):List Atom:=[.c (.val (.int .u64 (p:Int)))]
def eqL{α:Type}(p:α->α->Bool):List α->List α->Bool
 |[],[]=>true
 |a::l,b::l'=>p a b&&eqL p l l'
 |_,_=>false
theorem yF{α:Type}{p:α->α->Bool}:∀{l l':List α},l.length≠l'.length->eqL p l l'=false
 |[],[],h=>absurd rfl h
 |[],_::_,_=>rfl
 |_::_,[],_=>rfl
 |a::l,b::l',h=>by rw[eqL,yF (l:=l) (l':=l') (fun e=>h (by rw[zx6,zx6,e])),Bool.and_false]
theorem zL{α:Type}{p:α->α->Bool}{l l':List α}{k:Nat}{a b:α}(h:l[k]? =some a)(h':l'[k]? =some b):eqL p (l.drop k) (l'.drop k)=(p a b&&eqL p (l.drop (k+1)) (l'.drop (k+1))):=by
 obtain⟨h1,rfl⟩:=zxg.1 h
 obtain⟨h2,rfl⟩:=zxg.1 h'
 rw[zy4 h1,zy4 h2,eqL]
theorem yD{α:Type}{p:α->α->Bool}:∀{l l':List α},(∀a∈l,∀b∈l',p a b=true↔a=b)->(eqL p l l'=true↔l=l')
 |[],[],_=>by simp[eqL]
 |[],_::_,_=>by simp[eqL]
 |_::_,[],_=>by simp[eqL]
 |a::l,b::l',h=>by
  rw[eqL,zx4,h a (zq9 ..) b (zq9 ..),yD (l:=l) (l':=l') fun x hx y hy=>h x (zy2 _ hx) y (zy2 _ hy)]
  simp
attribute [local irreducible] IntKind.wrap Go1 Reg WP aO aR bM bK aN aD aj ak aX Sat
attribute [local irreducible] bO bX bV cK bW qv dH mf PrP qOk zOk vP dP lz vF cq rqv dX aS
theorem wo{p:Nat}(h:PrP p):ah prog 61 [.v (.int .u64 (p:Int))] (.tup [.agg (gfA p),.one (.c (.val (.bool true)))]):=by
 have hp:=h.lt;have c:=xM p zE
 rw[decide_eq_true h]at c;refine ah.fq func61 results61 ntmps61 fun _ _ _ _ _=>?_
 refine zg ?_;exact .ok (aD.mk2 aj.apK (aj.tmp rfl))
theorem sQ{p:Nat}(h:PrP p):ah prog 113 [.agg (gfA p)] (.v (.int .u64 (p:Int))):=by
 have hp:=h.lt;refine ah.fq func113 results113 ntmps113 fun _ _ _ _ _=>?_
 refine zg ?_;exact fC rfl
theorem fP{p:Nat}(h:PrP p)(x:Nat)(hx:x < 18446744073709551616):ah prog 115 [.agg (gfA p),.v (.int .u64 (x:Int))] (.v (.int .u64 ((x % p:Nat):Int))):=by
 have hp:=h.lt;have c:=sQ h;have hr:IntKind.u64.wrap ((x:Int).tmod (p:Int))=((x % p:Nat):Int):=by rw[nu];exact wrapN (zxb (Nat.mod_le x p) hx)
 refine ah.fq func115 results115 ntmps115 fun _ _ _ _ _=>?_
 refine zg ?_;exact fC rfl
theorem ape(v:Vl)(h:PrP v.p):ah prog 210 [.agg (vlA v)] (.agg (gfA v.p)):=by
 have c:=wo h;refine ah.fq func210 results210 ntmps210 fun _ _ _ _ _=>?_
 refine zg ?_;exact nM aj.apK rfl
abbrev fmA(r c:Nat)(l:List Nat):List Atom:=[.c (.val (.int .i64 (r:Int))),.c (.val (.int .i64 (c:Int))),.c (.sat (aA 1 wdC l))]
theorem aqc{r c:Nat}{l:List Nat}(hl:l.length=r*c)(hr:r<=64)(hc:c<=64):ah prog 223 [.agg (fmA r c l)] (.v (.bool true)):=by
 have h:ah prog 223 [.agg (fmA r c l)] (.v (.bool (dP r c l.length))):=aaU r c;rw[adY hr hc hl]at h;exact h
theorem akH{r c r' c':Nat}{l l':List Nat}(hl:l.length=r*c)(hl':l'.length=r'*c')(hr:r<=64)(hc:c<=64)(hr':r'<=64)(hc':c'<=64):
  ah prog 308 [.agg (fmA r c l),.agg (fmA r' c' l')] (.v (.bool (decide (r=r'/\c=c')))):=by
 have cF:=aqc hl hr hc;have cF':=aqc hl' hr' hc';refine ah.fq func308 results308 ntmps308 fun _ _ _ _ _=>?_
 by_cases h1:(r:Int)=(r':Int)
 ·refine zg ?_;refine bg ?_;rw[decide_eq_decide];omega
 ·refine zg ?_;refine bg ?_;exact(decide_eq_false fun h=>h1 zE).symm
theorem apS(l l':List kS)(x:CA)(p:kS->kS->Bool)(hx:∀v∈l,∀u∈l',FnV prog x [.agg (q4A (rq v)),.agg (q4A (rq u))] (.v (.bool (p v u))))(hl:l.length<=100000)(hl':l'.length<=100000)(hx1:x.eY=true):
  ah prog 306 [.r (aA 4 q4C (l.map rq)),.r (aA 4 q4C (l'.map rq)),.it (.one (.c x))] (.v (.bool (eqL p l l'))):=by
 have e1:(l.map rq).length=l.length:=zq5 _;have e2:(l'.map rq).length=l'.length:=zq5 _;refine ah.fq func306 results306 ntmps306 fun _ _ _ _ _=>?_
 by_cases hne:l.length=l'.length
 rotate_left
 ·rw[yF hne];refine zg ?_;exact bg rfl
 refine zg ?_;refine W.loop (fun k=>k<=l.length/\eqL p (l.drop k) (l'.drop k)=eqL p l l') (fun k=>[(1,.r (aA 4 q4C (l'.map rq))),(2,.it (.one (.c x))),(15,.r (aA 4 q4C (l.map rq))),(16,.v (.int .i64 ((l.map rq).length:Int))),(17,.v (.int .i64 (k:Int)))]) (fun _=>[]) (fun k=>l.length - k) 0 ⟨zq8 _,rfl⟩ (fun k ⟨hk,he⟩=>?_)
 by_cases h:k < l.length
 ·obtain⟨a,ha⟩:∃a,l[k]? =some a:=⟨_,zyh h⟩
  obtain⟨b,hb⟩:∃b,l'[k]? =some b:=⟨_,zyh zE⟩
  have hf:=hx a (zq4 ha) b (zq4 hb);have hq:(l.map rq)[k]? =some (rq a):=by rw[zqa,ha];rfl
  have hq':(l'.map rq)[k]? =some (rq b):=by rw[zqa,hb];rfl
  have h1:k < (l.map rq).length:=by rw[zq5];exact h
  have h2:k < (l'.map rq).length:=by rw[zq5];omega
  rw[zL ha hb]at he;cases hp:p a b with
  |false=>
   rw[hp]at hf he;refine zg ?_;refine bg ?_;rw[<-he];rfl
  |true=>
   rw[hp]at hf he;refine zg ?_;exact W.next (k+1) ⟨h,he⟩ zE
 ·obtain rfl:k=l.length:=zE
  rw[zvh,hne,zvh]at he;refine zg ?_;refine bg ?_;rw[<-he];rfl
theorem anI(l l':List kS)(f:FuncId)(p:kS->kS->Bool)(hx:∀v∈l,∀u∈l',ah prog f [.agg (q4A (rq v)),.agg (q4A (rq u))] (.v (.bool (p v u))))(hl:l.length<=100000)(hl':l'.length<=100000):
  ah prog 306 [.r (aA 4 q4C (l.map rq)),.r (aA 4 q4C (l'.map rq)),.it (.one (.clo f []))] (.v (.bool (eqL p l l'))):=
 yP (apS l l' (.sat (fJ f [] [])) p (fun v h u h'=>FnV.const (hx v h u h')) hl hl' rfl)
theorem ar5(l l':List Nat)(x:CA)(p:Nat->Nat->Bool)(hx:∀v∈l,∀u∈l',FnV prog x [.v (.int .u64 (v:Int)),.v (.int .u64 (u:Int))] (.v (.bool (p v u))))(hl:l.length<=100000)(hl':l'.length<=100000)(hx1:x.eY=true):
  ah prog 309 [.r (aA 1 wdC l),.r (aA 1 wdC l'),.it (.one (.c x))] (.v (.bool (eqL p l l'))):=by
 refine ah.fq func309 results309 ntmps309 fun _ _ _ _ _=>?_
 by_cases hne:l.length=l'.length
 rotate_left
 ·rw[yF hne];refine zg ?_;exact bg rfl
 refine zg ?_;refine W.loop (fun k=>k<=l.length/\eqL p (l.drop k) (l'.drop k)=eqL p l l') (fun k=>[(1,.r (aA 1 wdC l')),(2,.it (.one (.c x))),(15,.r (aA 1 wdC l)),(16,.v (.int .i64 (l.length:Int))),(17,.v (.int .i64 (k:Int)))]) (fun _=>[]) (fun k=>l.length - k) 0 ⟨zq8 _,rfl⟩ (fun k ⟨hk,he⟩=>?_)
 by_cases h:k < l.length
 ·obtain⟨a,ha⟩:∃a,l[k]? =some a:=⟨_,zyh h⟩
  obtain⟨b,hb⟩:∃b,l'[k]? =some b:=⟨_,zyh zE⟩
  have hf:=hx a (zq4 ha) b (zq4 hb);rw[zL ha hb]at he;cases hp:p a b with
  |false=>
   rw[hp]at hf he;refine zg ?_;refine bg ?_;rw[<-he];rfl
  |true=>
   rw[hp]at hf he;refine zg ?_;exact W.next (k+1) ⟨h,he⟩ zE
 ·obtain rfl:k=l.length:=zE
  rw[zvh,hne,zvh]at he;refine zg ?_;refine bg ?_;rw[<-he];rfl
theorem aql(l l':List Vl)(x:CA)(p:Vl->Vl->Bool)(hx:∀v∈l,∀u∈l',FnV prog x [.agg (vlA v),.agg (vlA u)] (.v (.bool (p v u))))(hl:l.length<=100000)(hl':l'.length<=100000)(hx1:x.eY=true):
  ah prog 212 [.r (aA 15 vlC l),.r (aA 15 vlC l'),.it (.one (.c x))] (.v (.bool (eqL p l l'))):=by
 rw[vX,vX];refine ah.fq func212 results212 ntmps212 fun _ _ _ _ _=>?_
 by_cases hne:l.length=l'.length
 rotate_left
 ·rw[yF hne];refine zg ?_;exact bg rfl
 refine zg ?_;refine W.loop (fun k=>k<=l.length/\eqL p (l.drop k) (l'.drop k)=eqL p l l') (fun k=>[(1,.r (aA 15 vlE l')),(2,.it (.one (.c x))),(15,.r (aA 15 vlE l)),(16,.v (.int .i64 (l.length:Int))),(17,.v (.int .i64 (k:Int)))]) (fun _=>[]) (fun k=>l.length - k) 0 ⟨zq8 _,rfl⟩ (fun k ⟨hk,he⟩=>?_)
 by_cases h:k < l.length
 ·obtain⟨a,ha⟩:∃a,l[k]? =some a:=⟨_,zyh h⟩
  obtain⟨b,hb⟩:∃b,l'[k]? =some b:=⟨_,zyh zE⟩
  have hf:=hx a (zq4 ha) b (zq4 hb);rw[zL ha hb]at he;cases hp:p a b with
  |false=>
   rw[hp]at hf he;refine zg ?_;refine bg ?_;rw[<-he];rfl
  |true=>
   rw[hp]at hf he;refine zg ?_;exact W.next (k+1) ⟨h,he⟩ zE
 ·obtain rfl:k=l.length:=zE
  rw[zvh,hne,zvh]at he;refine zg ?_;refine bg ?_;rw[<-he];rfl
theorem aoU(l l':List Vl)(f:FuncId)(p:Vl->Vl->Bool)(hx:∀v∈l,∀u∈l',ah prog f [.agg (vlA v),.agg (vlA u)] (.v (.bool (p v u))))(hl:l.length<=100000)(hl':l'.length<=100000):
  ah prog 212 [.r (aA 15 vlC l),.r (aA 15 vlC l'),.it (.one (.clo f []))] (.v (.bool (eqL p l l'))):=
 yP (aql l l' (.sat (fJ f [] [])) p (fun v h u h'=>FnV.const (hx v h u h')) hl hl' rfl)
theorem aj5(l l':List Nat)(hl:l.length<=100000)(hl':l'.length<=100000):ah prog 211 [.r (aA 1 wdC l),.r (aA 1 wdC l')] (.v (.bool (decide (l=l')))):=by
 have e:decide (l=l')=eqL (fun a b=>decide (a=b)) l l':=by
  rw[zyc,decide_eq_true_iff];exact(yD fun a _ b _=>by rw[decide_eq_true_iff]).symm
 rw[e];refine ah.fq func211 results211 ntmps211 fun _ _ _ _ _=>?_
 by_cases hne:l.length=l'.length
 rotate_left
 ·rw[yF hne];refine zg ?_;exact bg rfl
 refine zg ?_;refine W.loop (fun k=>k<=l.length/\eqL (fun a b=>decide (a=b)) (l.drop k) (l'.drop k)=eqL (fun a b=>decide (a=b)) l l') (fun k=>[(0,.r (aA 1 wdC l)),(1,.r (aA 1 wdC l')),(12,.v (.int .i64 (l.length:Int))),(13,.v (.int .i64 (k:Int)))]) (fun _=>[]) (fun k=>l.length - k) 0 ⟨zq8 _,rfl⟩ (fun k ⟨hk,he⟩=>?_)
 by_cases h:k < l.length
 ·obtain⟨a,ha⟩:∃a,l[k]? =some a:=⟨_,zyh h⟩
  obtain⟨b,hb⟩:∃b,l'[k]? =some b:=⟨_,zyh zE⟩
  rw[zL ha hb]at he;by_cases hab:a=b
  ·have hab':(a:Int)=(b:Int):=zE
   rw[decide_eq_true hab]at he;refine zg ?_;exact W.next (k+1) ⟨h,he⟩ zE
  ·have hab':¬(a:Int)=(b:Int):=zE
   rw[decide_eq_false hab]at he;refine zg ?_;refine bg ?_;rw[<-he];rfl
 ·obtain rfl:k=l.length:=zE
  rw[zvh,hne,zvh]at he;refine zg ?_;refine bg ?_;rw[<-he];rfl
theorem aj7{p:Nat}(h:PrP p)(x y:Nat)(hx:x < p)(hy:y < p):ah prog 310 [.v (.int .u64 (x:Int)),.v (.int .u64 (y:Int)),.r (dK [.val (.int .u64 (p:Int))])] (.v (.bool (decide (x=y)))):=by
 have hp:=h.lt;have c1:=fP h x zE
 have c2:=fP h y zE
 rw[zw4 hx]at c1;rw[zw4 hy]at c2;refine ah.fq func310 results310 ntmps310 fun _ _ _ _ _=>?_
 refine zg ?_;refine bg ?_;rw[decide_eq_decide];omega
theorem aoR{p r c r' c':Nat}{l l':List Nat}(h:PrP p)(hl:l.length=r*c)(hl':l'.length=r'*c')(hr:r<=64)(hc:c<=64)(hr':r'<=64)(hc':c'<=64)(hb:∀x∈l,x < p)(hb':∀x∈l',x < p):
  ah prog 209 [.agg (gfA p),.agg (fmA r c l),.agg (fmA r' c' l')] (.v (.bool (decide (r=r'/\c=c'/\l=l')))):=by
 have cA:=akH hl hl' hr hc hr' hc';have m1:=zxd hr hc;have m2:=zxd hr' hc';have cE:=ar5 l l' (.sat (fJ 310 [] [.sat (dK [.val (.int .u64 (p:Int))])])) (fun x y=>decide (x=y)) (fun x hx y hy=>FnV.clo (aj7 h x y (hb x hx) (hb' y hy))) zE zE rfl
 rw[show eqL (fun x y=>decide (x=y)) l l'=decide (l=l')by
  rw[zyc,decide_eq_true_iff];exact yD fun a _ b _=>by rw[decide_eq_true_iff]]at cE
 refine ah.fq func209 results209 ntmps209 fun _ _ _ _ hB=>?_
 refine zg ?_;refine WP.jP 3 hB rfl rfl ?_;refine WP.aI ?_;by_cases h1:r=r'/\c=c'
 ·rw[decide_eq_true h1]at cA;refine zg ?_;refine bg ?_;rw[decide_eq_decide];exact⟨fun h=>⟨h1.1,h1.2,h⟩,fun h=>h.2.2⟩
 ·rw[decide_eq_false h1]at cA;refine zg ?_;refine bg ?_;exact(decide_eq_false fun h=>h1 ⟨h.1,h.2.1⟩).symm
end
section
def wN(l:List Nat):Prop:=l.length=0\/l.getD (l.length - 1) 0≠0
inductive Sh(K:Nat):Vl->Prop
 |num (x:Rat) (h:RB x K):Sh K (iR x)
 |mat (r c:Nat) (vs:List Rat) (hl:vs.length=r*c) (hr:r<=64) (hc:c<=64) (h:∀v∈vs,RB v K):Sh K (iC r c vs)
 |pol (zs:List Int) (hl:zs.length<=10000) (hn:pN zs) (h:∀z∈zs,z.natAbs < WB ^ K):Sh K (bQ zs)
 |fld (p r c:Nat) (l:List Nat) (hp:PrP p) (hl:l.length=r*c) (hr:r<=64) (hc:c<=64) (h:∀x∈l,x < p):Sh K (pR p r c l)
 |rng (p:Nat) (l:List Nat) (hp:PrP p) (hl:l.length<=10000) (hn:wN l) (h:∀x∈l,x < p):Sh K (aT p l)
inductive Cv(K:Nat):Nat->Vl->Prop
 |one {n:Nat} {v:Vl} (h:Sh K v):Cv K n v
 |lst {n:Nat} (l:List Vl) (hl:l.length<=10000) (h:∀x∈l,Cv K n x):Cv K (n+1) (nN l)
noncomputable def kP(u v:Vl):Bool:= @decide (u=v) (Classical.propDecidable _)
theorem qY{u v:Vl}:kP u v=true↔u=v:=by unfold kP;exact @decide_eq_true_iff _ (Classical.propDecidable _)
theorem asy{u v:Vl}(h:u≠v):kP u v=false:=Bool.eq_false_iff.2 fun e=>h (qY.1 e)
theorem ajF(u:Vl):kP u u=true:=qY.2 rfl
theorem vk{u v:Vl}{p:Prop}[Decidable p](h:u=v↔p):kP u v=decide p:=by
 rw[zyc,qY,decide_eq_true_iff];exact h
theorem afJ{x y:Rat}(h:cq x=cq y):x=y:=by rw[<-kV x,h,kV]
theorem awW{x y:Int}(h:cz x=cz y):x=y:=by rw[<-sN x,h,sN]
theorem map_inj{α β:Type}{f:α->β}(hf:∀{x y},f x=f y->x=y):∀{l l':List α},l.map f=l'.map f->l=l'
 |[],[],_=>rfl
 |a::l,b::l',h=>by
  rw[zy6,zy6]at h
  injection h with h1 h2
  rw[hf h1,map_inj hf h2]
theorem asf{x y:Rat}:iR x=iR y↔x=y:=⟨fun h=>by injection h with _ h;exact afJ h,fun h=>by rw[h]⟩
theorem arR{r c r' c':Nat}{vs vs':List Rat}:iC r c vs=iC r' c' vs'↔r=r'/\c=c'/\vs=vs':=by
 constructor
 ·intro h
  injection h with _ _ h1 h2 h3
  exact⟨zE,zE,map_inj afJ h3⟩
 ·rintro⟨rfl,rfl,rfl⟩;rfl
theorem arN{a b:List Int}:bQ a=bQ b↔a=b:=⟨fun h=>by injection h with _ _ _ _ _ h;exact map_inj awW h,fun h=>by rw[h]⟩
theorem arq{p r c p' r' c':Nat}{l l':List Nat}:pR p r c l=pR p' r' c' l'↔p=p'/\r=r'/\c=c'/\l=l':=by
 constructor
 ·intro h
  injection h with _ _ _ _ _ _ h1 h2 h3 h4
  exact⟨h1,zE,zE,h4⟩
 ·rintro⟨rfl,rfl,rfl,rfl⟩;rfl
theorem asT{p p':Nat}{l l':List Nat}:aT p l=aT p' l'↔p=p'/\l=l':=by
 constructor
 ·intro h
  injection h with _ _ _ _ _ _ h1 _ _ _ h2
  exact⟨h1,h2⟩
 ·rintro⟨rfl,rfl⟩;rfl
theorem apC{l l':List Vl}:nN l=nN l'↔l=l':=⟨fun h=>by injection h,fun h=>by rw[h]⟩
theorem MZ.ofz{zs:List Int}{K:Nat}(h:∀z∈zs,z.natAbs < WB ^ K):MZ ((zs.map cz).map rz) zs K:=by
 have:=MZ.raw (l:=zs.map cz) (K:=K) (fun a ha=>by obtain⟨z,_,rfl⟩:=zqg.1 ha;exact aqG z) (fun a ha=>by obtain⟨z,hz,rfl⟩:=zqg.1 ha;exact qD (h z hz))
 rwa [atN]at this
attribute [local irreducible] IntKind.wrap Go1 Reg WP aO aR bM bK aN aD aj ak aX Sat
attribute [local irreducible] bO bX bV cK bW qv dH mf PrP qOk zOk vP dP lz vF cq rqv dX aS
theorem avw{x y:Rat}{K L:Nat}(hx:RB x K)(hy:RB y L)(hK:K+L<=400000):ah prog 307 [.agg (q4A (rq (cq x))),.agg (q4A (rq (cq y)))] (.v (.bool (decide (rqv (cq x)=rqv (cq y))))):=by
 rw[kV,kV]
 haveI:=Ra.cq hx
 haveI:=Ra.cq hy
 obtain⟨z,cA,hz,_⟩:=eCmp (q4A (rq (cq x))) (q4A (rq (cq y))) (K:=K) (K':=L) zE
 rw[<-decide_eq_decide.2 hz];refine ah.fq func307 results307 ntmps307 fun _ _ _ _ _=>?_
 refine zg ?_;exact bg rfl
theorem aij{r c r' c':Nat}{vs vs':List Rat}{K L:Nat}(hv:∀v∈vs,RB v K)(hv':∀v∈vs',RB v L)(hK:K+L<=400000)(hl:vs.length=r*c)(hl':vs'.length=r'*c')(hr:r<=64)(hc:c<=64)(hr':r'<=64)(hc':c'<=64):
  ah prog 207 [.agg (zH r c ((vs.map cq).map rq)),.agg (zH r' c' ((vs'.map cq).map rq))] (.v (.bool (decide (r=r'/\c=c'/\vs=vs')))):=by
 have m1:=zxd hr hc;have m2:=zxd hr' hc';have k1:(vs.map cq).length=vs.length:=zq5 _;have k2:(vs'.map cq).length=vs'.length:=zq5 _;have cA:=aoW (l:=(vs.map cq).map rq) (l':=(vs'.map cq).map rq) (by rw[zq5,zq5];exact hl) (by rw[zq5,zq5];exact hl') hr hc hr' hc' (decide (r=r'/\c=c')) decide_eq_true_iff
 have cE:=anI (vs.map cq) (vs'.map cq) 307 (fun a b=>decide (rqv a=rqv b)) (fun a ha b hb=>by
  obtain⟨x,hx,rfl⟩:=zqg.1 ha;obtain⟨y,hy,rfl⟩:=zqg.1 hb;exact avw (hv x hx) (hv' y hy) hK) zE zE
 have e:eqL (fun a b=>decide (rqv a=rqv b)) (vs.map cq) (vs'.map cq)=decide (vs=vs'):=by
  rw[zyc,decide_eq_true_iff,yD (fun a ha b hb=>by
   obtain⟨x,hx,rfl⟩:=zqg.1 ha;obtain⟨y,hy,rfl⟩:=zqg.1 hb;rw[decide_eq_true_iff,kV,kV];exact⟨fun h=>by rw[h],afJ⟩)]
  exact⟨map_inj afJ,fun h=>by rw[h]⟩
 rw[e]at cE;refine ah.fq func207 results207 ntmps207 fun _ _ _ _ _=>?_
 by_cases h1:r=r'/\c=c'
 ·rw[decide_eq_true h1]at cA;refine zg ?_;refine bg ?_;rw[decide_eq_decide];exact⟨fun h=>⟨h1.1,h1.2,h⟩,fun h=>h.2.2⟩
 ·rw[decide_eq_false h1]at cA;refine zg ?_;refine bg ?_;exact(decide_eq_false fun h=>h1 ⟨h.1,h.2.1⟩).symm
theorem wJ(u v:Vl)(h:u.k≠v.k\/u.p≠v.p):ah prog 110 [.agg (vlA u),.agg (vlA v)] (.v (.bool (kP u v))):=by
 rw[asy (by rintro rfl;exact h.elim (fun h=>h rfl) fun h=>h rfl)]
 refine ah.fq func110 results110 ntmps110 fun _ _ _ _ _=>?_
 by_cases h1:u.k=v.k
 ·have h2:¬(u.p:Int)=(v.p:Int):=zE
  refine zg ?_;exact bg rfl
 ·refine zg ?_;exact bg rfl
section
variable{K L:Nat}(hKL:K+L<=100000)
include hKL
theorem aob{r c r' c':Nat}{vs vs':List Rat}(hv:∀v∈vs,RB v K)(hv':∀v∈vs',RB v L)(hl:vs.length=r*c)(hl':vs'.length=r'*c')(hr:r<=64)(hc:c<=64)(hr':r'<=64)(hc':c'<=64):
  ah prog 110 [.agg (vlA (iC r c vs)),.agg (vlA (iC r' c' vs'))] (.v (.bool (kP (iC r c vs) (iC r' c' vs')))):=by
 have c1:=aij hv hv' zE hl hl' hr hc hr' hc'
 rw[vk arR];refine ah.fq func110 results110 ntmps110 fun _ _ _ _ _=>?_
 refine zg ?_;exact bg rfl
theorem apm{a b:List Int}(hl:a.length<=10000)(hn:pN a)(h:∀z∈a,z.natAbs < WB ^ K)(hl':b.length<=10000)(hn':pN b)(h':∀z∈b,z.natAbs < WB ^ L):
  ah prog 110 [.agg (vlA (bQ a)),.agg (vlA (bQ b))] (.v (.bool (kP (bQ a) (bQ b)))):=by
 have c1:=ant (MZ.ofz h) (MZ.ofz h') (by rw[zq5,zq5];exact hl) (by rw[zq5,zq5];exact hl') hKL hn hn'
 rw[vk arN];refine ah.fq func110 results110 ntmps110 fun _ _ _ _ _=>?_
 refine zg ?_;exact bg rfl
omit hKL in
theorem aoO{p r c r' c':Nat}{l l':List Nat}(hp:PrP p)(hl:l.length=r*c)(hr:r<=64)(hc:c<=64)(h:∀x∈l,x < p)(hl':l'.length=r'*c')(hr':r'<=64)(hc':c'<=64)(h':∀x∈l',x < p):
  ah prog 110 [.agg (vlA (pR p r c l)),.agg (vlA (pR p r' c' l'))] (.v (.bool (kP (pR p r c l) (pR p r' c' l')))):=by
 have cf:=ape (pR p r c l) hp;have c1:=aoR hp hl hl' hr hc hr' hc' h h';have e:((pR p r c l).p:Int)=((pR p r' c' l').p:Int):=rfl;rw[vk (p:=r=r'/\c=c'/\l=l') (arq.trans ⟨fun h=>h.2,fun h=>⟨rfl,h⟩⟩)]
 refine ah.fq func110 results110 ntmps110 fun _ _ _ _ _=>?_
 refine zg ?_;exact bg rfl
omit hKL in
theorem aox{p:Nat}{l l':List Nat}(hl:l.length<=10000)(hl':l'.length<=10000):
  ah prog 110 [.agg (vlA (aT p l)),.agg (vlA (aT p l'))] (.v (.bool (kP (aT p l) (aT p l')))):=by
 have c1:=aj5 l l' zE zE
 have e:((aT p l).p:Int)=((aT p l').p:Int):=rfl;rw[vk (p:=l=l') (asT.trans ⟨fun h=>h.2,fun h=>⟨rfl,h⟩⟩)]
 refine ah.fq func110 results110 ntmps110 fun _ _ _ _ _=>?_
 refine zg ?_;exact bg rfl
omit hKL in
theorem an0{l l':List Vl}(hl:l.length<=10000)(hl':l'.length<=10000)(h:∀x∈l,∀y∈l',ah prog 110 [.agg (vlA x),.agg (vlA y)] (.v (.bool (kP x y)))):
  ah prog 110 [.agg (vlA (nN l)),.agg (vlA (nN l'))] (.v (.bool (kP (nN l) (nN l')))):=by
 have c1:=aoU l l' 110 kP h zE zE
 rw[show eqL kP l l'=kP (nN l) (nN l')by
  rw[zyc,qY,apC];exact yD fun a _ b _=>qY]at c1
 refine ah.fq func110 results110 ntmps110 fun _ _ _ _ _=>?_
 refine zg ?_;exact bg rfl
theorem adA{u v:Vl}(hu:Sh K u)(hv:Sh L v):ah prog 110 [.agg (vlA u),.agg (vlA v)] (.v (.bool (kP u v))):=by
 by_cases hk:u.k=v.k/\u.p=v.p
 ·cases hu with
  |num x h=>cases hv with
   |num y h'=>
    rw[vk asf];exact ajp h h' zE
   |_=>exact absurd hk.1 zp
  |mat r c vs hl hr hc h=>cases hv with
   |mat r' c' vs' hl' hr' hc' h'=>exact aob hKL h h' hl hl' hr hc hr' hc'
   |_=>exact absurd hk.1 zp
  |pol zs hl hn h=>cases hv with
   |pol zs' hl' hn' h'=>exact apm hKL hl hn h hl' hn' h'
   |_=>exact absurd hk.1 zp
  |fld p r c l hp hl hr hc h=>cases hv with
   |fld p' r' c' l' hp' hl' hr' hc' h'=>
    obtain rfl:p=p':=hk.2;exact aoO hp hl hr hc h hl' hr' hc' h'
   |_=>exact absurd hk.1 zp
  |rng p l hp hl hn h=>cases hv with
   |rng p' l' hp' hl' hn' h'=>
    obtain rfl:p=p':=hk.2;exact aox hl hl'
   |_=>exact absurd hk.1 zp
 ·exact wJ u v zE
theorem ap4:∀(n m:Nat) (u v:Vl),Cv K n u->Cv L m v->ah prog 110 [.agg (vlA u),.agg (vlA v)] (.v (.bool (kP u v))):=by
 intro n
 induction n with
 |zero=>
  intro m u v hu hv;cases hu with
  |one hu=>cases hv with
   |one hv=>exact adA hKL hu hv
   |lst l hl h=>exact wJ u _ (by cases hu <;> exact .inl zp)
 |succ n ih=>
  intro m u v hu hv;cases hu with
  |one hu=>cases hv with
   |one hv=>exact adA hKL hu hv
   |lst l hl h=>exact wJ u _ (by cases hu <;> exact .inl zp)
  |lst l hl h=>cases hv with
   |one hv=>exact wJ _ v (by cases hv <;> exact .inl zp)
   |lst l' hl' h'=>exact an0 hl hl' fun x hx y hy=>ih _ x y (h x hx) (h' y hy)
end
end
section
theorem axl(z:Int):zOk (cz z)=true:=(ag1 (aqG z)).2 (by rw[sN])
theorem axy{zs:List Int}:lz (zs.map cz)=true↔pN zs:=by
 unfold lz pN;rw[Bool.or_eq_true,decide_eq_true_iff,decide_eq_true_iff,zq5];by_cases h:zs.length=0
 ·exact⟨fun _=> .inl h,fun _=> .inl h⟩
 ·have e:rzv ((zs.map cz).getD (zs.length - 1) (false,[]))=zs.getD (zs.length - 1) 0:=by
   rw[zx7,zx7,zqa,zyh (show zs.length - 1 < zs.length by omega)]
   exact sN _
  rw[e]
theorem ayC{l:List Nat}:lw l=true↔wN l:=by
 unfold lw wN;rw[Bool.or_eq_true,decide_eq_true_iff,decide_eq_true_iff]
theorem alf{p:Nat}{l:List Nat}:l.all (ltp p)=true↔∀x∈l,x < p:=by
 rw[zqh];exact⟨fun h x hx=>of_decide_eq_true (h x hx),fun h x hx=>decide_eq_true (h x hx)⟩
theorem ay3(zs:List Int):vP (bQ zs)=0:=(vP0 _).2 ⟨.inr ⟨rfl,rfl,rfl,rfl⟩,.inr ⟨rfl,rfl,rfl⟩,.inl rfl,.inr ⟨rfl,rfl,rfl⟩,.inr rfl,.inr (.inr rfl),.inr rfl⟩
theorem axY(p r c:Nat)(l:List Nat):vP (pR p r c l)=0:=(vP0 _).2 ⟨.inr ⟨rfl,rfl,rfl,rfl⟩,.inr ⟨rfl,rfl,rfl⟩,.inr rfl,.inl rfl,.inr rfl,.inl rfl,.inr rfl⟩
theorem ayp(p:Nat)(l:List Nat):vP (aT p l)=0:=(vP0 _).2 ⟨.inr ⟨rfl,rfl,rfl,rfl⟩,.inr ⟨rfl,rfl,rfl⟩,.inr rfl,.inr ⟨rfl,rfl,rfl⟩,.inl rfl,.inr (.inl rfl),.inr rfl⟩
theorem ayw(l:List Vl):vP (nN l)=0:=(vP0 _).2 ⟨.inr ⟨rfl,rfl,rfl,rfl⟩,.inr ⟨rfl,rfl,rfl⟩,.inr rfl,.inr ⟨rfl,rfl,rfl⟩,.inr rfl,.inr (.inr rfl),.inl rfl⟩
theorem afF:(Sm WB rq0.2.1/\Sm WB rq0.2.2.2)/\rq0.2.1.length<=100000/\rq0.2.2.2.length<=100000:=⟨⟨Sm.nil,Sm.nil⟩,zq8 _,zq8 _⟩
theorem lG{α:Type}{p:α->Prop}:∀x∈([]:List α),p x:=fun x hx=>by cases hx
theorem avg{zs:List Int}{K:Nat}(h:∀z∈zs,z.natAbs < WB ^ K)(hK:K<=100000)(hl:zs.length<=100000):vZ0 (bQ zs) where
 q:=afF
 a:=lG
 al:=zq8 _
 po:=fun x hx=>by obtain⟨z,hz,rfl⟩:=zqg.1 hx;exact⟨aqG z,zxf (qD (h z hz)) hK⟩
 pol:=by rw[zq5];exact hl
 p:=aZ
 fa:=lG
 fal:=zq8 _
 ri:=lG
 ril:=zq8 _
 lil:=zq8 _
theorem PrP.wb{p:Nat}(h:PrP p):p < WB:=by have:=h.2.1;rw[bJ];omega
theorem au2{p r c:Nat}{l:List Nat}(hp:PrP p)(h:∀x∈l,x < p)(hl:l.length<=100000):vZ0 (pR p r c l) where
 q:=afF
 a:=lG
 al:=zq8 _
 po:=lG
 pol:=zq8 _
 p:=hp.wb
 fa:=fun x hx=>Nat.lt_trans (h x hx) hp.wb
 fal:=hl
 ri:=lG
 ril:=zq8 _
 lil:=zq8 _
theorem av9{p:Nat}{l:List Nat}(hp:PrP p)(h:∀x∈l,x < p)(hl:l.length<=100000):vZ0 (aT p l) where
 q:=afF
 a:=lG
 al:=zq8 _
 po:=lG
 pol:=zq8 _
 p:=hp.wb
 fa:=lG
 fal:=zq8 _
 ri:=fun x hx=>Nat.lt_trans (h x hx) hp.wb
 ril:=hl
 lil:=zq8 _
theorem avm{l:List Vl}(hl:l.length<=100000):vZ0 (nN l) where
 q:=afF
 a:=lG
 al:=zq8 _
 po:=lG
 pol:=zq8 _
 p:=aZ
 fa:=lG
 fal:=zq8 _
 ri:=lG
 ril:=zq8 _
 lil:=hl
theorem Sh.z{K:Nat}{v:Vl}(h:Sh K v)(hK:K<=100000):vZ0 v/\v.li=[]:=by
 cases h with
 |num x h=>exact⟨vZ0.num h hK,rfl⟩
 |mat r c vs hl hr hc h=>exact⟨vZ0.mat h hK (by have:=zxd hr hc;omega),rfl⟩
 |pol zs hl hn h=>exact⟨avg h hK zE,rfl⟩
 |fld p r c l hp hl hr hc h=>exact⟨au2 hp h (by have:=zxd hr hc;omega),rfl⟩
 |rng p l hp hl hn h=>exact⟨av9 hp h zE,rfl⟩
theorem Sh.f{K:Nat}{v:Vl}(h:Sh K v)(d:Nat):vF d v=true:=by
 cases h with
 |num x h=>exact ars d x
 |mat r c vs hl hr hc h=>exact awZ d hl hr hc
 |pol zs hl hn h=>
  rw[vF_3 (ay3 zs) rfl];unfold pOk;rw[zx4];exact⟨zqh.2 fun x hx=>by obtain⟨z,_,rfl⟩:=zqg.1 hx;exact axl z,axy.2 hn⟩
 |fld p r c l hp hl hr hc h=>
  rw[vF_4 (axY p r c l) rfl];unfold fOk;rw[zx4,zx4];exact⟨decide_eq_true hp,alf.2 h,adY hr hc hl⟩
 |rng p l hp hl hn h=>
  rw[vF_5 (ayp p l) rfl];unfold rOk;rw[zx4,zx4];exact⟨decide_eq_true hp,alf.2 h,ayC.2 hn⟩
theorem Sh.zz{K:Nat}{v:Vl}(h:Sh K v)(hK:K<=100000):∀n,vZ n v
 |0=>h.z hK
 |n+1=>⟨(h.z hK).1,by rw[(h.z hK).2];exact lG⟩
theorem Cv.z{K:Nat}(hK:K<=100000):∀{n:Nat} {v:Vl},Cv K n v->vZ n v:=by
 intro n
 induction n with
 |zero=>
  intro v h;cases h with
  |one h=>exact h.zz hK 0
 |succ n ih=>
  intro v h;cases h with
  |one h=>exact h.zz hK _
  |lst l hl h=>exact⟨avm zE,fun x hx=>ih (h x hx)⟩
theorem Cv.f{K:Nat}:∀{n:Nat} {v:Vl},Cv K n v->∀d,n < d->vF d v=true:=by
 intro n
 induction n with
 |zero=>
  intro v h d hd;cases h with
  |one h=>exact h.f d
 |succ n ih=>
  intro v h d hd;cases h with
  |one h=>exact h.f d
  |lst l hl h=>
   obtain⟨e,rfl⟩:∃e,d=e+1:=⟨d - 1,zE⟩
   rw[vF_6 (ayw l) rfl];exact zqh.2 fun x hx=>ih (h x hx) e zE
attribute [local irreducible] IntKind.wrap Go1 Reg WP aO aR bM bK aN aD aj ak aX Sat
attribute [local irreducible] bO bX bV cK bW qv dH mf PrP qOk zOk vP dP lz vF cq rqv dX aS
theorem Cv.F{K n:Nat}{v:Vl}(h:Cv K n v)(hK:K<=100000)(hn:n<=15):ah prog 78 [.agg (vlA v)] (.v (.bool true)):=by
 have c:=abu (h.z hK)
 rwa [h.f 20 zE]at c
theorem aq1{K L n m:Nat}{u v:Vl}(hu:Cv K n u)(hv:Cv L m v)(hK:K+L<=100000)(hn:n<=15)(hm:m<=15):ah prog 59 [.agg (vlA u),.agg (vlA v)] (.v (.bool (kP u v))):=by
 have c:=ap4 hK n m u v hu hv;have c1:=hu.F zE hn
 have c2:=hv.F zE hm
 refine ah.fq func59 results59 ntmps59 fun _ _ _ _ _=>?_
 refine zg ?_;exact bg rfl
end
end
end Go.Proofs.YtjnhnbgpifohjaaGreatDoor
set_option linter.unusedSectionVars false
namespace Go.Proofs.YtjnhnbgpifohjaaGreatDoor
open Go.RowKit QM SX LA
section
section
def jn(s:UInt8):List (List UInt8)->List UInt8
 |[]=>[]
 |[a]=>a
 |a::b::l=>a++(s::32::jn s (b::l))
def chk{α:Type}(c:Nat):Nat->List α->List (List α)
 |0,_=>[]
 |r+1,l=>l.take c::chk c r (l.drop c)
def tbS(r c:Nat)(l:List (List UInt8)):List UInt8:=
 if r=0\/c=0 then [122,101,114,111,40]++(aY r++([44,32]++(aY c++[41])))else 91::(jn 59 ((chk c r l).map (jn 44))++[93])
def plS(l:List (List UInt8)):List UInt8:=[112,111,108,121,40]++(jn 44 l++[41])
def mdS(s:List UInt8)(p:Nat):List UInt8:=[109,111,100,40]++(s++([44,32]++(aY p++[41])))
mutual
def tS:Vl->List UInt8
 |⟨k,q,r,c,a,po,p,fr,fc,fa,ri,li⟩=>
  if k=1 then qS (rqv q)else if k=2 then tbS r.toNat c.toNat (a.map fun x=>qS (rqv x))else if k=3 then plS (po.map fun x=>zS (rzv x))
  else if k=4 then mdS (tbS fr.toNat fc.toNat (fa.map aY)) p else if k=5 then mdS (plS (ri.map aY)) p else 123::(jn 44 (tL li)++[125])
def tL:List Vl->List (List UInt8)
 |[]=>[]
 |v::l=>tS v::tL l
end
theorem aw2:∀l:List Vl,tL l=l.map tS
 |[]=>by rw[tL];rfl
 |v::l=>by rw[tL,aw2 l];rfl
theorem ajR(x:Rat):tS (iR x)=qS x:=by
 show tS ⟨1,cq x,0,0,[],[],0,0,0,[],[],[]⟩=_;rw[tS,if_pos rfl,kV]
theorem xR(r c:Nat)(vs:List Rat):tS (iC r c vs)=tbS r c (vs.map qS):=by
 show tS ⟨2,rq0,(r:Int),(c:Int),vs.map cq,[],0,0,0,[],[],[]⟩=_;rw[tS,if_neg zc,if_pos rfl,zv4,zw8,zw8,show (fun x=>qS (rqv x)) ∘ cq=qS from funext fun x=>congrArg qS (kV x)]
theorem axe(zs:List Int):tS (bQ zs)=plS (zs.map zS):=by
 show tS ⟨3,rq0,0,0,[],zs.map cz,0,0,0,[],[],[]⟩=_;rw[tS,if_neg zc,if_neg zc,if_pos rfl,zv4,show (fun x=>zS (rzv x)) ∘ cz=zS from funext fun x=>congrArg zS (sN x)]
theorem ayz(p r c:Nat)(l:List Nat):tS (pR p r c l)=mdS (tbS r c (l.map aY)) p:=by
 show tS ⟨4,rq0,0,0,[],[],p,(r:Int),(c:Int),l,[],[]⟩=_;rw[tS,if_neg zc,if_neg zc,if_neg zc,if_pos rfl,zw8,zw8]
theorem axL(p:Nat)(l:List Nat):tS (aT p l)=mdS (plS (l.map aY)) p:=by
 show tS ⟨5,rq0,0,0,[],[],p,0,0,[],l,[]⟩=_;rw[tS,if_neg zc,if_neg zc,if_neg zc,if_neg zc,if_pos rfl]
theorem aqJ(l:List Vl):tS (nN l)=123::(jn 44 (l.map tS)++[125]):=by
 show tS ⟨6,rq0,0,0,[],[],0,0,0,[],[],l⟩=_;rw[tS,if_neg zc,if_neg zc,if_neg zc,if_neg zc,if_neg zc,aw2]
def dgc(c:UInt8):Prop:=48<=c.toNat/\c.toNat<=57
theorem dg_of{d:Nat}(h:d < 10):dgc (UInt8.ofNat (48+d))/\(UInt8.ofNat (48+d)).toNat=48+d:=by
 have:(UInt8.ofNat (48+d)).toNat=48+d:=by rw[UInt8.toNat_ofNat'];omega
 unfold dgc;omega
theorem axr:∀(n x:Nat),x<=n->∀c∈dig x,dgc c:=by
 intro n
 induction n with
 |zero=>intro x hx c hc;rw[show x=0 by omega,kU]at hc;cases hc
 |succ n ih=>
  intro x hx c hc;by_cases h0:x=0
  ·rw[h0,kU]at hc;cases hc
  ·rw[rD h0,zyg,zxi]at hc;rcases hc with hc|rfl
   ·exact ih (x / 10) zE c hc
   ·exact(dg_of (zyi x zc)).1
theorem agA(x:Nat):∀c∈aY x,dgc c:=by
 intro c hc;unfold aY at hc
 split at hc
 ·rw[zxi]at hc;subst hc;unfold dgc;decide
 ·exact axr x x (zq6 _) c hc
theorem am7(x:Nat):∃c m,aY x=c::m/\dgc c:=by
 cases h:aY x with
 |nil=>
  unfold aY at h
  split at h
  ·cases h
  ·next h0=>exact absurd h (aki h0)
 |cons c m=>exact⟨c,m,rfl,agA x c (by rw[h];exact zq9 ..)⟩
theorem zS_ch(z:Int):∀c∈zS z,c=45\/dgc c:=by
 intro c hc;unfold zS at hc
 split at hc
 ·rw[zy3]at hc;exact hc.imp id (agA _ c)
 ·exact .inr (agA _ c hc)
theorem aw5(z:Int):∃c m,zS z=c::m/\(c=45\/dgc c):=by
 cases h:zS z with
 |nil=>
  unfold zS at h
  split at h
  ·cases h
  ·obtain⟨c,m,e,_⟩:=am7 z.natAbs;rw[e]at h;cases h
 |cons c m=>exact⟨c,m,rfl,zS_ch z c (by rw[h];exact zq9 ..)⟩
theorem aaV(x:Rat):qS x=if x.den=1 then zS x.num else zS x.num++47::zS (x.den:Int):=by
 unfold qS rS
 dsimp only
 by_cases h:x.den=1
 ·rw[if_pos (show (x.den:Int)=1 by omega),if_pos h]
 ·rw[if_neg (show¬(x.den:Int)=1 by omega),if_neg h,zqj];rfl
theorem qS_ne(x:Rat):∃c m,qS x=c::m/\(c=45\/dgc c):=by
 obtain⟨c,m,e,h⟩:=aw5 x.num;rw[aaV,e]
 split
 ·exact⟨c,m,rfl,h⟩
 ·exact⟨c,_,rfl,h⟩
def Tm(r:List UInt8):Prop:=∀c m,r=c::m->c=44\/c=59\/c=93\/c=41\/c=125
def Tell{α:Type}(A:α->Prop)(T:List UInt8->Prop)(f:α->List UInt8):Prop:=∀x y,A x->A y->∀r s,T r->T s->f x++r=f y++s->x=y/\r=s
section
variable{α:Type}{f:α->List UInt8}(hf:Tell (fun _=>True) Tm f)(hn:∀x,∃c m,f x=c::m/\(c=45\/dgc c))
include hf hn
end
def kd(v:Vl)(d:UInt8):Prop:=(v.k=1/\(d=45\/dgc d))\/(v.k=2/\(d=122\/d=91))\/(v.k=3/\d=112)\/(v.k=4/\d=109)\/(v.k=5/\d=109)\/(v.k=6/\d=123)
end
section
abbrev mq(vs:List Rat):List Q4:=(vs.map cq).map rq
abbrev mz(zs:List Int):List Z2:=(zs.map cz).map rz
theorem akX(vs:List Rat):(mq vs).length=vs.length:=by rw[zq5,zq5]
theorem ajt(zs:List Int):(mz zs).length=zs.length:=by rw[zq5,zq5]
attribute [local irreducible] IntKind.wrap Go1 Reg WP aO aR bM bK aN aD aj ak aX Sat
attribute [local irreducible] bO bX bV cK bW qv dH mf PrP qOk zOk vP dP lz vF cq rqv dX aS bU aV
def axI(r c:Nat)(vs:List Rat)(x:Rat):List Rat:=nI c (fun i k=>vat vs c i k*x) r
theorem as8{x:Rat}{K:Nat}(hx:RB x K)(hK:K<=100000):ah prog 506 [.agg (vlA (iR x))] (.tup [.agg (vlA (iR (-x))),eNo 0]):=by
 haveI:=Ra.cq hx
 obtain⟨X,cA,hX⟩:=eNeg (q4A (rq (cq x))) (K:=K) zE
 have e:=hX.nf;subst e;have cN:=aiN (-x) 0;refine ah.fq func506 results506 ntmps506 fun _ _ _ _ _=>?_
 refine zg ?_;refine .ok (aD.mk2 aj.ig (aj.tmp rfl))
theorem avo{x:Rat}{K:Nat}(hx:RB x K)(hK:K<=100000):ah prog 52 [.agg (q4A (rq (cq x)))] (.tup [.agg (zN (if x.den=1 then x.num else 0)),.one (.c (.val (.bool (decide (x.den=1)))))]):=by
 have hl:=(vZ0.num hx hK).q.2
 dsimp only at hl
 have h:=(xY (h:=ZI.raw (cq x).1 (cq x).2.1) (h':=ZI.raw (cq x).2.2.1 (cq x).2.2.2)).h zE
 unfold uh at h;rw[asJ,amj]at h;have e1:((x.den:Int)=1)↔x.den=1:=zE
 simp only[e1]at h;exact h
section
variable{u v w:Vl}{e:Int}
variable(c1:ah prog 78 [.agg (vlA u)] (.v (.bool true)))(c2:ah prog 78 [.agg (vlA v)] (.v (.bool true)))
include c1 c2
theorem arB(c:ah prog 514 [.agg (vlA u),.agg (vlA v)] (.tup [.agg (vlA w),eNo e])):ah prog 490 [.v (.int .i64 7),.agg (vlA u),.agg (vlA v)] (.tup [.agg (vlA w),eNo e]):=by
 refine ah.fq func490 results490 ntmps490 fun _ _ _ _ _=>?_
 refine zg ?_;refine .ok (aD.mk2 aj.ig (aj.tmp rfl))
end
end
section
theorem aaN(zs:List Int)(d:Int)(j:Nat):(aV zs d).getD j 0=zs.getD j 0*d:=by
 unfold aV;rw[uU,zx7,zqa,zx7]
 cases zs[j]? with
 |none=>exact(Int.zero_mul d).symm
 |some z=>rfl
theorem ao1(zs:List Int)(d:Int):pN (aV zs d):=pQ _
theorem aog{op:Int->Int->Int}(a b:List Int):(bU op a b).length<=max a.length b.length:=by
 unfold bU;rw[gU];exact zxf (kF _) (by rw[zl];exact zq6 _)
theorem p8(zs:List Int)(d:Int):(aV zs d).length<=zs.length:=by
 unfold aV;rw[gU];exact zxf (kF _) (by rw[zq5];exact zq6 _)
theorem acS{zs:List Int}{z:Int}(h:z∈zs):∃j,zs.getD j 0=z:=by
 obtain⟨j,hj⟩:=List.mem_iff_getElem?.1 h;exact⟨j,by rw[zx7,hj];rfl⟩
theorem mR{zs:List Int}{d:Int}{K L:Nat}(h:∀z∈zs,z.natAbs < WB ^ K)(hd:d.natAbs < WB ^ L):∀z∈aV zs d,z.natAbs < WB ^ (K+L):=fun z hz=>by
 obtain⟨j,rfl⟩:=acS hz;rw[aaN,zve,zw5];exact Nat.mul_lt_mul'' (qE h j) hd
def fB(i:Int):Vl->Vl
 |⟨k,q,r,c,a,po,p,fr,fc,fa,ri,li⟩=>if k=1 then iR (i*rqv q)else if k=2 then iC r.toNat c.toNat (axI r.toNat c.toNat (a.map rqv) i)else bQ (aV (po.map rzv) i)
attribute [local irreducible] IntKind.wrap Go1 Reg WP aO aR bM bK aN aD aj ak aX Sat
attribute [local irreducible] bO bX bV cK bW qv dH mf PrP qOk zOk vP dP lz vF cq rqv dX aS bU aV
structure Muls(v:Vl)(k:Nat):Prop where
 a:ah prog 513 [.agg (vlA (iR ((k:Int):Rat))),.agg (vlA v)] (.tup [.agg (vlA (fB k v)),eNo 0])
 b:ah prog 513 [.agg (vlA v),.agg (vlA (iR ((k:Int):Rat)))] (.tup [.agg (vlA (fB k v)),eNo 0])
 h:∃(w:Vl) (e:Int),ah prog 513 [.agg (vlA (iR (1 / 2))),.agg (vlA v)] (.tup [.agg (vlA w),eNo e])/\((v.k≠3/\e=0)\/(v.k=3/\e=5))
 d:ah prog 517 [.agg (vlA v),.agg (vlA v)] (.tup [.agg (vlA (fB 0 v)),eNo 0])
 s:∀i,i < k->ah prog 516 [.agg (vlA (fB (i:Int) v)),.agg (vlA v)] (.tup [.agg (vlA (fB ((i+1:Nat):Int) v)),eNo 0])
 c:∀i,i<=k->Cv 4 0 (fB (i:Int) v)
 kk:∀i,(fB i v).k=v.k
end
section
def sq(c:Nat):Nat->List (List UInt8)->List UInt8
 |_,[]=>[]
 |i,x::l=>(if 0 < i/\i % c=0 then [59,32]else [])++((if 0 < i % c then [44,32]else [])++(x++sq c (i+1) l))
attribute [local irreducible] IntKind.wrap Go1 Reg WP aO aR bM bK aN aD aj ak aX Sat
attribute [local irreducible] bO bX bV cK bW qv dH mf PrP qOk zOk vP dP lz vF cq rqv dX aS bU aV fB jn sq aY qS zS
theorem acJ(n:Nat):zS (n:Int)=aY n:=by unfold zS;rw[if_neg zE,zxa]
end
end
section
attribute [local irreducible] IntKind.wrap Go1 Reg WP aO aR bM bK aN aD aj ak aX Sat
attribute [local irreducible] bO bX bV cK bW qv dH mf PrP qOk zOk vP dP lz vF cq rqv dX aS bU aV fB vW
section
variable(n:Int){k:Nat}(hn:n.tmod 7=(k:Int))(hk:k<=6){v:Vl}
include hn hk
end
end
section
attribute [local irreducible] IntKind.wrap Go1 Reg WP aO aR bM bK aN aD aj ak aX Sat
attribute [local irreducible] bO bX bV cK bW qv dH mf PrP qOk zOk vP dP lz vF cq rqv dX aS bU aV fB aY jn qS zS
section
variable(v:Vl){i:Nat}
end
end
