import Derived.Test.YtjnhnbgpifohjaaGreatDoorA11
import Derived.Test.YtjnhnbgpifohjaaGreatDoorA7
import Derived.Test.YtjnhnbgpifohjaaGreatDoorA6
import Derived.Test.YtjnhnbgpifohjaaGreatDoorA28
set_option linter.unusedVariables false
set_option linter.unusedSimpArgs false
open Go.Proofs.Tryz
namespace Go.Proofs.YtjnhnbgpifohjaaGreatDoor
open Go.RowKit QM SX LA
section
attribute [local irreducible] IntKind.wrap Go1 Reg WP aR aU bR bO aN aF ak aj aY Sat
attribute [local irreducible] bS dn cK dD dh qv bW mf PrP qOk zOk vP eu lz
theorem afq(q:gW)(hq:(Sm WB q.2.1∧Sm WB q.2.2.2)∧q.2.1.length≤100000∧q.2.2.2.length≤100000):ah prog 219 [.agg (q4A (rq q))] (.v (.bool (!qOk q))):=by
 have c:=afB q hq.1 (by omega)
 refine ah.fnF func219 results219 ntmps219 rfl rfl rfl (by simp[AV.ids,AV0.ids,Atom.ids]) rfl (fun w0 T B E0 hB=>?_)
 refine SX.goM ?_;exact aP rfl
theorem afz(z:pK)(hz:Sm WB z.2∧z.2.length≤100000):ah prog 221 [.agg (z2A (rz z))] (.v (.bool (!zOk z))):=by
 have c:=sP z (by omega)
 refine ah.fnF func221 results221 ntmps221 rfl rfl rfl (by simp[AV.ids,AV0.ids,Atom.ids]) rfl (fun w0 T B E0 hB=>?_)
 refine SX.goM ?_;exact aP rfl
theorem aej(v:Vl)(d:Int)(b:Bool)(hd:0 < d)(hd2:d≤100)(c:ah prog 123 [.agg (vlA v),.v (.int .i64 (d - 1))] (.v (.bool b))):ah prog 226 [.agg (vlA v),.r (bJ [.val (.int .i64 d)])] (.v (.bool (!b))):=by
 refine ah.fnF func226 results226 ntmps226 rfl rfl rfl (by simp[AV.ids,AV0.ids,Atom.ids]) rfl (fun w0 T B E0 hB=>?_)
 refine SX.goM ?_;exact aP rfl
theorem qmF(r c:Int){n:Nat}{cells:List CA}:ah prog 39 [.agg [.c (.val (.int .i64 r)),.c (.val (.int .i64 c)),.c (.sat (aL 4 n cells))]] (.v (.bool (eu r c n))):=by
 unfold eu;exact(lZ r c).h trivial
section
variable(v:Vl)(d:Nat)(hz:vZ0 v)
include hz
theorem mV:ah prog 216 [.agg (vlA v),.r (aL 1 1 [.val (.int .i64 v.k)])] (.v (.bool (decide (vP v=0)))):=aki v hz
theorem xK(hP:vP v≠0):ah prog 123 [.agg (vlA v),.v (.int .i64 (d:Int))] (.v (.bool (vF d v))):=by
 have c:=mV v hz;rw[decide_eq_false hP]at c;rw[vF_P hP];refine ah.fnF func123 results123 ntmps123 rfl rfl rfl (by simp[AV.ids,AV0.ids,Atom.ids]) rfl (fun w0 T B E0 hB=>?_)
 refine SX.goM ?_;exact aP rfl
theorem uD(hP:vP v=0)(hk:v.k=1):ah prog 123 [.agg (vlA v),.v (.int .i64 (d:Int))] (.v (.bool (vF d v))):=by
 have c:=mV v hz;rw[decide_eq_true hP]at c;rw[vF_1 hP hk];have cF:=afB v.q hz.q.1 (by have:=hz.q.2;omega)
 refine ah.fnF func123 results123 ntmps123 rfl rfl rfl (by simp[AV.ids,AV0.ids,Atom.ids]) rfl (fun w0 T B E0 hB=>?_)
 refine SX.goM ?_;exact aP rfl
theorem vS(hP:vP v=0)(hk:v.k=2):ah prog 123 [.agg (vlA v),.v (.int .i64 (d:Int))] (.v (.bool (vF d v))):=by
 have c:=mV v hz;rw[decide_eq_true hP]at c;rw[vF_2 hP hk];have cA:=akD v.a 219 (fun x=>!qOk x) (fun x hx=>afq x (hz.a x hx)) hz.al
 have cF:=qmF v.r v.c (n:=(v.a.map rq).length) (cells:=(v.a.map rq).flatMap q4C);have hl:(v.a.map rq).length=v.a.length:=zq5 _;unfold mOk;rw[←hl,←zh];cases h:eu v.r v.c (v.a.map rq).length
 ·rw[h]at cF;refine ah.fnF func123 results123 ntmps123 rfl rfl rfl (by simp[AV.ids,AV0.ids,Atom.ids]) rfl (fun w0 T B E0 hB=>?_)
  refine SX.goM ?_;refine aP ?_;rw[Bool.and_false]
 ·rw[h]at cF;refine ah.fnF func123 results123 ntmps123 rfl rfl rfl (by simp[AV.ids,AV0.ids,Atom.ids]) rfl (fun w0 T B E0 hB=>?_)
  refine SX.goM ?_;refine aP ?_;rw[Bool.and_true]
theorem tZ(hP:vP v=0)(hk:v.k=3):ah prog 123 [.agg (vlA v),.v (.int .i64 (d:Int))] (.v (.bool (vF d v))):=by
 have c:=mV v hz;rw[decide_eq_true hP]at c;rw[vF_3 hP hk];have cA:=akf v.po 221 (fun x=>!zOk x) (fun x hx=>afz x (hz.po x hx)) hz.pol
 have hl:(v.po.map rz).length=v.po.length:=zq5 _;have hb:=hz.pol;unfold pOk lz;rw[←zh];by_cases h0:v.po.length=0
 ·rw[decide_eq_true h0,Bool.true_or,Bool.and_true];refine ah.fnF func123 results123 ntmps123 rfl rfl rfl (by simp[AV.ids,AV0.ids,Atom.ids]) rfl (fun w0 T B E0 hB=>?_)
  refine SX.goM ?_;exact aP rfl
 ·obtain⟨x,hx⟩:∃x,v.po[v.po.length - 1]? =some x:=⟨_,zq2 (by omega)⟩
  have hq:(v.po.map rz)[(v.po.map rz).length - 1]? =some (rz x):=by rw[hl,List.getElem?_map,hx];rfl
  have hg:v.po.getD (v.po.length - 1) (false,[])=x:=by rw[zq3,hx];rfl
  have hax:=hz.po x (zq4 hx);have cS:=(qZ (h:=ZI.raw x.1 x.2)).h (show x.2.length≤1099511627775 by omega)
  have hs0:bq (rzv x)=0↔rzv x=0:=by unfold bq;(repeat' split) <;> omega
  change ah _ _ _ (.v (.int .i64 (bq (rzv x))))at cS
  rw[hg,decide_eq_false h0,Bool.false_or];by_cases h1:rzv x=0
  ·have h2:bq (rzv x)=0:=hs0.2 h1;rw[decide_eq_false (fun e=>e h1),Bool.and_false]
   refine ah.fnF func123 results123 ntmps123 rfl rfl rfl (by simp[AV.ids,AV0.ids,Atom.ids]) rfl (fun w0 T B E0 hB=>?_)
   refine SX.goM ?_;exact aP rfl
  ·have h2:¬bq (rzv x)=0:=fun e=>h1 (hs0.1 e)
   rw[decide_eq_true h1,Bool.and_true];refine ah.fnF func123 results123 ntmps123 rfl rfl rfl (by simp[AV.ids,AV0.ids,Atom.ids]) rfl (fun w0 T B E0 hB=>?_)
   refine SX.goM ?_;exact aP rfl
theorem vC(hP:vP v=0)(hk:v.k=4):ah prog 123 [.agg (vlA v),.v (.int .i64 (d:Int))] (.v (.bool (vF d v))):=by
 have c:=mV v hz;rw[decide_eq_true hP]at c;rw[vF_4 hP hk];have cB:=abP v v.fa hz.p hz.fal;have cF:ah prog 223 [.agg [.c (.val (.int .i64 v.fr)),.c (.val (.int .i64 v.fc)),.c (.sat (aA 1 wdC v.fa))]] (.v (.bool (eu v.fr v.fc v.fa.length))):=xX v.fr v.fc;unfold fOk;cases h:eu v.fr v.fc v.fa.length
 ·rw[h]at cF;refine ah.fnF func123 results123 ntmps123 rfl rfl rfl (by simp[AV.ids,AV0.ids,Atom.ids]) rfl (fun w0 T B E0 hB=>?_)
  refine SX.goM ?_;refine aP ?_;rw[Bool.and_false,Bool.and_false]
 ·rw[h]at cF;refine ah.fnF func123 results123 ntmps123 rfl rfl rfl (by simp[AV.ids,AV0.ids,Atom.ids]) rfl (fun w0 T B E0 hB=>?_)
  refine SX.goM ?_;refine aP ?_;rw[Bool.and_true]
theorem uT(hP:vP v=0)(hk:v.k=5):ah prog 123 [.agg (vlA v),.v (.int .i64 (d:Int))] (.v (.bool (vF d v))):=by
 have c:=mV v hz;rw[decide_eq_true hP]at c;rw[vF_5 hP hk];have cB:=abP v v.ri hz.p hz.ril;have hb:=hz.ril;unfold rOk lw;rw[←Bool.and_assoc];generalize (decide (PrP v.p)&&v.ri.all (ltp v.p))=b at cB ⊢;cases b
 ·refine ah.fnF func123 results123 ntmps123 rfl rfl rfl (by simp[AV.ids,AV0.ids,Atom.ids]) rfl (fun w0 T B E0 hB=>?_)
  refine SX.goM ?_;exact aP rfl
 ·by_cases h0:v.ri.length=0
  ·rw[decide_eq_true h0];refine ah.fnF func123 results123 ntmps123 rfl rfl rfl (by simp[AV.ids,AV0.ids,Atom.ids]) rfl (fun w0 T B E0 hB=>?_)
   refine SX.goM ?_;exact aP rfl
  ·obtain⟨x,hx⟩:∃x,v.ri[v.ri.length - 1]? =some x:=⟨_,zq2 (by omega)⟩
   have hg:v.ri.getD (v.ri.length - 1) 0=x:=by rw[zq3,hx];rfl
   rw[hg,decide_eq_false h0,Bool.false_or,Bool.true_and];refine ah.fnF func123 results123 ntmps123 rfl rfl rfl (by simp[AV.ids,AV0.ids,Atom.ids]) rfl (fun w0 T B E0 hB=>?_)
   refine SX.goM ?_;refine aP ?_;rw[decide_eq_decide];omega
theorem uY(hP:vP v=0)(hk:v.k=6)(hd:d≤20)(hr:∀e,d=e+1→∀x∈v.li,ah prog 123 [.agg (vlA x),.v (.int .i64 (e:Int))] (.v (.bool (vF e x)))):ah prog 123 [.agg (vlA v),.v (.int .i64 (d:Int))] (.v (.bool (vF d v))):=by
 have c:=mV v hz;rw[decide_eq_true hP]at c;cases d with
 |zero=>
  rw[vF_60 hk];refine ah.fnF func123 results123 ntmps123 rfl rfl rfl (by simp[AV.ids,AV0.ids,Atom.ids]) rfl (fun w0 T B E0 hB=>?_)
  refine SX.goM ?_;refine SX.WP.fP 3 hB rfl rfl ?_;refine SX.WP.aD ?_;refine SX.goM ?_;exact aP rfl
 |succ e=>
  rw[vF_6 hP hk,←zh];have cA:=amd v.li (.sat (dO 226 [] [.sat (bJ [.val (.int .i64 ((e+1:Nat):Int))])])) (fun x=>!vF e x) (fun x hx=>FnV.clo (aej x ((e+1:Nat):Int) (vF e x) (by omega) (by omega) (by
   rw[show ((e+1:Nat):Int) - 1=(e:Int)by omega];exact hr e rfl x hx))) hz.lil rfl
  refine ah.fnF func123 results123 ntmps123 rfl rfl rfl (by simp[AV.ids,AV0.ids,Atom.ids]) rfl (fun w0 T B E0 hB=>?_)
  refine SX.goM ?_;refine SX.WP.fP 3 hB rfl rfl ?_;refine SX.WP.aD ?_;refine SX.goM ?_;exact aP rfl
theorem uq(hP:vP v=0)(hk:v.k≠1∧v.k≠2∧v.k≠3∧v.k≠4∧v.k≠5∧v.k≠6):ah prog 123 [.agg (vlA v),.v (.int .i64 (d:Int))] (.v (.bool (vF d v))):=by
 have c:=mV v hz;rw[decide_eq_true hP]at c;rw[vF_7 hk];refine ah.fnF func123 results123 ntmps123 rfl rfl rfl (by simp[AV.ids,AV0.ids,Atom.ids]) rfl (fun w0 T B E0 hB=>?_)
 refine SX.goM ?_;exact aP rfl
end
theorem agh:∀(n d:Nat) (v:Vl),vZ n v→d≤20→ah prog 123 [.agg (vlA v),.v (.int .i64 (d:Int))] (.v (.bool (vF d v))):=by
 intro n
 induction n with
 |zero=>
  intro d v hv hd;by_cases hP:vP v=0
  ·have hk:v.k=1∨v.k=2∨v.k=3∨v.k=4∨v.k=5∨v.k=6∨(v.k≠1∧v.k≠2∧v.k≠3∧v.k≠4∧v.k≠5∧v.k≠6):=by omega
   rcases hk with hk|hk|hk|hk|hk|hk|hk
   ·exact uD v d hv.z hP hk
   ·exact vS v d hv.z hP hk
   ·exact tZ v d hv.z hP hk
   ·exact vC v d hv.z hP hk
   ·exact uT v d hv.z hP hk
   ·exact uY v d hv.z hP hk hd fun e _ x hx=>by rw[hv.2]at hx;cases hx
   ·exact uq v d hv.z hP hk
  ·exact xK v d hv.z hP
 |succ n ih=>
  intro d v hv hd;by_cases hP:vP v=0
  ·have hk:v.k=1∨v.k=2∨v.k=3∨v.k=4∨v.k=5∨v.k=6∨(v.k≠1∧v.k≠2∧v.k≠3∧v.k≠4∧v.k≠5∧v.k≠6):=by omega
   rcases hk with hk|hk|hk|hk|hk|hk|hk
   ·exact uD v d hv.z hP hk
   ·exact vS v d hv.z hP hk
   ·exact tZ v d hv.z hP hk
   ·exact vC v d hv.z hP hk
   ·exact uT v d hv.z hP hk
   ·exact uY v d hv.z hP hk hd fun e he x hx=>ih e x (hv.2 x hx) (by omega)
   ·exact uq v d hv.z hP hk
  ·exact xK v d hv.z hP
theorem yh{n:Nat}{v:Vl}(hv:vZ n v):ah prog 78 [.agg (vlA v)] (.v (.bool (vF 20 v))):=by
 have c:=agh n 20 v hv (Nat.le_refl _);refine ah.fnF func78 results78 ntmps78 rfl rfl rfl (by simp[AV.ids,AV0.ids,Atom.ids]) rfl (fun w0 T B E0 hB=>?_)
 refine SX.goM ?_;exact aP rfl
end
section
section
abbrev vlB(v:Vl):List Atom:=[.c (.val (.int .i64 v.k)),.c (.val (.bool v.q.1)),.c (.sat (dM v.q.2.1)),.c (.val (.bool v.q.2.2.1)),.c (.sat (dM v.q.2.2.2)),.c (.val (.int .i64 v.r)),.c (.val (.int .i64 v.c)),.c (.sat (aA 4 q4C (v.a.map rq))),.c (.sat (aA 2 z2C (v.po.map rz))),.c (.val (.int .u64 (v.p:Int))),.c (.val (.int .i64 v.fr)),.c (.val (.int .i64 v.fc)),.c (.sat (aA 1 wdC v.fa)),.c (.sat (aA 1 wdC v.ri)),.c (.sat (aA 15 vlE v.li))]
theorem aoh(v:Vl):vlA v=vlB v:=by unfold vlA vlB;rw[yM]
attribute [local irreducible] IntKind.wrap Go1 Reg WP aR aU bR bO aN aF ak aj aY Sat
attribute [local irreducible] bS dn cK dD dh qv bW mf PrP qOk zOk vP eu lz
section
variable(v:Vl)(d:Nat)(hz:vZ0 v)
include hz
omit hz in
end
end
section
theorem vZ0.num{v:Rat}{K:Nat}(h:RB v K)(hK:K≤100000):vZ0 (fC v) where
 q:=⟨ahX v,Nat.le_trans (mQ h.n) hK,Nat.le_trans (mQ (by rw[Int.natAbs_natCast];exact h.d)) hK⟩
 a:=by intro x hx;cases hx
 al:=Nat.zero_le _
 po:=by intro x hx;cases hx
 pol:=Nat.zero_le _
 p:=aS
 fa:=by intro x hx;cases hx
 fal:=Nat.zero_le _
 ri:=by intro x hx;cases hx
 ril:=Nat.zero_le _
 lil:=Nat.zero_le _
theorem vZ.num{v:Rat}{K:Nat}(h:RB v K)(hK:K≤100000):vZ 0 (fC v):=⟨vZ0.num h hK,rfl⟩
theorem atf(v:Rat):vP (fC v)=0:=(vP0 _).2 ⟨.inl rfl,.inr ⟨rfl,rfl,rfl⟩,.inr rfl,.inr ⟨rfl,rfl,rfl⟩,.inr rfl,.inr (.inr rfl),.inr rfl⟩
theorem aoE(d:Nat)(v:Rat):vF d (fC v)=true:=by
 rw[vF_1 (atf v) rfl];exact(ait (ahX v)).2 (by rw[jL])
theorem amu(p q:Int):rmk p q=((qv p q).num,((qv p q).den:Int)):=by
 have h2:Nat.Coprime (qv p q).num.natAbs (qv p q).den:=(qv p q).reduced;have hd:=(qv p q).den_nz;have:=Rd.uniq (mR p q) (yL p q) (r:=(qv p q).num) (s:=((qv p q).den:Int)) (by omega) (by unfold Int.gcd;rw[Int.natAbs_natCast];exact h2) (by rw[gZ,gL])
 exact Prod.ext this.1 this.2
theorem aiw(x:Rat):qv (sgn (cq x).1 (nval WB (cq x).2.1)) (sgn (cq x).2.2.1 (nval WB (cq x).2.2.2))=x:=jL x
def qS(v:Rat):List UInt8:=rS (v.num,(v.den:Int))
def qB(v:Rat):Nat:=max (bitLen v.num.natAbs) (bitLen v.den)
attribute [local irreducible] IntKind.wrap Go1 Reg WP aR aU bR bO aN aF ak aj aY Sat
attribute [local irreducible] bS dn cK dD dh qv bW mf PrP qOk zOk vP eu lz vF cq rqv
theorem afK{x0 x1 x2 x3:Atom}{p q:Int}{k m:Nat}[h:ZI [x0,x1] p k][h':ZI [x2,x3] q m](hk:k+m≤1000000):ah prog 534 [.agg [x0,x1,x2,x3]] (.v (.int .i64 ((max (bitLen (rmk p q).1.natAbs) (bitLen (rmk p q).2.natAbs):Nat):Int))):=by
 refine q1 ⟨_,func534,rfl,rfl⟩ fun neg n neg2 n2 hz hz2 hn hn2=>?_
 subst hz;subst hz2;refine ah.fnF func534 results534 ntmps534 rfl rfl rfl (by simp[AV.ids,AV0.ids,Atom.ids]) rfl (fun w0 T B E0 hB=>?_)
 refine SX.goM ?_;exact gM rfl
theorem aco{q:gW}(hk:q.2.1.length+q.2.2.2.length≤1000000):ah prog 534 [.agg (q4A (rq q))] (.v (.int .i64 (qB (rqv q):Int))):=by
 have h:=afK (h:=ZI.raw q.1 q.2.1) (h':=ZI.raw q.2.2.1 q.2.2.2) hk;rw[amu]at h
 dsimp only at h
 rw[Int.natAbs_natCast]at h;unfold rqv qB;exact h
theorem afb(v:Rat)(e:Int):ah prog 535 [.agg (qA v),.v (.bool true),.v (.int .i64 e)] (.tup [.agg (vlA (fC v)),eNo 0]):=by
 refine ah.fnF func535 results535 ntmps535 rfl rfl rfl (by simp[AV.ids,AV0.ids,Atom.ids]) rfl (fun w0 T B E0 hB=>?_)
 refine SX.goM ?_;refine .ok (aF.mk2 ((ak.gX rfl rfl rfl).imp ?_) (ak.tmp rfl));exact ahD
theorem ag5{x y:Rat}{K L:Nat}(hx:RB x K)(hy:RB y L)(hK:K+L≤400000):ah prog 110 [.agg (vlA (fC x)),.agg (vlA (fC y))] (.v (.bool (decide (x=y)))):=by
 haveI:=Ra.cq hx
 haveI:=Ra.cq hy
 obtain⟨z,cA,hz,_⟩:=eCmp (q4A (rq (cq x))) (q4A (rq (cq y))) (K:=K) (K':=L) (by omega)
 rw[←decide_eq_decide.2 hz];refine ah.fnF func110 results110 ntmps110 rfl rfl rfl (by simp[AV.ids,AV0.ids,Atom.ids]) rfl (fun w0 T B E0 hB=>?_)
 refine SX.goM ?_;exact aP rfl
theorem aqI{x:Rat}{K:Nat}(hx:RB x K)(hK:K≤100000):ah prog 518 [.agg (q4A (rq (cq x)))] (.v (str (qS x))):=by
 have hl:=(vZ0.num hx hK).q.2
 dsimp only at hl
 have h:=(afS (h:=ZI.raw (cq x).1 (cq x).2.1) (h':=ZI.raw (cq x).2.2.1 (cq x).2.2.2)).h (by omega)
 rw[amu]at h;rw[aiw]at h;exact h
theorem aj2{x:Rat}{K:Nat}(hx:RB x K)(hK:K≤100000):ah prog 491 [.agg (vlA (fC x))] (.v (str (qS x))):=by
 have c:=aqI hx hK;refine ah.fnF func491 results491 ntmps491 rfl rfl rfl (by simp[AV.ids,AV0.ids,Atom.ids]) rfl (fun w0 T B E0 hB=>?_)
 refine SX.goM ?_;exact aga rfl
theorem agt{x:Rat}{K:Nat}(hx:RB x K)(hK:K≤100000):ah prog 462 [.agg (vlA (fC x))] (.tup [.one (.c (.val (str (qS x)))),eNo 0]):=by
 have c:=aj2 hx hK;have c1:=yh (vZ.num hx hK);rw[aoE]at c1;refine ah.fnF func462 results462 ntmps462 rfl rfl rfl (by simp[AV.ids,AV0.ids,Atom.ids]) rfl (fun w0 T B E0 hB=>?_)
 refine SX.goM ?_;exact .ok (aF.mk2 (ak.tmp rfl) (ak.tmp rfl))
theorem ajD{x:Rat}{K:Nat}(hx:RB x K)(hK:K≤100000):ah prog 505 [.agg (vlA (fC x))] (.v (.int .i64 (qB x:Int))):=by
 have cO:=amM 0 (by decide) (by decide)
 have cB:ah prog 102 [.r (bI (0:Int).natAbs)] (.v (.int .i64 0)):=by
  haveI:BdN 0 1:=⟨by rw[bV];decide⟩
  exact(wY (a:= .sat (bI 0))).h (by decide)
 have c:=aco (q:=cq x) (by have:=(vZ0.num hx hK).q.2;dsimp only at this;omega)
 rw[jL]at c;refine ah.fnF func505 results505 ntmps505 rfl rfl rfl (by simp[AV.ids,AV0.ids,Atom.ids]) rfl (fun w0 T B E0 hB=>?_)
 refine SX.goM ?_;exact gM rfl
end
section
theorem apS{vs:List Rat}{K:Nat}(h:∀v∈vs,RB v K)(hK:K≤100000):∀x∈vs.map cq,(Sm WB x.2.1∧Sm WB x.2.2.2)∧x.2.1.length≤100000∧x.2.2.2.length≤100000:=fun x hx=>by
 obtain⟨v,hv,rfl⟩:=List.mem_map.1 hx;exact(vZ0.num (h v hv) hK).q
theorem vZ0.mat{r c:Nat}{vs:List Rat}{K:Nat}(h:∀v∈vs,RB v K)(hK:K≤100000)(hl:vs.length≤100000):vZ0 (dQ r c vs) where
 q:=⟨⟨Sm.nil,Sm.nil⟩,Nat.zero_le _,Nat.zero_le _⟩
 a:=apS h hK
 al:=by rw[zq5];exact hl
 po:=by intro x hx;cases hx
 pol:=Nat.zero_le _
 p:=aS
 fa:=by intro x hx;cases hx
 fal:=Nat.zero_le _
 ri:=by intro x hx;cases hx
 ril:=Nat.zero_le _
 lil:=Nat.zero_le _
theorem as8(r c:Nat)(vs:List Rat):vP (dQ r c vs)=0:=(vP0 _).2 ⟨.inr ⟨rfl,rfl,rfl,rfl⟩,.inl rfl,.inr rfl,.inr ⟨rfl,rfl,rfl⟩,.inr rfl,.inr (.inr rfl),.inr rfl⟩
theorem arY(v:Rat):qOk (cq v)=true:=(ait (ahX v)).2 (by rw[jL])
theorem aaQ{r c n:Nat}(hr:r≤64)(hc:c≤64)(hl:n=r*c):eu (r:Int) (c:Int) n=true:=decide_eq_true ⟨by omega,by omega,by omega,by omega,by rw[hl];simp⟩
theorem arJ(d:Nat){r c:Nat}{vs:List Rat}(hl:vs.length=r*c)(hr:r≤64)(hc:c≤64):vF d (dQ r c vs)=true:=by
 rw[vF_2 (as8 r c vs) rfl];unfold mOk;rw[Bool.and_eq_true];refine⟨List.all_eq_true.2 fun x hx=>?_,aaQ hr hc (by rw[zq5];exact hl)⟩
 obtain⟨v,_,rfl⟩:=List.mem_map.1 hx;exact arY v
attribute [local irreducible] IntKind.wrap Go1 Reg WP aR aU bR bO aN aF ak aj aY Sat
attribute [local irreducible] bS dn cK dD dh qv bW mf PrP qOk zOk vP eu lz vF cq rqv
end
end
section
open Go.ChangeShapes Go.WideShapes Go.ChangeAt Go.Joins
section
variable{H:Type}{enc:TypeId×Value→H}{W:World}{base:Nat}{sp:Nat→Bool}{hd:Bool}
end
def vW1(d:Nat)(v:Vl):Prop:=(v.po.length≤5∧∀x∈v.po,x.2.length≤2)∧v.ri.length≤5∧v.li.length≤4∧(v.li.length=0∨d≠0)∧v.p≤4294967296∧(v.q.2.1.length≤2∧v.q.2.2.2.length≤2)∧adP v.r v.c v.a 4 2∧(v.fr≤4∧v.fc≤4∧v.fa.length≤100)
def vW:Nat→Vl→Prop
 |0,v=>vW1 0 v∧v.li=[]
 |d+1,v=>vW1 (d+1) v∧∀x∈v.li,vW d x
end
section
section
instance zeroZ:agV [.bool false,.slice none 0 0] (z2C (z2v 0)):=⟨fun S w=>⟨rfl,bI.zero,trivial⟩⟩
def pl(zs:List Int):Nat→Nat
 |0=>0
 |k+1=>if zs.getD k 0=0 then pl zs k else k+1
def fB(zs:List Int):Nat:=pl zs zs.length
def dw(zs:List Int):List Int:=zs.take (fB zs)
def pN(zs:List Int):Prop:=zs.length=0∨zs.getD (zs.length - 1) 0≠0
theorem arH(zs:List Int):∀k,pl zs k≤k
 |0=>Nat.le_refl _
 |k+1=>by unfold pl;split;exact Nat.le_succ_of_le (arH zs k);exact Nat.le_refl _
theorem am3(zs:List Int):∀k,pl zs k=0∨zs.getD (pl zs k - 1) 0≠0
 |0=> .inl rfl
 |k+1=>by
  unfold pl;split
  ·exact am3 zs k
  ·next h=>exact .inr h
theorem ahs(zs:List Int):∀(k j:Nat),pl zs k≤j→j < k→zs.getD j 0=0
 |0,j,_,h=>absurd h (Nat.not_lt_zero _)
 |k+1,j,h1,h2=>by
  unfold pl at h1
  split at h1
  ·next h=>
   by_cases hj:j=k
   ·subst hj;exact h
   ·exact ahs zs k j h1 (by omega)
  ·omega
theorem aji(zs:List Int):fB zs≤zs.length:=arH zs _
theorem wJ(zs:List Int):(dw zs).length=fB zs:=by unfold dw;rw[List.length_take];exact Nat.min_eq_left (aji zs)
theorem oz{zs:List Int}{j:Nat}(h:zs.length≤j):zs.getD j 0=0:=by rw[zq3,List.getElem?_eq_none h];rfl
theorem af6(zs:List Int)(j:Nat):(dw zs).getD j 0=zs.getD j 0:=by
 by_cases h:j < fB zs
 ·unfold dw;rw[zq3,List.getElem?_take,if_pos h,←zq3]
 ·rw[oz (by rw[wJ];omega)]
  by_cases h2:j < zs.length
  ·exact(ahs zs _ j (by unfold fB at h;omega) h2).symm
  ·exact(oz (by omega)).symm
theorem amT(zs:List Int):pN (dw zs):=by
 rcases am3 zs zs.length with h|h
 ·exact .inl (by rw[wJ];exact h)
 ·exact .inr (by rw[wJ,af6];exact h)
theorem akZ{a b:List Int}(ha:pN a)(hb:pN b)(h:∀j,a.getD j 0=b.getD j 0):a=b:=by
 have key:∀{a b:List Int},pN a→(∀j,a.getD j 0=b.getD j 0)→a.length≤b.length:=fun {a b} ha h=>by
  rcases ha with h0|h0
  ·omega
  ·rcases Nat.lt_or_ge b.length a.length with h1|h1
   ·rw[h,oz (by omega)]at h0;exact absurd rfl h0
   ·exact h1
 have hl:a.length=b.length:=Nat.le_antisymm (key ha h) (key hb fun j=>(h j).symm)
 apply List.ext_getElem?;intro j
 by_cases hj:j < a.length
 ·have:=h j;rw[zq3,zq3,zq2 hj,zq2 (by omega)]at this
  rw[zq2 hj,zq2 (by omega)]
  exact congrArg some this
 ·rw[List.getElem?_eq_none (by omega),List.getElem?_eq_none (by omega)]
def ac6(n:Nat)(f:Nat→Int):List Int:=(List.range n).map f
theorem afo(n:Nat)(f:Nat→Int):(ac6 n f).length=n:=by unfold ac6;rw[zq5,List.length_range]
theorem apW{n:Nat}{f:Nat→Int}{j:Nat}(h:j < n):(ac6 n f).getD j 0=f j:=by
 unfold ac6;rw[zq3,List.getElem?_map,List.getElem?_range h];rfl
def dN(op:Int→Int→Int)(a b:List Int):List Int:=dw (ac6 (max a.length b.length) fun i=>op (a.getD i 0) (b.getD i 0))
theorem amX{op:Int→Int→Int}(h0:op 0 0=0)(a b:List Int)(j:Nat):(dN op a b).getD j 0=op (a.getD j 0) (b.getD j 0):=by
 unfold dN;rw[af6];by_cases h:j < max a.length b.length
 ·exact apW h
 ·rw[oz (by rw[afo];omega),oz (zs:=a) (by omega),oz (zs:=b) (by omega),h0]
def ajZ(l:List Z2)(i:Nat):Z2:=l.getD i (z2v 0)
theorem ZQ.zero(K:Nat):ZQ (z2v 0) 0 K:=ZQ.made (z:=0) (by rw[show (0:Int).natAbs=0 from rfl];exact fF K)
theorem MZ.pat{l:List Z2}{zs:List Int}{K:Nat}(h:MZ l zs K)(i:Nat):ZQ (ajZ l i) (zs.getD i 0) K:=by
 unfold ajZ;rw[zq3,zq3]
 have hl:=h.len;by_cases hi:i < l.length
 ·rw[zq2 hi,zq2 (by omega)]
  exact h.z i _ _ (zq2 hi) (zq2 (by omega))
 ·rw[List.getElem?_eq_none (by omega),List.getElem?_eq_none (by omega)]
  exact ZQ.zero K
theorem ap1{f:Nat→Z2}{z:Z2}{n k:Nat}(hk:k < n):((List.range n).map fun i=>if i < k then f i else z).set k (f k)=(List.range n).map fun i=>if i < k+1 then f i else z:=by
 apply List.ext_getElem?
 intro j;rw[List.getElem?_set]
 by_cases hj:k=j
 ·subst hj;rw[if_pos rfl,if_pos (by rw[zq5,List.length_range];exact hk),List.getElem?_map,List.getElem?_range hk]
  simp
 ·rw[if_neg hj,List.getElem?_map,List.getElem?_map]
  by_cases hjn:j < n
  ·rw[List.getElem?_range hjn]
   simp only[Option.map_some];by_cases h1:j < k
   ·rw[if_pos h1,if_pos (by omega)]
   ·rw[if_neg h1,if_neg (by omega)]
  ·rw[List.getElem?_eq_none (by rw[List.length_range];omega)];rfl
theorem apK{f:Nat→Z2}{z:Z2}{n:Nat}:((List.range n).map fun i=>if i < n then f i else z)=(List.range n).map f:=by
 refine List.map_congr_left fun i hi=>?_
 rw[if_pos (List.mem_range.1 hi)]
theorem aoZ{f:Nat→Z2}{z:Z2}{n:Nat}:(List.replicate n (z2C z)).flatten=((List.range n).map fun i=>if i < 0 then f i else z).flatMap z2C:=by
 have:((List.range n).map fun i=>if i < 0 then f i else z)=List.replicate n z:=by
  apply List.ext_getElem?;intro j
  rw[List.getElem?_map,List.getElem?_replicate]
  by_cases hj:j < n
  ·rw[List.getElem?_range hj,if_pos hj];simp
  ·rw[List.getElem?_eq_none (by rw[List.length_range];omega),if_neg hj];rfl
 rw[this,List.flatMap,List.map_replicate]
attribute [local irreducible] IntKind.wrap Go1 Reg WP aR aU bR bO aN aF ak aj aY Sat
attribute [local irreducible] bS dn cK dD dh qv bW mf PrP qOk zOk vP eu lz vF cq rqv fB
theorem ahK(l:List Z2)(i:Nat)(hl:l.length≤1000000):ah prog 178 [.r (aA 2 z2C l),.v (.int .i64 (i:Int))] (.agg (z2A (ajZ l i))):=by
 unfold ajZ;rw[zq3]
 refine ah.fnF func178 results178 ntmps178 rfl rfl rfl (by simp[AV.ids,AV0.ids,Atom.ids]) rfl (fun w0 T B E0 hB=>?_)
 by_cases h:i < l.length
 ·obtain⟨q,hq⟩:∃q,l[i]? =some q:=⟨_,zq2 h⟩
  rw[hq];refine SX.goM ?_;exact kR (ak.iV rfl rfl rfl) rfl
 ·rw[List.getElem?_eq_none (by omega)]
  refine SX.goM ?_;refine aa5 (ak.iV rfl rfl rfl) ?_;exact uh
theorem aj9{l:List Z2}{zs:List Int}{K:Nat}(hM:MZ l zs K)(hK:K≤1000000)(hl:l.length≤100000):ah prog 23 [.r (aA 2 z2C l)] (.r (aA 2 z2C ((dw zs).map z2v))):=by
 have hlen:=hM.len;have hle:=aji zs;refine ah.fnF func23 results23 ntmps23 rfl rfl rfl (by simp[AV.ids,AV0.ids,Atom.ids]) rfl (fun w0 T B E0 hB=>?_)
 refine SX.goM ?_;refine W.loop (fun k=>k≤l.length∧pl zs k=fB zs) (fun k=>[(0,.r (aA 2 z2C l)),(3,.v (.int .i64 (k:Int)))]) (fun _=>[]) (fun k=>k) l.length ⟨Nat.le_refl _,by rw[hlen];unfold fB;rfl⟩ (fun k ⟨hk,he⟩=>?_)
 by_cases h0:0 < k
 ·obtain⟨m,rfl⟩:∃m,k=m+1:=⟨k - 1,by omega⟩
  obtain⟨q,hq⟩:∃q,l[m+1 - 1]? =some q:=⟨_,zq2 (by omega)⟩
  have hq':l[m]? =some q:=hq;obtain⟨z,hz⟩:∃z,zs[m]? =some z:=⟨_,zq2 (by omega)⟩
  have hg:zs.getD m 0=z:=by rw[zq3,hz];rfl
  have zq:=hM.z m q z hq' hz;have cS:=(qZ (h:=zq.zi)).h (by omega)
  have hs0:bq z=0↔z=0:=by unfold bq;(repeat' split) <;> omega
  unfold pl at he;rw[hg]at he;by_cases hz0:z=0
  ·rw[if_pos hz0]at he;have h1:=hs0.2 hz0;refine SX.goM ?_;exact W.next m ⟨by omega,he⟩ (by omega)
  ·rw[if_neg hz0]at he;have h1:¬bq z=0:=fun e=>hz0 (hs0.1 e)
   rw[←he]at hle;have e3:(l.take (m+1)).length=m+1:=by rw[List.length_take];omega
   refine SX.goM ?_;refine W.loop (fun j=>j≤m+1) (fun j=>[(4,.own 100),(24,.r (aA 2 z2C (l.take (m+1)))),(25,.v (.int .i64 ((m+1:Nat):Int))),(26,.v (.int .i64 (j:Int)))]) (fun j=>[(100,.row 31 2 j (((zs.take j).map z2v).flatMap z2C))]) (fun j=>m+1 - j) 0 (Nat.zero_le _) (fun j hj=>?_)
    (by
     refine SX.St.aZ [(100,none)] (by intro b h;cases h) ?_ ?_ rfl
     ·repeat(first|exact trivial|refine⟨⟨_,rfl,SX.aG.same rfl⟩,?_⟩|refine⟨⟨_,rfl,SX.aG.nil rfl⟩,?_⟩|refine⟨⟨_,rfl,SX.aG.int (by rw[e3])⟩,?_⟩)
     ·exact⟨SX.ay.dF rfl,trivial⟩)
   by_cases h2:j < m+1
   ·obtain⟨q2,hq2⟩:∃q2,l[j]? =some q2:=⟨_,zq2 (by omega)⟩
    have hq3:(l.take (m+1))[j]? =some q2:=by rw[List.getElem?_take,if_pos h2];exact hq2
    have h3:j < (l.take (m+1)).length:=by omega
    obtain⟨z2,hz2⟩:∃z2,zs[j]? =some z2:=⟨_,zq2 (by omega)⟩
    have cF:=aha (hM.z j q2 z2 hq2 hz2) hK;have e2:((zs.take j).map z2v).flatMap z2C++z2C (z2v z2)=((zs.take (j+1)).map z2v).flatMap z2C:=by rw[List.take_add_one,hz2];simp
    refine SX.goM ?_;refine W.next (j+1) h2 (by omega) (by
     refine SX.St.aZ [(100,some 37)] (by intro b h;cases h) ?_ ?_ rfl
     ·repeat(first|exact trivial|refine⟨⟨_,rfl,SX.aG.same rfl⟩,?_⟩|refine⟨⟨_,rfl,SX.aG.own rfl⟩,?_⟩)
     ·exact⟨SX.ay.row rfl rfl rfl e2,trivial⟩)
   ·obtain rfl:j=m+1:=by omega
    refine SX.goM ?_;refine aN.frz 100 ?_;refine akO ?_;unfold dw;rw[←he];show AV0.one (.c (.sat (aL 2 (m+1) _)))= .one (.c (.sat (aL 2 ((zs.take (m+1)).map z2v).length _)));rw[zq5,List.length_take,Nat.min_eq_left (by omega)]
 ·obtain rfl:k=0:=by omega
  have he':fB zs=0:=he.symm;refine SX.goM ?_;refine W.loop (fun j:Nat=>j=0) (fun j=>[(4,.v (.slice none 0 0)),(25,.v (.int .i64 0)),(26,.v (.int .i64 (j:Int)))]) (fun _=>[]) (fun j=>j) 0 rfl (fun j hj=>?_)
  subst hj;refine SX.goM ?_;refine adW ?_;unfold dw;rw[he'];exact fun E S w v h=>(aO.nil (α:=Z2) (enc:=z2C) (size:=2)) E S w v h
end
section
theorem at5{n K:Nat}{f:Nat→Int}(h:∀i,i < n→(f i).natAbs < WB ^ K):MZ ((List.range n).map fun i=>z2v (f i)) (ac6 n f) K:=by
 refine⟨by rw[zq5,List.length_range,afo],fun i q z hq hz=>?_⟩
 have hi:i < n:=by have:=u7 hq;rwa [zq5,List.length_range]at this
 rw[List.getElem?_map,List.getElem?_range hi]at hq
 unfold ac6 at hz;rw[List.getElem?_map,List.getElem?_range hi]at hz
 cases hq;cases hz;exact ZQ.made (h i hi)
theorem apq{n:Nat}{l:List Z2}(h:l.length=n):aA 2 z2C l=aL 2 n (l.flatMap z2C):=by subst h;rfl
attribute [local irreducible] IntKind.wrap Go1 Reg WP aR aU bR bO aN aF ak aj aY Sat
attribute [local irreducible] bS dn cK dD dh qv bW mf PrP qOk zOk vP eu lz vF cq rqv fB dw
theorem amC{l l':List Z2}{zs zs':List Int}{K K' L:Nat}(op:Int→Int→Int)(x:CA)(hx1:x.dL=true)(hM:MZ l zs K)(hM':MZ l' zs' K')(hl:l.length≤10000)(hl':l'.length≤10000)
  (hx:∀i,FnV prog x [.agg (z2A (ajZ l i)),.agg (z2A (ajZ l' i))] (.agg (zN (op (zs.getD i 0) (zs'.getD i 0))))) (hb:∀i,(op (zs.getD i 0) (zs'.getD i 0)).natAbs < WB ^ L) (hL:L≤1000000):
  ah prog 287 [.r (aA 2 z2C l),.r (aA 2 z2C l'),.it (.one (.c x))] (.r (aA 2 z2C ((dN op zs zs').map z2v))):=by
 have cN:ah prog 23 [.r (aL 2 (max l.length l'.length) (((List.range (max l.length l'.length)).map fun i=>z2v (op (zs.getD i 0) (zs'.getD i 0))).flatMap z2C))] (.r (aA 2 z2C ((dN op zs zs').map z2v))):=by
  have h:=aj9 (at5 (n:=max l.length l'.length) (f:=fun i=>op (zs.getD i 0) (zs'.getD i 0)) fun i _=>hb i) hL (by rw[zq5,List.length_range];omega)
  rw[apq (n:=max l.length l'.length) (by rw[zq5,List.length_range])]at h
  unfold dN;rw[←hM.len,←hM'.len];exact h
 have hm:max l.length l'.length≤10000:=by omega
 refine ah.fnF func287 results287 ntmps287 rfl rfl rfl (by simp[AV.ids,AV0.ids,Atom.ids]) rfl (fun w0 T B E0 hB=>?_)
 refine SX.goM ?_;refine W.loop (fun k=>k≤max l.length l'.length) (fun k=>[(0,.r (aA 2 z2C l)),(1,.r (aA 2 z2C l')),(2,.it (.one (.c x))),(7,.own 100),(16,.v (.int .i64 ((max l.length l'.length:Nat):Int))),(17,.v (.int .i64 (k:Int)))]) (fun k=>[(100,.row 31 2 (max l.length l'.length) (((List.range (max l.length l'.length)).map fun i=>if i < k then z2v (op (zs.getD i 0) (zs'.getD i 0))else z2v 0).flatMap z2C))]) (fun k=>max l.length l'.length - k) 0 (Nat.zero_le _) (fun k hk=>?_)
  (by
   refine SX.St.aZ [(100,some 14)] (by intro b h;cases h) ?_ ?_ rfl
   ·repeat(first|exact trivial|refine⟨⟨_,rfl,SX.aG.same rfl⟩,?_⟩|refine⟨⟨_,rfl,SX.aG.own rfl⟩,?_⟩)
   ·exact⟨SX.ay.row rfl rfl rfl (aoZ (f:=fun i=>z2v (op (zs.getD i 0) (zs'.getD i 0)))),trivial⟩)
 by_cases h:k < max l.length l'.length
 ·have c1:=ahK l k (by omega)
  have c2:=ahK l' k (by omega)
  have c3:=hx k;have e2:((List.range (max l.length l'.length)).map fun i=>if i < k then z2v (op (zs.getD i 0) (zs'.getD i 0))else z2v 0).length=max l.length l'.length:=by rw[zq5,List.length_range]
  have e3:=ap1 (f:=fun i=>z2v (op (zs.getD i 0) (zs'.getD i 0))) (z:=z2v 0) h
  refine SX.goM ?_;refine SX.G.zI (a:=z2v (op (zs.getD k 0) (zs'.getD k 0))) ?_;rw[e3];refine SX.goM ?_;exact W.next (k+1) h (by omega)
 ·obtain rfl:k=max l.length l'.length:=by omega
  rw[apK];refine SX.WP.freeze 100 hB rfl ?_;refine SX.goM ?_;exact akO rfl
theorem yT{P:Program}{f g:FuncId}{a b r:AV}(h:ah P f [a,b,.it (.one (.c (.sat (dO g [] []))))] r):ah P f [a,b,.it (.one (.clo g []))] r:=
 weakArgs h fun E S w vs hv=>by
  match vs,hv with
  |[u1,u2,u3],⟨h1,h2,h3,_⟩=>exact⟨h1,h2,aiL h3,trivial⟩
abbrev abj:=dN (· - ·)
theorem amJ{l l':List Z2}{zs zs':List Int}{K K':Nat}(hM:MZ l zs K)(hM':MZ l' zs' K')(hl:l.length≤10000)(hl':l'.length≤10000)(hK:K+K'≤100000):
  ah prog 181 [.r (aA 2 z2C l),.r (aA 2 z2C l')] (.r (aA 2 z2C ((abj zs zs').map z2v))):=by
 have c:=yT (amC (· - ·) (.sat (dO 75 [] [])) rfl hM hM' hl hl' (fun i=>FnV.const ((amO (h:=(hM.pat i).zi) (h':=(hM'.pat i).zi)).h (by omega))) (L:=K+K'+1) (fun i=>by
  have h2:(-(zs'.getD i 0)).natAbs < WB ^ K':=by rw[Int.natAbs_neg];exact(hM'.pat i).b
  have:=adr (hM.pat i).b h2
  rwa [←Int.sub_eq_add_neg]at this) (by omega))
 refine ah.fnF func181 results181 ntmps181 rfl rfl rfl (by simp[AV.ids,AV0.ids,Atom.ids]) rfl (fun w0 T B E0 hB=>?_)
 refine SX.goM ?_;exact akO rfl
theorem ahE(a b:List Int)(j:Nat):(abj a b).getD j 0=a.getD j 0 - b.getD j 0:=amX (op:=(· - ·)) rfl a b j
theorem alf(op:Int→Int→Int)(a b:List Int):pN (dN op a b):=by unfold dN;exact amT _
theorem amq{a b:List Int}(ha:pN a)(hb:pN b):(abj a b).length=0↔a=b:=by
 constructor
 ·intro h;refine akZ ha hb fun j=>?_
  have h2:=ahE a b j;have h3:(abj a b).getD j 0=0:=oz (by omega)
  omega
 ·rintro rfl;have h2:∀j,(abj a a).getD j 0=([]:List Int).getD j 0:=fun j=>by
   rw[ahE];show a.getD j 0 - a.getD j 0=0;omega
  have h3:abj a a=[]:=akZ (alf _ a a) (.inl rfl) h2;rw[h3];rfl
theorem akz{l l':List Z2}{zs zs':List Int}{K K':Nat}(hM:MZ l zs K)(hM':MZ l' zs' K')(hl:l.length≤10000)(hl':l'.length≤10000)(hK:K+K'≤100000)(hn:pN zs)(hn':pN zs'):
  ah prog 208 [.r (aA 2 z2C l),.r (aA 2 z2C l')] (.v (.bool (decide (zs=zs')))):=by
 have c:=amJ hM hM' hl hl' hK;have hlen:((abj zs zs').map z2v).length=(abj zs zs').length:=zq5 _;rw[show decide (zs=zs')=decide ((abj zs zs').length=0)from decide_eq_decide.2 (amq hn hn').symm]
 refine ah.fnF func208 results208 ntmps208 rfl rfl rfl (by simp[AV.ids,AV0.ids,Atom.ids]) rfl (fun w0 T B E0 hB=>?_)
 refine SX.goM ?_;refine aP ?_;rw[decide_eq_decide];omega
def d9(zs:List Int)(d:Int):List Int:=dw (zs.map (· *d))
end
section
theorem PrP.lt{p:Nat}(h:PrP p):2≤p∧p < 2147483648:=⟨h.1,h.2.1⟩
abbrev gfA(p:Nat):List Atom:=[.c (.val (.int .u64 (p:Int)))]
def eqL{α:Type}(p:α→α→Bool):List α→List α→Bool
 |[],[]=>true
 |a::l,b::l'=>p a b&&eqL p l l'
 |_,_=>false
theorem tY{α:Type}{p:α→α→Bool}:∀{l l':List α},l.length≠l'.length→eqL p l l'=false
 |[],[],h=>absurd rfl h
 |[],_::_,_=>rfl
 |_::_,[],_=>rfl
 |a::l,b::l',h=>by rw[eqL,tY (l:=l) (l':=l') (fun e=>h (by rw[List.length_cons,List.length_cons,e])),Bool.and_false]
theorem vR{α:Type}{p:α→α→Bool}{l l':List α}{k:Nat}{a b:α}(h:l[k]? =some a)(h':l'[k]? =some b):eqL p (l.drop k) (l'.drop k)=(p a b&&eqL p (l.drop (k+1)) (l'.drop (k+1))):=by
 obtain⟨h1,rfl⟩:=List.getElem?_eq_some_iff.1 h
 obtain⟨h2,rfl⟩:=List.getElem?_eq_some_iff.1 h'
 rw[List.drop_eq_getElem_cons h1,List.drop_eq_getElem_cons h2,eqL]
theorem uW{α:Type}{p:α→α→Bool}:∀{l l':List α},(∀a∈l,∀b∈l',p a b=true↔a=b)→(eqL p l l'=true↔l=l')
 |[],[],_=>by simp[eqL]
 |[],_::_,_=>by simp[eqL]
 |_::_,[],_=>by simp[eqL]
 |a::l,b::l',h=>by
  rw[eqL,Bool.and_eq_true,h a (List.mem_cons_self ..) b (List.mem_cons_self ..),uW (l:=l) (l':=l') fun x hx y hy=>h x (List.mem_cons_of_mem _ hx) y (List.mem_cons_of_mem _ hy)]
  simp
attribute [local irreducible] IntKind.wrap Go1 Reg WP aR aU bR bO aN aF ak aj aY Sat
attribute [local irreducible] bS dn cK dD dh qv bW mf PrP qOk zOk vP eu lz vF cq rqv fB dw
theorem akS{p:Nat}(h:PrP p):ah prog 61 [.v (.int .u64 (p:Int))] (.tup [.agg (gfA p),.one (.c (.val (.bool true)))]):=by
 have hp:=h.lt;have c:=zX p (by omega)
 rw[decide_eq_true h]at c;refine ah.fnF func61 results61 ntmps61 rfl rfl rfl (by simp[AV.ids,AV0.ids,Atom.ids]) rfl (fun w0 T B E0 hB=>?_)
 refine SX.goM ?_;exact .ok (aF.mk2 (ak.agg1 rfl rfl rfl) (ak.tmp rfl))
theorem aqA{p:Nat}(h:PrP p):ah prog 113 [.agg (gfA p)] (.v (.int .u64 (p:Int))):=by
 have hp:=h.lt;refine ah.fnF func113 results113 ntmps113 rfl rfl rfl (by simp[AV.ids,AV0.ids,Atom.ids]) rfl (fun w0 T B E0 hB=>?_)
 refine SX.goM ?_;exact gM rfl
theorem zP{p:Nat}(h:PrP p)(x:Nat)(hx:x < 18446744073709551616):ah prog 115 [.agg (gfA p),.v (.int .u64 (x:Int))] (.v (.int .u64 ((x % p:Nat):Int))):=by
 have hp:=h.lt;have c:=aqA h;have hr:IntKind.u64.wrap ((x:Int).tmod (p:Int))=((x % p:Nat):Int):=by rw[zY];exact wrapN (Nat.lt_of_le_of_lt (Nat.mod_le x p) hx)
 refine ah.fnF func115 results115 ntmps115 rfl rfl rfl (by simp[AV.ids,AV0.ids,Atom.ids]) rfl (fun w0 T B E0 hB=>?_)
 refine SX.goM ?_;exact gM rfl
theorem akj(v:Vl)(h:PrP v.p):ah prog 210 [.agg (vlA v)] (.agg (gfA v.p)):=by
 have c:=akS h;refine ah.fnF func210 results210 ntmps210 rfl rfl rfl (by simp[AV.ids,AV0.ids,Atom.ids]) rfl (fun w0 T B E0 hB=>?_)
 refine SX.goM ?_;exact kR (ak.agg1 rfl rfl rfl) rfl
abbrev fmA(r c:Nat)(l:List Nat):List Atom:=[.c (.val (.int .i64 (r:Int))),.c (.val (.int .i64 (c:Int))),.c (.sat (aA 1 wdC l))]
theorem ana{r c:Nat}{l:List Nat}(hl:l.length=r*c)(hr:r≤64)(hc:c≤64):ah prog 223 [.agg (fmA r c l)] (.v (.bool true)):=by
 have h:ah prog 223 [.agg (fmA r c l)] (.v (.bool (eu r c l.length))):=xX r c;rw[aaQ hr hc hl]at h;exact h
theorem ag2{r c r' c':Nat}{l l':List Nat}(hl:l.length=r*c)(hl':l'.length=r'*c')(hr:r≤64)(hc:c≤64)(hr':r'≤64)(hc':c'≤64):
  ah prog 308 [.agg (fmA r c l),.agg (fmA r' c' l')] (.v (.bool (decide (r=r'∧c=c')))):=by
 have cF:=ana hl hr hc;have cF':=ana hl' hr' hc';refine ah.fnF func308 results308 ntmps308 rfl rfl rfl (by simp[AV.ids,AV0.ids,Atom.ids]) rfl (fun w0 T B E0 hB=>?_)
 by_cases h1:(r:Int)=(r':Int)
 ·refine SX.goM ?_;refine aP ?_;rw[decide_eq_decide];omega
 ·refine SX.goM ?_;refine aP ?_;exact(decide_eq_false fun h=>h1 (by omega)).symm
theorem amk(l l':List gW)(x:CA)(p:gW→gW→Bool)(hx:∀v∈l,∀u∈l',FnV prog x [.agg (q4A (rq v)),.agg (q4A (rq u))] (.v (.bool (p v u))))(hl:l.length≤100000)(hl':l'.length≤100000)(hx1:x.dL=true):
  ah prog 306 [.r (aA 4 q4C (l.map rq)),.r (aA 4 q4C (l'.map rq)),.it (.one (.c x))] (.v (.bool (eqL p l l'))):=by
 have e1:(l.map rq).length=l.length:=zq5 _;have e2:(l'.map rq).length=l'.length:=zq5 _;refine ah.fnF func306 results306 ntmps306 rfl rfl rfl (by simp[AV.ids,AV0.ids,Atom.ids]) rfl (fun w0 T B E0 hB=>?_)
 by_cases hne:l.length=l'.length
 rotate_left
 ·rw[tY hne];refine SX.goM ?_;exact aP rfl
 refine SX.goM ?_;refine W.loop (fun k=>k≤l.length∧eqL p (l.drop k) (l'.drop k)=eqL p l l') (fun k=>[(1,.r (aA 4 q4C (l'.map rq))),(2,.it (.one (.c x))),(15,.r (aA 4 q4C (l.map rq))),(16,.v (.int .i64 ((l.map rq).length:Int))),(17,.v (.int .i64 (k:Int)))]) (fun _=>[]) (fun k=>l.length - k) 0 ⟨Nat.zero_le _,rfl⟩ (fun k ⟨hk,he⟩=>?_)
 by_cases h:k < l.length
 ·obtain⟨a,ha⟩:∃a,l[k]? =some a:=⟨_,zq2 h⟩
  obtain⟨b,hb⟩:∃b,l'[k]? =some b:=⟨_,zq2 (by omega)⟩
  have hf:=hx a (zq4 ha) b (zq4 hb);have hq:(l.map rq)[k]? =some (rq a):=by rw[List.getElem?_map,ha];rfl
  have hq':(l'.map rq)[k]? =some (rq b):=by rw[List.getElem?_map,hb];rfl
  have h1:k < (l.map rq).length:=by rw[zq5];exact h
  have h2:k < (l'.map rq).length:=by rw[zq5];omega
  rw[vR ha hb]at he;cases hp:p a b with
  |false=>
   rw[hp]at hf he;refine SX.goM ?_;refine aP ?_;rw[←he];rfl
  |true=>
   rw[hp]at hf he;refine SX.goM ?_;exact W.next (k+1) ⟨h,he⟩ (by omega)
 ·obtain rfl:k=l.length:=by omega
  rw[List.drop_length,hne,List.drop_length]at he;refine SX.goM ?_;refine aP ?_;rw[←he];rfl
theorem ajX(l l':List gW)(f:FuncId)(p:gW→gW→Bool)(hx:∀v∈l,∀u∈l',ah prog f [.agg (q4A (rq v)),.agg (q4A (rq u))] (.v (.bool (p v u))))(hl:l.length≤100000)(hl':l'.length≤100000):
  ah prog 306 [.r (aA 4 q4C (l.map rq)),.r (aA 4 q4C (l'.map rq)),.it (.one (.clo f []))] (.v (.bool (eqL p l l'))):=
 yT (amk l l' (.sat (dO f [] [])) p (fun v h u h'=>FnV.const (hx v h u h')) hl hl' rfl)
theorem amB(l l':List Nat)(x:CA)(p:Nat→Nat→Bool)(hx:∀v∈l,∀u∈l',FnV prog x [.v (.int .u64 (v:Int)),.v (.int .u64 (u:Int))] (.v (.bool (p v u))))(hl:l.length≤100000)(hl':l'.length≤100000)(hx1:x.dL=true):
  ah prog 309 [.r (aA 1 wdC l),.r (aA 1 wdC l'),.it (.one (.c x))] (.v (.bool (eqL p l l'))):=by
 refine ah.fnF func309 results309 ntmps309 rfl rfl rfl (by simp[AV.ids,AV0.ids,Atom.ids]) rfl (fun w0 T B E0 hB=>?_)
 by_cases hne:l.length=l'.length
 rotate_left
 ·rw[tY hne];refine SX.goM ?_;exact aP rfl
 refine SX.goM ?_;refine W.loop (fun k=>k≤l.length∧eqL p (l.drop k) (l'.drop k)=eqL p l l') (fun k=>[(1,.r (aA 1 wdC l')),(2,.it (.one (.c x))),(15,.r (aA 1 wdC l)),(16,.v (.int .i64 (l.length:Int))),(17,.v (.int .i64 (k:Int)))]) (fun _=>[]) (fun k=>l.length - k) 0 ⟨Nat.zero_le _,rfl⟩ (fun k ⟨hk,he⟩=>?_)
 by_cases h:k < l.length
 ·obtain⟨a,ha⟩:∃a,l[k]? =some a:=⟨_,zq2 h⟩
  obtain⟨b,hb⟩:∃b,l'[k]? =some b:=⟨_,zq2 (by omega)⟩
  have hf:=hx a (zq4 ha) b (zq4 hb);rw[vR ha hb]at he;cases hp:p a b with
  |false=>
   rw[hp]at hf he;refine SX.goM ?_;refine aP ?_;rw[←he];rfl
  |true=>
   rw[hp]at hf he;refine SX.goM ?_;exact W.next (k+1) ⟨h,he⟩ (by omega)
 ·obtain rfl:k=l.length:=by omega
  rw[List.drop_length,hne,List.drop_length]at he;refine SX.goM ?_;refine aP ?_;rw[←he];rfl
theorem al2(l l':List Vl)(x:CA)(p:Vl→Vl→Bool)(hx:∀v∈l,∀u∈l',FnV prog x [.agg (vlA v),.agg (vlA u)] (.v (.bool (p v u))))(hl:l.length≤100000)(hl':l'.length≤100000)(hx1:x.dL=true):
  ah prog 212 [.r (aA 15 vlC l),.r (aA 15 vlC l'),.it (.one (.c x))] (.v (.bool (eqL p l l'))):=by
 rw[yM,yM];refine ah.fnF func212 results212 ntmps212 rfl rfl rfl (by simp[AV.ids,AV0.ids,Atom.ids]) rfl (fun w0 T B E0 hB=>?_)
 by_cases hne:l.length=l'.length
 rotate_left
 ·rw[tY hne];refine SX.goM ?_;exact aP rfl
 refine SX.goM ?_;refine W.loop (fun k=>k≤l.length∧eqL p (l.drop k) (l'.drop k)=eqL p l l') (fun k=>[(1,.r (aA 15 vlE l')),(2,.it (.one (.c x))),(15,.r (aA 15 vlE l)),(16,.v (.int .i64 (l.length:Int))),(17,.v (.int .i64 (k:Int)))]) (fun _=>[]) (fun k=>l.length - k) 0 ⟨Nat.zero_le _,rfl⟩ (fun k ⟨hk,he⟩=>?_)
 by_cases h:k < l.length
 ·obtain⟨a,ha⟩:∃a,l[k]? =some a:=⟨_,zq2 h⟩
  obtain⟨b,hb⟩:∃b,l'[k]? =some b:=⟨_,zq2 (by omega)⟩
  have hf:=hx a (zq4 ha) b (zq4 hb);rw[vR ha hb]at he;cases hp:p a b with
  |false=>
   rw[hp]at hf he;refine SX.goM ?_;refine aP ?_;rw[←he];rfl
  |true=>
   rw[hp]at hf he;refine SX.goM ?_;exact W.next (k+1) ⟨h,he⟩ (by omega)
 ·obtain rfl:k=l.length:=by omega
  rw[List.drop_length,hne,List.drop_length]at he;refine SX.goM ?_;refine aP ?_;rw[←he];rfl
theorem ajF(l l':List Vl)(f:FuncId)(p:Vl→Vl→Bool)(hx:∀v∈l,∀u∈l',ah prog f [.agg (vlA v),.agg (vlA u)] (.v (.bool (p v u))))(hl:l.length≤100000)(hl':l'.length≤100000):
  ah prog 212 [.r (aA 15 vlC l),.r (aA 15 vlC l'),.it (.one (.clo f []))] (.v (.bool (eqL p l l'))):=
 yT (al2 l l' (.sat (dO f [] [])) p (fun v h u h'=>FnV.const (hx v h u h')) hl hl' rfl)
theorem agp(l l':List Nat)(hl:l.length≤100000)(hl':l'.length≤100000):ah prog 211 [.r (aA 1 wdC l),.r (aA 1 wdC l')] (.v (.bool (decide (l=l')))):=by
 have e:decide (l=l')=eqL (fun a b=>decide (a=b)) l l':=by
  rw[Bool.eq_iff_iff,decide_eq_true_iff];exact(uW fun a _ b _=>by rw[decide_eq_true_iff]).symm
 rw[e];refine ah.fnF func211 results211 ntmps211 rfl rfl rfl (by simp[AV.ids,AV0.ids,Atom.ids]) rfl (fun w0 T B E0 hB=>?_)
 by_cases hne:l.length=l'.length
 rotate_left
 ·rw[tY hne];refine SX.goM ?_;exact aP rfl
 refine SX.goM ?_;refine W.loop (fun k=>k≤l.length∧eqL (fun a b=>decide (a=b)) (l.drop k) (l'.drop k)=eqL (fun a b=>decide (a=b)) l l') (fun k=>[(0,.r (aA 1 wdC l)),(1,.r (aA 1 wdC l')),(12,.v (.int .i64 (l.length:Int))),(13,.v (.int .i64 (k:Int)))]) (fun _=>[]) (fun k=>l.length - k) 0 ⟨Nat.zero_le _,rfl⟩ (fun k ⟨hk,he⟩=>?_)
 by_cases h:k < l.length
 ·obtain⟨a,ha⟩:∃a,l[k]? =some a:=⟨_,zq2 h⟩
  obtain⟨b,hb⟩:∃b,l'[k]? =some b:=⟨_,zq2 (by omega)⟩
  rw[vR ha hb]at he;by_cases hab:a=b
  ·have hab':(a:Int)=(b:Int):=by omega
   rw[decide_eq_true hab]at he;refine SX.goM ?_;exact W.next (k+1) ⟨h,he⟩ (by omega)
  ·have hab':¬(a:Int)=(b:Int):=by omega
   rw[decide_eq_false hab]at he;refine SX.goM ?_;refine aP ?_;rw[←he];rfl
 ·obtain rfl:k=l.length:=by omega
  rw[List.drop_length,hne,List.drop_length]at he;refine SX.goM ?_;refine aP ?_;rw[←he];rfl
theorem agU{p:Nat}(h:PrP p)(x y:Nat)(hx:x < p)(hy:y < p):ah prog 310 [.v (.int .u64 (x:Int)),.v (.int .u64 (y:Int)),.r (bJ [.val (.int .u64 (p:Int))])] (.v (.bool (decide (x=y)))):=by
 have hp:=h.lt;have c1:=zP h x (by omega)
 have c2:=zP h y (by omega)
 rw[Nat.mod_eq_of_lt hx]at c1;rw[Nat.mod_eq_of_lt hy]at c2;refine ah.fnF func310 results310 ntmps310 rfl rfl rfl (by simp[AV.ids,AV0.ids,Atom.ids]) rfl (fun w0 T B E0 hB=>?_)
 refine SX.goM ?_;refine aP ?_;rw[decide_eq_decide];omega
theorem akg{p r c r' c':Nat}{l l':List Nat}(h:PrP p)(hl:l.length=r*c)(hl':l'.length=r'*c')(hr:r≤64)(hc:c≤64)(hr':r'≤64)(hc':c'≤64)(hb:∀x∈l,x < p)(hb':∀x∈l',x < p):
  ah prog 209 [.agg (gfA p),.agg (fmA r c l),.agg (fmA r' c' l')] (.v (.bool (decide (r=r'∧c=c'∧l=l')))):=by
 have cA:=ag2 hl hl' hr hc hr' hc';have m1:=Nat.mul_le_mul hr hc;have m2:=Nat.mul_le_mul hr' hc';have cE:=amB l l' (.sat (dO 310 [] [.sat (bJ [.val (.int .u64 (p:Int))])])) (fun x y=>decide (x=y)) (fun x hx y hy=>FnV.clo (agU h x y (hb x hx) (hb' y hy))) (by omega) (by omega) rfl
 rw[show eqL (fun x y=>decide (x=y)) l l'=decide (l=l')by
  rw[Bool.eq_iff_iff,decide_eq_true_iff];exact uW fun a _ b _=>by rw[decide_eq_true_iff]]at cE
 refine ah.fnF func209 results209 ntmps209 rfl rfl rfl (by simp[AV.ids,AV0.ids,Atom.ids]) rfl (fun w0 T B E0 hB=>?_)
 refine SX.goM ?_;refine SX.WP.fP 3 hB rfl rfl ?_;refine SX.WP.aD ?_;by_cases h1:r=r'∧c=c'
 ·rw[decide_eq_true h1]at cA;refine SX.goM ?_;refine aP ?_;rw[decide_eq_decide];exact⟨fun h=>⟨h1.1,h1.2,h⟩,fun h=>h.2.2⟩
 ·rw[decide_eq_false h1]at cA;refine SX.goM ?_;refine aP ?_;exact(decide_eq_false fun h=>h1 ⟨h.1,h.2.1⟩).symm
end
section
def wN(l:List Nat):Prop:=l.length=0∨l.getD (l.length - 1) 0≠0
inductive Sh(K:Nat):Vl→Prop
 |num (x:Rat) (h:RB x K):Sh K (fC x)
 |mat (r c:Nat) (vs:List Rat) (hl:vs.length=r*c) (hr:r≤64) (hc:c≤64) (h:∀v∈vs,RB v K):Sh K (dQ r c vs)
 |pol (zs:List Int) (hl:zs.length≤10000) (hn:pN zs) (h:∀z∈zs,z.natAbs < WB ^ K):Sh K (sH zs)
 |fld (p r c:Nat) (l:List Nat) (hp:PrP p) (hl:l.length=r*c) (hr:r≤64) (hc:c≤64) (h:∀x∈l,x < p):Sh K (tu p r c l)
 |rng (p:Nat) (l:List Nat) (hp:PrP p) (hl:l.length≤10000) (hn:wN l) (h:∀x∈l,x < p):Sh K (uO p l)
inductive Cv(K:Nat):Nat→Vl→Prop
 |one {n:Nat} {v:Vl} (h:Sh K v):Cv K n v
 |lst {n:Nat} (l:List Vl) (hl:l.length≤10000) (h:∀x∈l,Cv K n x):Cv K (n+1) (pU l)
noncomputable def jv(u v:Vl):Bool:= @decide (u=v) (Classical.propDecidable _)
theorem nQ{u v:Vl}:jv u v=true↔u=v:=by unfold jv;exact @decide_eq_true_iff _ (Classical.propDecidable _)
theorem amh{u v:Vl}(h:u≠v):jv u v=false:=Bool.eq_false_iff.2 fun e=>h (nQ.1 e)
theorem afO(u:Vl):jv u u=true:=nQ.2 rfl
theorem qO{u v:Vl}{p:Prop}[Decidable p](h:u=v↔p):jv u v=decide p:=by
 rw[Bool.eq_iff_iff,nQ,decide_eq_true_iff];exact h
theorem acE{x y:Rat}(h:cq x=cq y):x=y:=by rw[←jL x,h,jL]
theorem ata{x y:Int}(h:cz x=cz y):x=y:=by rw[←oK x,h,oK]
theorem map_inj{α β:Type}{f:α→β}(hf:∀{x y},f x=f y→x=y):∀{l l':List α},l.map f=l'.map f→l=l'
 |[],[],_=>rfl
 |a::l,b::l',h=>by
  rw[List.map_cons,List.map_cons]at h
  injection h with h1 h2
  rw[hf h1,map_inj hf h2]
theorem alA{x y:Rat}:fC x=fC y↔x=y:=⟨fun h=>by injection h with _ h;exact acE h,fun h=>by rw[h]⟩
theorem ao9{r c r' c':Nat}{vs vs':List Rat}:dQ r c vs=dQ r' c' vs'↔r=r'∧c=c'∧vs=vs':=by
 constructor
 ·intro h
  injection h with _ _ h1 h2 h3
  exact⟨by omega,by omega,map_inj acE h3⟩
 ·rintro⟨rfl,rfl,rfl⟩;rfl
theorem anI{a b:List Int}:sH a=sH b↔a=b:=⟨fun h=>by injection h with _ _ _ _ _ h;exact map_inj ata h,fun h=>by rw[h]⟩
theorem ao1{p r c p' r' c':Nat}{l l':List Nat}:tu p r c l=tu p' r' c' l'↔p=p'∧r=r'∧c=c'∧l=l':=by
 constructor
 ·intro h
  injection h with _ _ _ _ _ _ h1 h2 h3 h4
  exact⟨h1,by omega,by omega,h4⟩
 ·rintro⟨rfl,rfl,rfl,rfl⟩;rfl
theorem alJ{p p':Nat}{l l':List Nat}:uO p l=uO p' l'↔p=p'∧l=l':=by
 constructor
 ·intro h
  injection h with _ _ _ _ _ _ h1 _ _ _ h2
  exact⟨h1,h2⟩
 ·rintro⟨rfl,rfl⟩;rfl
theorem alN{l l':List Vl}:pU l=pU l'↔l=l':=⟨fun h=>by injection h,fun h=>by rw[h]⟩
theorem MZ.ofz{zs:List Int}{K:Nat}(h:∀z∈zs,z.natAbs < WB ^ K):MZ ((zs.map cz).map rz) zs K:=by
 have:=MZ.raw (l:=zs.map cz) (K:=K) (fun a ha=>by obtain⟨z,_,rfl⟩:=List.mem_map.1 ha;exact anu z) (fun a ha=>by obtain⟨z,hz,rfl⟩:=List.mem_map.1 ha;exact mQ (h z hz))
 rwa [apR]at this
attribute [local irreducible] IntKind.wrap Go1 Reg WP aR aU bR bO aN aF ak aj aY Sat
attribute [local irreducible] bS dn cK dD dh qv bW mf PrP qOk zOk vP eu lz vF cq rqv fB dw
theorem aqP{x y:Rat}{K L:Nat}(hx:RB x K)(hy:RB y L)(hK:K+L≤400000):ah prog 307 [.agg (q4A (rq (cq x))),.agg (q4A (rq (cq y)))] (.v (.bool (decide (rqv (cq x)=rqv (cq y))))):=by
 rw[jL,jL]
 haveI:=Ra.cq hx
 haveI:=Ra.cq hy
 obtain⟨z,cA,hz,_⟩:=eCmp (q4A (rq (cq x))) (q4A (rq (cq y))) (K:=K) (K':=L) (by omega)
 rw[←decide_eq_decide.2 hz];refine ah.fnF func307 results307 ntmps307 rfl rfl rfl (by simp[AV.ids,AV0.ids,Atom.ids]) rfl (fun w0 T B E0 hB=>?_)
 refine SX.goM ?_;exact aP rfl
theorem afu{r c r' c':Nat}{vs vs':List Rat}{K L:Nat}(hv:∀v∈vs,RB v K)(hv':∀v∈vs',RB v L)(hK:K+L≤400000)(hl:vs.length=r*c)(hl':vs'.length=r'*c')(hr:r≤64)(hc:c≤64)(hr':r'≤64)(hc':c'≤64):
  ah prog 207 [.agg (iE r c ((vs.map cq).map rq)),.agg (iE r' c' ((vs'.map cq).map rq))] (.v (.bool (decide (r=r'∧c=c'∧vs=vs')))):=by
 have m1:=Nat.mul_le_mul hr hc;have m2:=Nat.mul_le_mul hr' hc';have k1:(vs.map cq).length=vs.length:=zq5 _;have k2:(vs'.map cq).length=vs'.length:=zq5 _;have cA:=akk (l:=(vs.map cq).map rq) (l':=(vs'.map cq).map rq) (by rw[zq5,zq5];exact hl) (by rw[zq5,zq5];exact hl') hr hc hr' hc' (decide (r=r'∧c=c')) decide_eq_true_iff
 have cE:=ajX (vs.map cq) (vs'.map cq) 307 (fun a b=>decide (rqv a=rqv b)) (fun a ha b hb=>by
  obtain⟨x,hx,rfl⟩:=List.mem_map.1 ha;obtain⟨y,hy,rfl⟩:=List.mem_map.1 hb;exact aqP (hv x hx) (hv' y hy) hK) (by omega) (by omega)
 have e:eqL (fun a b=>decide (rqv a=rqv b)) (vs.map cq) (vs'.map cq)=decide (vs=vs'):=by
  rw[Bool.eq_iff_iff,decide_eq_true_iff,uW (fun a ha b hb=>by
   obtain⟨x,hx,rfl⟩:=List.mem_map.1 ha;obtain⟨y,hy,rfl⟩:=List.mem_map.1 hb;rw[decide_eq_true_iff,jL,jL];exact⟨fun h=>by rw[h],acE⟩)]
  exact⟨map_inj acE,fun h=>by rw[h]⟩
 rw[e]at cE;refine ah.fnF func207 results207 ntmps207 rfl rfl rfl (by simp[AV.ids,AV0.ids,Atom.ids]) rfl (fun w0 T B E0 hB=>?_)
 by_cases h1:r=r'∧c=c'
 ·rw[decide_eq_true h1]at cA;refine SX.goM ?_;refine aP ?_;rw[decide_eq_decide];exact⟨fun h=>⟨h1.1,h1.2,h⟩,fun h=>h.2.2⟩
 ·rw[decide_eq_false h1]at cA;refine SX.goM ?_;refine aP ?_;exact(decide_eq_false fun h=>h1 ⟨h.1,h.2.1⟩).symm
theorem rD(u v:Vl)(h:u.k≠v.k∨u.p≠v.p):ah prog 110 [.agg (vlA u),.agg (vlA v)] (.v (.bool (jv u v))):=by
 rw[amh (by rintro rfl;exact h.elim (fun h=>h rfl) fun h=>h rfl)]
 refine ah.fnF func110 results110 ntmps110 rfl rfl rfl (by simp[AV.ids,AV0.ids,Atom.ids]) rfl (fun w0 T B E0 hB=>?_)
 by_cases h1:u.k=v.k
 ·have h2:¬(u.p:Int)=(v.p:Int):=by omega
  refine SX.goM ?_;exact aP rfl
 ·refine SX.goM ?_;exact aP rfl
section
variable{K L:Nat}(hKL:K+L≤100000)
include hKL
theorem akB{r c r' c':Nat}{vs vs':List Rat}(hv:∀v∈vs,RB v K)(hv':∀v∈vs',RB v L)(hl:vs.length=r*c)(hl':vs'.length=r'*c')(hr:r≤64)(hc:c≤64)(hr':r'≤64)(hc':c'≤64):
  ah prog 110 [.agg (vlA (dQ r c vs)),.agg (vlA (dQ r' c' vs'))] (.v (.bool (jv (dQ r c vs) (dQ r' c' vs')))):=by
 have c1:=afu hv hv' (by omega) hl hl' hr hc hr' hc'
 rw[qO ao9];refine ah.fnF func110 results110 ntmps110 rfl rfl rfl (by simp[AV.ids,AV0.ids,Atom.ids]) rfl (fun w0 T B E0 hB=>?_)
 refine SX.goM ?_;exact aP rfl
theorem ak5{a b:List Int}(hl:a.length≤10000)(hn:pN a)(h:∀z∈a,z.natAbs < WB ^ K)(hl':b.length≤10000)(hn':pN b)(h':∀z∈b,z.natAbs < WB ^ L):
  ah prog 110 [.agg (vlA (sH a)),.agg (vlA (sH b))] (.v (.bool (jv (sH a) (sH b)))):=by
 have c1:=akz (MZ.ofz h) (MZ.ofz h') (by rw[zq5,zq5];exact hl) (by rw[zq5,zq5];exact hl') hKL hn hn'
 rw[qO anI];refine ah.fnF func110 results110 ntmps110 rfl rfl rfl (by simp[AV.ids,AV0.ids,Atom.ids]) rfl (fun w0 T B E0 hB=>?_)
 refine SX.goM ?_;exact aP rfl
omit hKL in
theorem ajT{p r c r' c':Nat}{l l':List Nat}(hp:PrP p)(hl:l.length=r*c)(hr:r≤64)(hc:c≤64)(h:∀x∈l,x < p)(hl':l'.length=r'*c')(hr':r'≤64)(hc':c'≤64)(h':∀x∈l',x < p):
  ah prog 110 [.agg (vlA (tu p r c l)),.agg (vlA (tu p r' c' l'))] (.v (.bool (jv (tu p r c l) (tu p r' c' l')))):=by
 have cf:=akj (tu p r c l) hp;have c1:=akg hp hl hl' hr hc hr' hc' h h';have e:((tu p r c l).p:Int)=((tu p r' c' l').p:Int):=rfl;rw[qO (p:=r=r'∧c=c'∧l=l') (ao1.trans ⟨fun h=>h.2,fun h=>⟨rfl,h⟩⟩)]
 refine ah.fnF func110 results110 ntmps110 rfl rfl rfl (by simp[AV.ids,AV0.ids,Atom.ids]) rfl (fun w0 T B E0 hB=>?_)
 refine SX.goM ?_;exact aP rfl
omit hKL in
theorem akM{p:Nat}{l l':List Nat}(hl:l.length≤10000)(hl':l'.length≤10000):
  ah prog 110 [.agg (vlA (uO p l)),.agg (vlA (uO p l'))] (.v (.bool (jv (uO p l) (uO p l')))):=by
 have c1:=agp l l' (by omega) (by omega)
 have e:((uO p l).p:Int)=((uO p l').p:Int):=rfl;rw[qO (p:=l=l') (alJ.trans ⟨fun h=>h.2,fun h=>⟨rfl,h⟩⟩)]
 refine ah.fnF func110 results110 ntmps110 rfl rfl rfl (by simp[AV.ids,AV0.ids,Atom.ids]) rfl (fun w0 T B E0 hB=>?_)
 refine SX.goM ?_;exact aP rfl
omit hKL in
theorem aj1{l l':List Vl}(hl:l.length≤10000)(hl':l'.length≤10000)(h:∀x∈l,∀y∈l',ah prog 110 [.agg (vlA x),.agg (vlA y)] (.v (.bool (jv x y)))):
  ah prog 110 [.agg (vlA (pU l)),.agg (vlA (pU l'))] (.v (.bool (jv (pU l) (pU l')))):=by
 have c1:=ajF l l' 110 jv h (by omega) (by omega)
 rw[show eqL jv l l'=jv (pU l) (pU l')by
  rw[Bool.eq_iff_iff,nQ,alN];exact uW fun a _ b _=>nQ]at c1
 refine ah.fnF func110 results110 ntmps110 rfl rfl rfl (by simp[AV.ids,AV0.ids,Atom.ids]) rfl (fun w0 T B E0 hB=>?_)
 refine SX.goM ?_;exact aP rfl
theorem aai{u v:Vl}(hu:Sh K u)(hv:Sh L v):ah prog 110 [.agg (vlA u),.agg (vlA v)] (.v (.bool (jv u v))):=by
 by_cases hk:u.k=v.k∧u.p=v.p
 ·cases hu with
  |num x h=>cases hv with
   |num y h'=>
    rw[qO alA];exact ag5 h h' (by omega)
   |_=>exact absurd hk.1 (by simp)
  |mat r c vs hl hr hc h=>cases hv with
   |mat r' c' vs' hl' hr' hc' h'=>exact akB hKL h h' hl hl' hr hc hr' hc'
   |_=>exact absurd hk.1 (by simp)
  |pol zs hl hn h=>cases hv with
   |pol zs' hl' hn' h'=>exact ak5 hKL hl hn h hl' hn' h'
   |_=>exact absurd hk.1 (by simp)
  |fld p r c l hp hl hr hc h=>cases hv with
   |fld p' r' c' l' hp' hl' hr' hc' h'=>
    obtain rfl:p=p':=hk.2;exact ajT hp hl hr hc h hl' hr' hc' h'
   |_=>exact absurd hk.1 (by simp)
  |rng p l hp hl hn h=>cases hv with
   |rng p' l' hp' hl' hn' h'=>
    obtain rfl:p=p':=hk.2;exact akM hl hl'
   |_=>exact absurd hk.1 (by simp)
 ·exact rD u v (by omega)
theorem anq:∀(n m:Nat) (u v:Vl),Cv K n u→Cv L m v→ah prog 110 [.agg (vlA u),.agg (vlA v)] (.v (.bool (jv u v))):=by
 intro n
 induction n with
 |zero=>
  intro m u v hu hv;cases hu with
  |one hu=>cases hv with
   |one hv=>exact aai hKL hu hv
   |lst l hl h=>exact rD u _ (by cases hu <;> exact .inl (by simp))
 |succ n ih=>
  intro m u v hu hv;cases hu with
  |one hu=>cases hv with
   |one hv=>exact aai hKL hu hv
   |lst l hl h=>exact rD u _ (by cases hu <;> exact .inl (by simp))
  |lst l hl h=>cases hv with
   |one hv=>exact rD _ v (by cases hv <;> exact .inl (by simp))
   |lst l' hl' h'=>exact aj1 hl hl' fun x hx y hy=>ih _ x y (h x hx) (h' y hy)
end
end
section
theorem asj(z:Int):zOk (cz z)=true:=(acJ (anu z)).2 (by rw[oK])
theorem as3{zs:List Int}:lz (zs.map cz)=true↔pN zs:=by
 unfold lz pN;rw[Bool.or_eq_true,decide_eq_true_iff,decide_eq_true_iff,zq5];by_cases h:zs.length=0
 ·exact⟨fun _=> .inl h,fun _=> .inl h⟩
 ·have e:rzv ((zs.map cz).getD (zs.length - 1) (false,[]))=zs.getD (zs.length - 1) 0:=by
   rw[zq3,zq3,List.getElem?_map,zq2 (show zs.length - 1 < zs.length by omega)]
   exact oK _
  rw[e]
theorem asV{l:List Nat}:lw l=true↔wN l:=by
 unfold lw wN;rw[Bool.or_eq_true,decide_eq_true_iff,decide_eq_true_iff]
theorem ahz{p:Nat}{l:List Nat}:l.all (ltp p)=true↔∀x∈l,x < p:=by
 rw[List.all_eq_true];exact⟨fun h x hx=>of_decide_eq_true (h x hx),fun h x hx=>decide_eq_true (h x hx)⟩
theorem as9(zs:List Int):vP (sH zs)=0:=(vP0 _).2 ⟨.inr ⟨rfl,rfl,rfl,rfl⟩,.inr ⟨rfl,rfl,rfl⟩,.inl rfl,.inr ⟨rfl,rfl,rfl⟩,.inr rfl,.inr (.inr rfl),.inr rfl⟩
theorem as1(p r c:Nat)(l:List Nat):vP (tu p r c l)=0:=(vP0 _).2 ⟨.inr ⟨rfl,rfl,rfl,rfl⟩,.inr ⟨rfl,rfl,rfl⟩,.inr rfl,.inl rfl,.inr rfl,.inl rfl,.inr rfl⟩
theorem asv(p:Nat)(l:List Nat):vP (uO p l)=0:=(vP0 _).2 ⟨.inr ⟨rfl,rfl,rfl,rfl⟩,.inr ⟨rfl,rfl,rfl⟩,.inr rfl,.inr ⟨rfl,rfl,rfl⟩,.inl rfl,.inr (.inl rfl),.inr rfl⟩
theorem asi(l:List Vl):vP (pU l)=0:=(vP0 _).2 ⟨.inr ⟨rfl,rfl,rfl,rfl⟩,.inr ⟨rfl,rfl,rfl⟩,.inr rfl,.inr ⟨rfl,rfl,rfl⟩,.inr rfl,.inr (.inr rfl),.inl rfl⟩
theorem adL:(Sm WB rq0.2.1∧Sm WB rq0.2.2.2)∧rq0.2.1.length≤100000∧rq0.2.2.2.length≤100000:=⟨⟨Sm.nil,Sm.nil⟩,Nat.zero_le _,Nat.zero_le _⟩
theorem jH{α:Type}{p:α→Prop}:∀x∈([]:List α),p x:=fun x hx=>by cases hx
theorem ap7{zs:List Int}{K:Nat}(h:∀z∈zs,z.natAbs < WB ^ K)(hK:K≤100000)(hl:zs.length≤100000):vZ0 (sH zs) where
 q:=adL
 a:=jH
 al:=Nat.zero_le _
 po:=fun x hx=>by obtain⟨z,hz,rfl⟩:=List.mem_map.1 hx;exact⟨anu z,Nat.le_trans (mQ (h z hz)) hK⟩
 pol:=by rw[zq5];exact hl
 p:=aS
 fa:=jH
 fal:=Nat.zero_le _
 ri:=jH
 ril:=Nat.zero_le _
 lil:=Nat.zero_le _
theorem PrP.wb{p:Nat}(h:PrP p):p < WB:=by have:=h.2.1;rw[bV];omega
theorem apV{p r c:Nat}{l:List Nat}(hp:PrP p)(h:∀x∈l,x < p)(hl:l.length≤100000):vZ0 (tu p r c l) where
 q:=adL
 a:=jH
 al:=Nat.zero_le _
 po:=jH
 pol:=Nat.zero_le _
 p:=hp.wb
 fa:=fun x hx=>Nat.lt_trans (h x hx) hp.wb
 fal:=hl
 ri:=jH
 ril:=Nat.zero_le _
 lil:=Nat.zero_le _
theorem apu{p:Nat}{l:List Nat}(hp:PrP p)(h:∀x∈l,x < p)(hl:l.length≤100000):vZ0 (uO p l) where
 q:=adL
 a:=jH
 al:=Nat.zero_le _
 po:=jH
 pol:=Nat.zero_le _
 p:=hp.wb
 fa:=jH
 fal:=Nat.zero_le _
 ri:=fun x hx=>Nat.lt_trans (h x hx) hp.wb
 ril:=hl
 lil:=Nat.zero_le _
theorem apY{l:List Vl}(hl:l.length≤100000):vZ0 (pU l) where
 q:=adL
 a:=jH
 al:=Nat.zero_le _
 po:=jH
 pol:=Nat.zero_le _
 p:=aS
 fa:=jH
 fal:=Nat.zero_le _
 ri:=jH
 ril:=Nat.zero_le _
 lil:=hl
theorem Sh.z{K:Nat}{v:Vl}(h:Sh K v)(hK:K≤100000):vZ0 v∧v.li=[]:=by
 cases h with
 |num x h=>exact⟨vZ0.num h hK,rfl⟩
 |mat r c vs hl hr hc h=>exact⟨vZ0.mat h hK (by have:=Nat.mul_le_mul hr hc;omega),rfl⟩
 |pol zs hl hn h=>exact⟨ap7 h hK (by omega),rfl⟩
 |fld p r c l hp hl hr hc h=>exact⟨apV hp h (by have:=Nat.mul_le_mul hr hc;omega),rfl⟩
 |rng p l hp hl hn h=>exact⟨apu hp h (by omega),rfl⟩
theorem Sh.f{K:Nat}{v:Vl}(h:Sh K v)(d:Nat):vF d v=true:=by
 cases h with
 |num x h=>exact aoE d x
 |mat r c vs hl hr hc h=>exact arJ d hl hr hc
 |pol zs hl hn h=>
  rw[vF_3 (as9 zs) rfl];unfold pOk;rw[Bool.and_eq_true];exact⟨List.all_eq_true.2 fun x hx=>by obtain⟨z,_,rfl⟩:=List.mem_map.1 hx;exact asj z,as3.2 hn⟩
 |fld p r c l hp hl hr hc h=>
  rw[vF_4 (as1 p r c l) rfl];unfold fOk;rw[Bool.and_eq_true,Bool.and_eq_true];exact⟨decide_eq_true hp,ahz.2 h,aaQ hr hc hl⟩
 |rng p l hp hl hn h=>
  rw[vF_5 (asv p l) rfl];unfold rOk;rw[Bool.and_eq_true,Bool.and_eq_true];exact⟨decide_eq_true hp,ahz.2 h,asV.2 hn⟩
theorem Sh.zz{K:Nat}{v:Vl}(h:Sh K v)(hK:K≤100000):∀n,vZ n v
 |0=>h.z hK
 |n+1=>⟨(h.z hK).1,by rw[(h.z hK).2];exact jH⟩
theorem Cv.z{K:Nat}(hK:K≤100000):∀{n:Nat} {v:Vl},Cv K n v→vZ n v:=by
 intro n
 induction n with
 |zero=>
  intro v h;cases h with
  |one h=>exact h.zz hK 0
 |succ n ih=>
  intro v h;cases h with
  |one h=>exact h.zz hK _
  |lst l hl h=>exact⟨apY (by omega),fun x hx=>ih (h x hx)⟩
theorem Cv.f{K:Nat}:∀{n:Nat} {v:Vl},Cv K n v→∀d,n < d→vF d v=true:=by
 intro n
 induction n with
 |zero=>
  intro v h d hd;cases h with
  |one h=>exact h.f d
 |succ n ih=>
  intro v h d hd;cases h with
  |one h=>exact h.f d
  |lst l hl h=>
   obtain⟨e,rfl⟩:∃e,d=e+1:=⟨d - 1,by omega⟩
   rw[vF_6 (asi l) rfl];exact List.all_eq_true.2 fun x hx=>ih (h x hx) e (by omega)
attribute [local irreducible] IntKind.wrap Go1 Reg WP aR aU bR bO aN aF ak aj aY Sat
attribute [local irreducible] bS dn cK dD dh qv bW mf PrP qOk zOk vP eu lz vF cq rqv fB dw
theorem Cv.F{K n:Nat}{v:Vl}(h:Cv K n v)(hK:K≤100000)(hn:n≤15):ah prog 78 [.agg (vlA v)] (.v (.bool true)):=by
 have c:=yh (h.z hK)
 rwa [h.f 20 (by omega)]at c
theorem anH{K L n m:Nat}{u v:Vl}(hu:Cv K n u)(hv:Cv L m v)(hK:K+L≤100000)(hn:n≤15)(hm:m≤15):ah prog 59 [.agg (vlA u),.agg (vlA v)] (.v (.bool (jv u v))):=by
 have c:=anq hK n m u v hu hv;have c1:=hu.F (by omega) hn
 have c2:=hv.F (by omega) hm
 refine ah.fnF func59 results59 ntmps59 rfl rfl rfl (by simp[AV.ids,AV0.ids,Atom.ids]) rfl (fun w0 T B E0 hB=>?_)
 refine SX.goM ?_;exact aP rfl
end
end
end Go.Proofs.YtjnhnbgpifohjaaGreatDoor
set_option linter.unusedSectionVars false
namespace Go.Proofs.YtjnhnbgpifohjaaGreatDoor
open Go.RowKit QM SX LA
section
section
def jn(s:UInt8):List (List UInt8)→List UInt8
 |[]=>[]
 |[a]=>a
 |a::b::l=>a++(s::32::jn s (b::l))
def chk{α:Type}(c:Nat):Nat→List α→List (List α)
 |0,_=>[]
 |r+1,l=>l.take c::chk c r (l.drop c)
def tbS(r c:Nat)(l:List (List UInt8)):List UInt8:=
 if r=0∨c=0 then [122,101,114,111,40]++(aV r++([44,32]++(aV c++[41])))else 91::(jn 59 ((chk c r l).map (jn 44))++[93])
def plS(l:List (List UInt8)):List UInt8:=[112,111,108,121,40]++(jn 44 l++[41])
def mdS(s:List UInt8)(p:Nat):List UInt8:=[109,111,100,40]++(s++([44,32]++(aV p++[41])))
mutual
def tS:Vl→List UInt8
 |⟨k,q,r,c,a,po,p,fr,fc,fa,ri,li⟩=>
  if k=1 then qS (rqv q)else if k=2 then tbS r.toNat c.toNat (a.map fun x=>qS (rqv x))else if k=3 then plS (po.map fun x=>zS (rzv x))
  else if k=4 then mdS (tbS fr.toNat fc.toNat (fa.map aV)) p else if k=5 then mdS (plS (ri.map aV)) p else 123::(jn 44 (tL li)++[125])
def tL:List Vl→List (List UInt8)
 |[]=>[]
 |v::l=>tS v::tL l
end
theorem arn:∀l:List Vl,tL l=l.map tS
 |[]=>by rw[tL];rfl
 |v::l=>by rw[tL,arn l];rfl
theorem agf(x:Rat):tS (fC x)=qS x:=by
 show tS ⟨1,cq x,0,0,[],[],0,0,0,[],[],[]⟩=_;rw[tS,if_pos rfl,jL]
theorem tH(r c:Nat)(vs:List Rat):tS (dQ r c vs)=tbS r c (vs.map qS):=by
 show tS ⟨2,rq0,(r:Int),(c:Int),vs.map cq,[],0,0,0,[],[],[]⟩=_;rw[tS,if_neg (by decide),if_pos rfl,List.map_map,Int.toNat_natCast,Int.toNat_natCast,show (fun x=>qS (rqv x)) ∘ cq=qS from funext fun x=>congrArg qS (jL x)]
theorem asL(zs:List Int):tS (sH zs)=plS (zs.map zS):=by
 show tS ⟨3,rq0,0,0,[],zs.map cz,0,0,0,[],[],[]⟩=_;rw[tS,if_neg (by decide),if_neg (by decide),if_pos rfl,List.map_map,show (fun x=>zS (rzv x)) ∘ cz=zS from funext fun x=>congrArg zS (oK x)]
theorem ash(p r c:Nat)(l:List Nat):tS (tu p r c l)=mdS (tbS r c (l.map aV)) p:=by
 show tS ⟨4,rq0,0,0,[],[],p,(r:Int),(c:Int),l,[],[]⟩=_;rw[tS,if_neg (by decide),if_neg (by decide),if_neg (by decide),if_pos rfl,Int.toNat_natCast,Int.toNat_natCast]
theorem aso(p:Nat)(l:List Nat):tS (uO p l)=mdS (plS (l.map aV)) p:=by
 show tS ⟨5,rq0,0,0,[],[],p,0,0,[],l,[]⟩=_;rw[tS,if_neg (by decide),if_neg (by decide),if_neg (by decide),if_neg (by decide),if_pos rfl]
theorem alo(l:List Vl):tS (pU l)=123::(jn 44 (l.map tS)++[125]):=by
 show tS ⟨6,rq0,0,0,[],[],0,0,0,[],[],l⟩=_;rw[tS,if_neg (by decide),if_neg (by decide),if_neg (by decide),if_neg (by decide),if_neg (by decide),arn]
def dgc(c:UInt8):Prop:=48≤c.toNat∧c.toNat≤57
theorem dg_of{d:Nat}(h:d < 10):dgc (UInt8.ofNat (48+d))∧(UInt8.ofNat (48+d)).toNat=48+d:=by
 have:(UInt8.ofNat (48+d)).toNat=48+d:=by rw[UInt8.toNat_ofNat'];omega
 unfold dgc;omega
theorem asl:∀(n x:Nat),x≤n→∀c∈dig x,dgc c:=by
 intro n
 induction n with
 |zero=>intro x hx c hc;rw[show x=0 by omega,jB]at hc;cases hc
 |succ n ih=>
  intro x hx c hc;by_cases h0:x=0
  ·rw[h0,jB]at hc;cases hc
  ·rw[nG h0,List.mem_append,List.mem_singleton]at hc;rcases hc with hc|rfl
   ·exact ih (x / 10) (by omega) c hc
   ·exact(dg_of (Nat.mod_lt x (by decide))).1
theorem acM(x:Nat):∀c∈aV x,dgc c:=by
 intro c hc;unfold aV at hc
 split at hc
 ·rw[List.mem_singleton]at hc;subst hc;unfold dgc;decide
 ·exact asl x x (Nat.le_refl _) c hc
theorem ahP(x:Nat):∃c m,aV x=c::m∧dgc c:=by
 cases h:aV x with
 |nil=>
  unfold aV at h
  split at h
  ·cases h
  ·next h0=>exact absurd h (agi h0)
 |cons c m=>exact⟨c,m,rfl,acM x c (by rw[h];exact List.mem_cons_self ..)⟩
theorem zS_ch(z:Int):∀c∈zS z,c=45∨dgc c:=by
 intro c hc;unfold zS at hc
 split at hc
 ·rw[List.mem_cons]at hc;exact hc.imp id (acM _ c)
 ·exact .inr (acM _ c hc)
theorem arB(z:Int):∃c m,zS z=c::m∧(c=45∨dgc c):=by
 cases h:zS z with
 |nil=>
  unfold zS at h
  split at h
  ·cases h
  ·obtain⟨c,m,e,_⟩:=ahP z.natAbs;rw[e]at h;cases h
 |cons c m=>exact⟨c,m,rfl,zS_ch z c (by rw[h];exact List.mem_cons_self ..)⟩
theorem xW(x:Rat):qS x=if x.den=1 then zS x.num else zS x.num++47::zS (x.den:Int):=by
 unfold qS rS
 dsimp only
 by_cases h:x.den=1
 ·rw[if_pos (show (x.den:Int)=1 by omega),if_pos h]
 ·rw[if_neg (show¬(x.den:Int)=1 by omega),if_neg h,List.append_assoc];rfl
theorem qS_ne(x:Rat):∃c m,qS x=c::m∧(c=45∨dgc c):=by
 obtain⟨c,m,e,h⟩:=arB x.num;rw[xW,e]
 split
 ·exact⟨c,m,rfl,h⟩
 ·exact⟨c,_,rfl,h⟩
def Tm(r:List UInt8):Prop:=∀c m,r=c::m→c=44∨c=59∨c=93∨c=41∨c=125
def Tell{α:Type}(A:α→Prop)(T:List UInt8→Prop)(f:α→List UInt8):Prop:=∀x y,A x→A y→∀r s,T r→T s→f x++r=f y++s→x=y∧r=s
section
variable{α:Type}{f:α→List UInt8}(hf:Tell (fun _=>True) Tm f)(hn:∀x,∃c m,f x=c::m∧(c=45∨dgc c))
include hf hn
end
def kd(v:Vl)(d:UInt8):Prop:=(v.k=1∧(d=45∨dgc d))∨(v.k=2∧(d=122∨d=91))∨(v.k=3∧d=112)∨(v.k=4∧d=109)∨(v.k=5∧d=109)∨(v.k=6∧d=123)
end
section
abbrev mq(vs:List Rat):List Q4:=(vs.map cq).map rq
abbrev mz(zs:List Int):List Z2:=(zs.map cz).map rz
theorem afL(vs:List Rat):(mq vs).length=vs.length:=by rw[zq5,zq5]
theorem ahj(zs:List Int):(mz zs).length=zs.length:=by rw[zq5,zq5]
attribute [local irreducible] IntKind.wrap Go1 Reg WP aR aU bR bO aN aF ak aj aY Sat
attribute [local irreducible] bS dn cK dD dh qv bW mf PrP qOk zOk vP eu lz vF cq rqv fB dw dN d9
def asr(r c:Nat)(vs:List Rat)(x:Rat):List Rat:=fV c (fun i k=>vat vs c i k*x) r
theorem an6{x:Rat}{K:Nat}(hx:RB x K)(hK:K≤100000):ah prog 506 [.agg (vlA (fC x))] (.tup [.agg (vlA (fC (-x))),eNo 0]):=by
 haveI:=Ra.cq hx
 obtain⟨X,cA,hX⟩:=eNeg (q4A (rq (cq x))) (K:=K) (by omega)
 have e:=hX.nf;subst e;have cN:=afb (-x) 0;refine ah.fnF func506 results506 ntmps506 rfl rfl rfl (by simp[AV.ids,AV0.ids,Atom.ids]) rfl (fun w0 T B E0 hB=>?_)
 refine SX.goM ?_;refine .ok (aF.mk2 (ak.gX rfl rfl rfl) (ak.tmp rfl))
theorem aqi{x:Rat}{K:Nat}(hx:RB x K)(hK:K≤100000):ah prog 52 [.agg (q4A (rq (cq x)))] (.tup [.agg (zN (if x.den=1 then x.num else 0)),.one (.c (.val (.bool (decide (x.den=1)))))]):=by
 have hl:=(vZ0.num hx hK).q.2
 dsimp only at hl
 have h:=(aaF (h:=ZI.raw (cq x).1 (cq x).2.1) (h':=ZI.raw (cq x).2.2.1 (cq x).2.2.2)).h (by omega)
 unfold qE at h;rw[amu,aiw]at h;have e1:((x.den:Int)=1)↔x.den=1:=by omega
 simp only[e1]at h;exact h
section
variable{u v w:Vl}{e:Int}
variable(c1:ah prog 78 [.agg (vlA u)] (.v (.bool true)))(c2:ah prog 78 [.agg (vlA v)] (.v (.bool true)))
include c1 c2
theorem ao3(c:ah prog 514 [.agg (vlA u),.agg (vlA v)] (.tup [.agg (vlA w),eNo e])):ah prog 490 [.v (.int .i64 7),.agg (vlA u),.agg (vlA v)] (.tup [.agg (vlA w),eNo e]):=by
 refine ah.fnF func490 results490 ntmps490 rfl rfl rfl (by simp[AV.ids,AV0.ids,Atom.ids]) rfl (fun w0 T B E0 hB=>?_)
 refine SX.goM ?_;refine .ok (aF.mk2 (ak.gX rfl rfl rfl) (ak.tmp rfl))
end
end
section
def gP(i:Int):Vl→Vl
 |⟨k,q,r,c,a,po,p,fr,fc,fa,ri,li⟩=>if k=1 then fC (i*rqv q)else if k=2 then dQ r.toNat c.toNat (asr r.toNat c.toNat (a.map rqv) i)else sH (d9 (po.map rzv) i)
attribute [local irreducible] IntKind.wrap Go1 Reg WP aR aU bR bO aN aF ak aj aY Sat
attribute [local irreducible] bS dn cK dD dh qv bW mf PrP qOk zOk vP eu lz vF cq rqv fB dw dN d9
structure Muls(v:Vl)(k:Nat):Prop where
 a:ah prog 513 [.agg (vlA (fC ((k:Int):Rat))),.agg (vlA v)] (.tup [.agg (vlA (gP k v)),eNo 0])
 b:ah prog 513 [.agg (vlA v),.agg (vlA (fC ((k:Int):Rat)))] (.tup [.agg (vlA (gP k v)),eNo 0])
 h:∃(w:Vl) (e:Int),ah prog 513 [.agg (vlA (fC (1 / 2))),.agg (vlA v)] (.tup [.agg (vlA w),eNo e])∧((v.k≠3∧e=0)∨(v.k=3∧e=5))
 d:ah prog 517 [.agg (vlA v),.agg (vlA v)] (.tup [.agg (vlA (gP 0 v)),eNo 0])
 s:∀i,i < k→ah prog 516 [.agg (vlA (gP (i:Int) v)),.agg (vlA v)] (.tup [.agg (vlA (gP ((i+1:Nat):Int) v)),eNo 0])
 c:∀i,i≤k→Cv 4 0 (gP (i:Int) v)
 kk:∀i,(gP i v).k=v.k
end
section
def sq(c:Nat):Nat→List (List UInt8)→List UInt8
 |_,[]=>[]
 |i,x::l=>(if 0 < i∧i % c=0 then [59,32]else [])++((if 0 < i % c then [44,32]else [])++(x++sq c (i+1) l))
attribute [local irreducible] IntKind.wrap Go1 Reg WP aR aU bR bO aN aF ak aj aY Sat
attribute [local irreducible] bS dn cK dD dh qv bW mf PrP qOk zOk vP eu lz vF cq rqv fB dw dN d9 gP jn sq aV qS zS
theorem zK(n:Nat):zS (n:Int)=aV n:=by unfold zS;rw[if_neg (by omega),Int.natAbs_natCast]
end
end
section
attribute [local irreducible] IntKind.wrap Go1 Reg WP aR aU bR bO aN aF ak aj aY Sat
attribute [local irreducible] bS dn cK dD dh qv bW mf PrP qOk zOk vP eu lz vF cq rqv fB dw dN d9 gP vW
section
variable(n:Int){k:Nat}(hn:n.tmod 7=(k:Int))(hk:k≤6){v:Vl}
include hn hk
end
end
section
attribute [local irreducible] IntKind.wrap Go1 Reg WP aR aU bR bO aN aF ak aj aY Sat
attribute [local irreducible] bS dn cK dD dh qv bW mf PrP qOk zOk vP eu lz vF cq rqv fB dw dN d9 gP aV jn qS zS
section
variable(v:Vl){i:Nat}
end
end
end Go.Proofs.YtjnhnbgpifohjaaGreatDoor