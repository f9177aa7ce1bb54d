import Derived.Test.YtjnhnbgpifohjaaGreatDoorL17
import Derived.Test.YtjnhnbgpifohjaaGreatDoorL18
import Derived.Test.YtjnhnbgpifohjaaGreatDoorL9
import Derived.Test.YtjnhnbgpifohjaaGreatDoorL14
import Derived.Test.YtjnhnbgpifohjaaGreatDoorL10
import Derived.Test.YtjnhnbgpifohjaaGreatDoorL6
set_option maxRecDepth 20000
set_option maxHeartbeats 4000000
set_option linter.unusedVariables false
set_option linter.unusedSimpArgs false
set_option linter.unusedSectionVars false
open Go.Proofs.Tryz
namespace Go.Proofs.YtjnhnbgpifohjaaGreatDoor
open Go.RowKit QM SX LA
theorem ah.resI{P:Program}{f:FuncId}{args:List AV}{r r':AV}(h:ah P f args r)(hi:∀E S w v,r.has E S w v->r'.has E S w v):ah P f args r':=
 ⟨h.1,fun E S w vs a b c d e g=>(h.2 E S w vs a b c d e g).mono fun x w' ⟨v,E',S',he,hE⟩=>⟨v,E',S',he,⟨hE.env,hE.fpe,hE.sub,hE.new,hE.lt,hE.off,hi _ _ _ _ hE.res,hE.ents,hE.blk,hE.sep⟩⟩⟩
attribute [local irreducible] IntKind.wrap Go1 Reg WP aO aR bM bK aN aD aj ak aX Sat
attribute [local irreducible] bO bX bV cK bW qv dH mf PrP qOk zOk vP dP lz vF cq rqv dX aS bU aV fB jn sq aY qS zS tS tbS plS mdS zmd afK qdn
theorem aeM{K n:Nat}{v:Vl}(h:Cv K n v)(hK:K<=50000)(hn:n<=15):ah prog 59 [.agg (vlA v),.agg (vlA v)] (.v (.bool true)):=by
 have c:=aq1 h h zE hn hn
 rwa [ajF]at c
theorem amY{x x' y:AV0}(h:x.imp x'):∀E S w v,(AV.tup [x,y]).has E S w v->(AV.tup [x',y]).has E S w v:=fun E S w v ⟨us,hv,hh⟩=>by
 match us,hh with
 |[a,b],⟨h1,h2,_⟩=>exact⟨[a,b],hv,h E S w a h1,h2,trivial⟩
theorem alX{α:Type}{size:Nat}{enc:α->List CA}:(AV0.agg aa1).imp (.agg [.c (.val (.int .i64 0)),.c (.val (.int .i64 0)),.c (.sat (aA size enc []))]):=iO ⟨aB.refl _,aB.refl _,aB.nil,trivial⟩
theorem gH{t:List UInt8}{vs:List Vl}{w:Vl}(c:ah prog 28 [.v (str t),.r (aA 15 vlE vs)] (.tup [.agg (vlA w),eNo 0]))(S:ah prog 59 [.agg (vlA w),.agg (vlA w)] (.v (.bool true))):
  ah prog 16 [.v (str t),.r (aA 15 vlE vs),.agg (vlA w),.v (.int .i64 0)] (.v (.bool true)):=by
 refine ah.fq func16 results16 ntmps16 fun _ _ _ _ _=>?_
 refine zg ?_;exact bg rfl
theorem xC{t:List UInt8}{vs:List Vl}{w:Vl}{e:Int}(he:e≠0)(c:ah prog 28 [.v (str t),.r (aA 15 vlE vs)] (.tup [.agg (vlA v0),eNo e])):
  ah prog 16 [.v (str t),.r (aA 15 vlE vs),.agg (vlA w),.v (.int .i64 e)] (.v (.bool true)):=by
 have h1:decide (e=e)=true:=decide_eq_true rfl;refine ah.fq func16 results16 ntmps16 fun _ _ _ _ _=>?_
 refine zg ?_;exact bg rfl
section
variable{r c:Nat}{A:List Q4}{V wT wI:Vl}{lt:List Rat}{mI:Int×Int×Rep}{eI:Int}{m:List Rat}{ps:List Nat}{zs:List Int}{d x:Int}{K L:Nat}{eD:Int}{y:Rat}
end
end Go.Proofs.YtjnhnbgpifohjaaGreatDoor
set_option linter.unusedSectionVars false
namespace Go.Proofs.YtjnhnbgpifohjaaGreatDoor
open Go.RowKit QM SX LA
theorem pN_le{l:List Int}{t:Nat}(h:pN l)(h0:∀j,t<=j->l.getD j 0=0):l.length<=t:=by
 rcases h with h|h
 ·omega
 ·rcases zyd t l.length with h1|h1
  ·exact absurd (h0 (l.length - 1) zE) h
  ·exact h1
def psQ(b a q:List Int)(n:Nat):List Int:=atb (aV q (b.getD (b.length - 1) 0)) (gX [a.getD (n+b.length - 1) 0] n)
def psA(b a:List Int)(n:Nat):List Int:=aak (aV a (b.getD (b.length - 1) 0)) (gX (aV b (a.getD (n+b.length - 1) 0)) n)
def psR(b:List Int):Nat->List Int->List Int->List Int×List Int
 |0,q,a=>(q,a)
 |n+1,q,a=>psR b n (psQ b a q n) (psA b a n)
theorem axN(b a:List Int)(n j:Nat):(psA b a n).getD j 0=a.getD j 0*b.getD (b.length - 1) 0 - (if n<=j then b.getD (j - n) 0*a.getD (n+b.length - 1) 0 else 0):=by
 unfold psA;rw[abF,aaN,anQ]
 split
 ·rw[aaN]
 ·rfl
theorem am6{b a:List Int}{n:Nat}(hb:b.length≠0)(ha:a.length < n+1+b.length):(psA b a n).length < n+b.length:=by
 have h:(psA b a n).length<=n+b.length - 1:=by
  refine pN_le (zo _ _ _) fun j hj=>?_
  rw[axN,if_pos zE]
  by_cases h1:j=n+b.length - 1
  ·rw[<-h1,show j - n=b.length - 1 by omega,Int.mul_comm];omega
  ·rw[oq (zs:=a) (j:=j) zE,oq (zs:=b) (j:=j - n) zE,Int.zero_mul,Int.zero_mul];rfl
 omega
theorem axt{b a:List Int}{n K K':Nat}(ha:∀z∈a,z.natAbs < WB ^ K)(hb:∀z∈b,z.natAbs < WB ^ K'):∀z∈psA b a n,z.natAbs < WB ^ (K+(K'+1)):=fun z hz=>by
 have h1:=mR ha (qE hb (b.length - 1));have h2:=mR hb (qE ha (n+b.length - 1));exact aqH h1 (fun z h=>by have:=vU h2 z h;rwa [Nat.add_comm]at this) z hz
theorem apW{a b:List Int}{K:Nat}(h:∀z∈a,z.natAbs < WB ^ K)(h':∀z∈b,z.natAbs < WB ^ K):∀z∈atb a b,z.natAbs < WB ^ (K+1):=fun z hz=>by
 obtain⟨j,rfl⟩:=acS hz;rw[av5];have h1:=qE h j;have h2:=qE h' j;have h3:=aga K;have:=Int.natAbs_add_le (a.getD j 0) (b.getD j 0);omega
theorem ayd{b a q:List Int}{n K K':Nat}(ha:∀z∈a,z.natAbs < WB ^ K)(hq:∀z∈q,z.natAbs < WB ^ K)(hb:∀z∈b,z.natAbs < WB ^ K'):∀z∈psQ b a q n,z.natAbs < WB ^ (K+(K'+1)):=fun z hz=>by
 have h1:=mR hq (qE hb (b.length - 1));exact apW h1 (vU fun z h=>by
  rw[zxi]at h;subst h;exact abe (qE ha _) zE) z hz
structure PsK(S L K K':Nat)(b:List Int)(n:Nat)(q a:List Int):Prop where
 le:n<=S
 p:pN a
 l:a.length < n+b.length
 aL:a.length<=L
 qL:q.length<=S
 a:∀z∈a,z.natAbs < WB ^ (K+(S - n)*(K'+1))
 q:∀z∈q,z.natAbs < WB ^ (K+(S - n)*(K'+1))
theorem PsK.step{S L K K':Nat}{b:List Int}{n:Nat}{q a:List Int}(h:PsK S L K K' b (n+1) q a)(hb0:b.length≠0)(hb:∀z∈b,z.natAbs < WB ^ K')(hL:S+b.length<=L):PsK S L K K' b n (psQ b a q n) (psA b a n):=by
 have h1:=am6 hb0 h.l;have h0:=h.le;have e:K+(S - n)*(K'+1)=K+(S - (n+1))*(K'+1)+(K'+1):=by rw[show S - n=S - (n+1)+1 by omega,zy5,Nat.one_mul];omega
 have h2:(psQ b a q n).length<=S:=by
  have h3:=aog (op:=(· + ·)) (aV q (b.getD (b.length - 1) 0)) (gX [a.getD (n+b.length - 1) 0] n);have h4:=p8 q (b.getD (b.length - 1) 0);have h5:=xI [a.getD (n+b.length - 1) 0] n;have h6:=h.qL;rw[zw1]at h5;have h7:(psQ b a q n).length<=max (aV q (b.getD (b.length - 1) 0)).length (gX [a.getD (n+b.length - 1) 0] n).length:=h3;omega
 exact⟨zE,zo _ _ _,h1,zE,h2,by rw[e];exact axt h.a hb,by rw[e];exact ayd h.a h.q hb⟩
theorem akv{S L K K':Nat}{b:List Int}(hb0:b.length≠0)(hb:∀z∈b,z.natAbs < WB ^ K')(hL:S+b.length<=L):∀(n:Nat) {q a:List Int},PsK S L K K' b n q a->PsK S L K K' b 0 (psR b n q a).1 (psR b n q a).2
 |0,q,a,h=>h
 |n+1,q,a,h=>akv hb0 hb hL n (h.step hb0 hb hL)
theorem PsK.start{L K K':Nat}{zs b:List Int}(hn:pN zs)(hb0:b.length≠0)(hz:∀z∈zs,z.natAbs < WB ^ K)(hL:zs.length+1+b.length<=L):PsK (zs.length+1 - b.length) L K K' b (zs.length+1 - b.length) [] zs:=
 ⟨zq6 _,hn,zE,zE,zq8 _,by rw[Nat.sub_self,zw3];exact hz,fun z h=>by cases h⟩
def pPQ(zs b:List Int):List Int:=if b.length=0 then []else aS (psR b (zs.length+1 - b.length) [] zs).1
def pPR(zs b:List Int):List Int:=if b.length=0 then []else(psR b (zs.length+1 - b.length) [] zs).2
theorem amq{zs b:List Int}(hn:pN zs)(hb0:b.length≠0):(pPR zs b).length < b.length:=by
 unfold pPR;rw[if_neg hb0]
 -- sizes do not matter here
 have key:∀(n:Nat) (q a:List Int),a.length < n+b.length->(psR b n q a).2.length < b.length:=by
  intro n
  induction n with
  |zero=>intro q a h;show a.length < b.length;omega
  |succ n ih=>intro q a h;exact ih _ _ (am6 hb0 zE)
 exact key _ _ _ zE
theorem aqj{zs b:List Int}(hn:pN zs):pN (pPR zs b):=by
 unfold pPR
 split
 ·exact .inl rfl
 ·have key:∀(n:Nat) (q a:List Int),pN a->pN (psR b n q a).2:=by
   intro n
   induction n with
   |zero=>intro q a h;exact h
   |succ n ih=>intro q a h;exact ih _ _ (zo _ _ _)
  exact key _ _ _ hn
theorem apZ{zs b:List Int}{K K':Nat}(hn:pN zs)(hz:∀z∈zs,z.natAbs < WB ^ K)(hb:∀z∈b,z.natAbs < WB ^ K'):∀z∈pPR zs b,z.natAbs < WB ^ (K+(zs.length+1 - b.length)*(K'+1)):=by
 unfold pPR
 split
 ·intro z h;cases h
 ·rename_i hb0;have h:=akv hb0 hb zE _ (PsK.start (K':=K') hn hb0 hz (zq6 _))
  have h2:=h.a;rw[Nat.sub_zero]at h2;exact h2
theorem aF.nilZ{ρ:List (Nat×Option Nat)}:aF ρ (.v (.slice none 0 0)) (.r (aA 2 z2C [])):=fun E S w v h=>aB.nil (α:=Z2) (enc:=z2C) (size:=2) (eU ρ E) S w v ((aF.same (ρ:=ρ) (x:= .v (.slice none 0 0)) rfl) E S w v h)
attribute [local irreducible] IntKind.wrap Go1 Reg WP aO aR bM bK aN aD aj ak aX Sat
attribute [local irreducible] bO bX bV cK bW qv dH mf PrP qOk zOk vP dP lz vF cq rqv dX aS bU aV fB cvR cvP akE gX eX nH psQ psA
abbrev rzA(l:List Int):AV0:= .one (.c (.sat (aA 2 z2C (l.map z2v))))
theorem acG:(AV0.one (.c (.val (.slice none 0 0)))).imp (rzA []):=fun E S w v h=>aB.nil (α:=Z2) (enc:=z2C) (size:=2) E S w v h
theorem ajc{zs b:List Int}{K K':Nat}(hn:pN zs)(hn':pN b)(hl:zs.length<=4000)(hl':b.length<=4000)(hz:∀z∈zs,z.natAbs < WB ^ K)(hb:∀z∈b,z.natAbs < WB ^ K')(hK:K+(zs.length+1)*(K'+1)<=40000)(hK':K'<=40000):
  ah prog 92 [.r (aA 2 z2C (zs.map z2v)),.r (aA 2 z2C (b.map z2v))] (.tup [rzA (pPQ zs b),rzA (pPR zs b),.one (.c (.val (.bool (decide (b.length≠0)))))]):=by
 have hK2:K<=40000:=zE
 have m1:(zs.map z2v).length=zs.length:=zq5 _;have m2:(b.map z2v).length=b.length:=zq5 _;have c1:=abY (MZ.made hz) zE zE hn
 have c2:=abY (MZ.made hb) zE zE hn'
 unfold pPQ pPR;by_cases h0:b.length=0
 ·rw[if_pos h0,if_pos h0,decide_eq_false (not_not_intro h0)];refine ah.fq func92 results92 ntmps92 fun w0 T B E0 hB=>?_
  refine zg ?_;exact nT (aj.tmp rfl) (aj.tmp rfl) (aj.tmp rfl) acG acG (zv _)
 rw[if_neg h0,if_neg h0,decide_eq_true h0];obtain⟨S,hS⟩:∃S,S=zs.length+1 - b.length:=⟨_,rfl⟩;rw[<-hS];have hSK:S*(K'+1)<=(zs.length+1)*(K'+1):=zx1 _ zE
 have hst:=PsK.start (L:=zs.length+1+b.length) (K':=K') hn h0 hz (zq6 _);rw[<-hS]at hst;obtain⟨y,hy⟩:∃y,b[b.length - 1]? =some y:=⟨_,zyh zE⟩
 have hy':(b.map z2v)[(b.map z2v).length - 1]? =some (z2v y):=by rw[m2,zqa,hy];rfl
 have gy:b.getD (b.length - 1) 0=y:=by rw[zx7,hy];rfl
 have qy:ZQ (z2v y) y K':=ZQ.made (hb y (zq4 hy));have hall:=akv h0 hb zE _ hst
 have cNq:=jr (MZ.made hall.q) (by rw[Nat.sub_zero];omega) (by rw[zq5];have:=hall.qL;omega)
 refine ah.fq func92 results92 ntmps92 fun w0 T B E0 hB=>?_
 refine zg ?_;refine W.aeN (fun(n:Nat) (i:Int) (st:List Int×List Int)=>PsK S (zs.length+1+b.length) K K' b n st.1 st.2/\psR b n st.1 st.2=psR b S [] zs/\(n=0->i < 0)/\(n≠0->i=(n:Int) - 1)) (fun n i st=>[(0,.r (aA 2 z2C (st.2.map z2v))),(1,.r (aA 2 z2C (b.map z2v))),(7,.ptr 7 0),(8,.r (aA 2 z2C (st.1.map z2v))),(9,.v (.int .i64 i))]) (fun _ _ _=>[(7,.box 31 (z2A (z2v y)))]) (fun n _ _=>n) S ((zs.length:Int) - (b.length:Int)) ([],zs) ⟨hst,rfl,fun h=>zE,fun h=>zE⟩ (fun n i st ⟨hD,hE,hi0,hi1⟩=>?_)
  (by
   refine St.aW [] zt ?_ ?_ rfl
   ·repeat(first|exact trivial|refine⟨⟨_,rfl,aF.same rfl⟩,?_⟩|refine⟨⟨_,rfl,aF.nilZ⟩,?_⟩|refine⟨⟨_,rfl,aF.int (by rw[m1,m2])⟩,?_⟩)
   ·exact⟨ay.same rfl rfl,trivial⟩)
 obtain⟨q,a⟩:=st
 dsimp only at hD hE
 have ma:(a.map z2v).length=a.length:=zq5 _;have mq:(q.map z2v).length=q.length:=zq5 _;have hal:=hD.aL;have hql:=hD.qL;cases n with
 |zero=>
  have hi:=hi0 rfl;have hE':psR b S [] zs=(q,a):=hE.symm;rw[hE']at cNq ⊢;refine zg ?_;exact nT (aj.tmp rfl) (aj.tmp rfl) (aj.tmp rfl) (zv _) (zv _) (zv _)
 |succ m=>
  obtain rfl:i=(m:Int):=by have:=hi1 zE;omega
  have hm:m < S:=by have:=hD.le;omega
  have hKm:(S - (m+1))*(K'+1)+(K'+1)<=S*(K'+1):=by
   have:=zx1 (K'+1) (show S - (m+1)+1<=S by omega)
   rw[zy5,Nat.one_mul]at this;exact this
  have hstep:=hD.step h0 hb zE
  obtain⟨t,ht⟩:∃t,t=a.getD (m+b.length - 1) 0:=⟨_,rfl⟩;have tb:t.natAbs < WB ^ (K+(S - (m+1))*(K'+1)):=by rw[ht];exact qE hD.a _
  have cA:=ag2 (a.map z2v) (m+(b.map z2v).length - 1) zE
  rw[asG,m2,<-ht]at cA;rw[show m+b.length - 1=m+(b.map z2v).length - 1 by rw[m2]]at cA
  have qt:ZQ (z2v t) t (K+(S - (m+1))*(K'+1)):=ZQ.made tb;have cS1:=tu (l:=q.map z2v) (q:=z2v y) (MZ.made hD.q) qy zE zE
  have s1:=mR hD.q qy.b;have n1:=p8 q y;have cH1:=abo (zs:=[t]) (n:=m) (by rw[zw1];decide) zE
  have hl1:=xI [t] m;have h1b:∀z∈gX [t] m,z.natAbs < WB ^ (K+(S - (m+1))*(K'+1)):=vU fun z h=>by
   rw[zxi]at h;subst h;exact tb
  have cAd:=atr (MZ.made s1) (MZ.made h1b) (by rw[zq5];omega) (by rw[zq5,hl1,zw1];omega) zE
  have cS2:=tu (l:=a.map z2v) (q:=z2v y) (MZ.made hD.a) qy zE zE
  have s2:=mR hD.a qy.b;have n2:=p8 a y;have cS3:=tu (l:=b.map z2v) (q:=z2v t) (MZ.made hb) qt zE zE
  have s3:=mR hb tb;have n3:=p8 b t;have cH2:=abo (zs:=aV b t) (n:=m) zE zE
  have hl2:=xI (aV b t) m;have cSb:=ajd (MZ.made s2) (MZ.made (vU (n:=m) s3)) (by rw[zq5];omega) (by rw[zq5];omega) zE
  have eQ:atb (aV q y) (gX [t] m)=psQ b a q m:=by unfold psQ;rw[gy,<-ht]
  have eA:aak (aV a y) (gX (aV b t) m)=psA b a m:=by unfold psA;rw[gy,<-ht]
  rw[eQ]at cAd;rw[eA]at cSb;refine zg ?_;exact W.adi m ((m:Int) - 1) (psQ b a q m,psA b a m) ⟨hstep,hE,fun h=>zE,fun h=>rfl⟩ zE
end Go.Proofs.YtjnhnbgpifohjaaGreatDoor
set_option linter.unusedSectionVars false
namespace Go.Proofs.YtjnhnbgpifohjaaGreatDoor
open Go.RowKit QM SX LA
def wX(zs:List Int):Nat->Nat
 |0=>0
 |k+1=>Int.gcd (wX zs k:Int) (zs.getD k 0)
theorem agt{x y:Int}{K:Nat}(hx:x.natAbs < WB ^ K)(hy:y.natAbs < WB ^ K):Int.gcd x y < WB ^ K:=by
 by_cases h:x.natAbs=0
 ·have:x=0:=zE
  subst this;rw[Int.zero_gcd];exact hy
 ·exact zxb (Nat.le_of_dvd zE (Nat.gcd_dvd_left _ _)) hx
theorem oL{zs:List Int}{K:Nat}(h:∀z∈zs,z.natAbs < WB ^ K):∀k,wX zs k < WB ^ K
 |0=>Nat.pow_pos aZ
 |k+1=>agt (by rw[zxa];exact oL h k) (qE h k)
theorem afo(zs:List Int):∀(k j:Nat),j < k->((wX zs k:Nat):Int) ∣ zs.getD j 0
 |k+1,j,h=>by
  unfold wX;by_cases h1:j=k
  ·subst h1;exact Int.gcd_dvd_right ..
  ·exact Int.dvd_trans (Int.gcd_dvd_left ..) (afo zs k j zE)
def jS(zs:List Int):Int:=((wX zs zs.length:Nat):Int)
def ko(zs:List Int):Int:=if zs.getD (zs.length - 1) 0 < 0 then -jS zs else jS zs
def gD(zs:List Int):List Int:=xK zs.length fun i=>eX (zs.getD i 0) (ko zs)
theorem jd(zs:List Int):(gD zs).length=zs.length:=zl _ _
theorem u7{zs:List Int}{K:Nat}(h:∀z∈zs,z.natAbs < WB ^ K):∀z∈gD zs,z.natAbs < WB ^ K:=fun z hz=>by
 unfold gD xK at hz;obtain⟨i,_,rfl⟩:=zqg.1 hz;exact atU (qE h i)
theorem avD{zs:List Int}{K:Nat}(h:∀z∈zs,z.natAbs < WB ^ K):(ko zs).natAbs < WB ^ K:=by
 have:=oL h zs.length;unfold ko jS
 split
 ·rw[Int.natAbs_neg,zxa];exact this
 ·rw[zxa];exact this
theorem uO{zs:List Int}(hn:pN zs):pN (gD zs):=by
 rcases hn with h|h
 ·exact .inl (by rw[jd];exact h)
 ·by_cases h0:zs.length=0
  ·exact .inl (by rw[jd];exact h0)
  right
  rw[jd];unfold gD;rw[alp zE]
  have hd:ko zs ∣ zs.getD (zs.length - 1) 0:=by
   have:=afo zs zs.length (zs.length - 1) zE
   unfold ko jS
   split
   ·exact Int.neg_dvd.2 this
   ·exact this
  have hc:ko zs≠0:=fun e=>by rw[e]at hd;exact h (Int.zero_dvd.1 hd)
  rw[adI hc hd];intro e;obtain⟨w,hw⟩:=hd;rw[hw,Int.mul_tdiv_cancel_left _ hc]at e;rw[hw,e,Int.mul_zero]at h;exact h rfl
def gcR:Nat->List Int->List Int->List Int
 |0,a,_=>a
 |k+1,a,b=>if b.length=0 then a else gcR k b (gD (pPR a b))
def qN(x y:List Int):List Int:=aV (gcR (gD y).length (gD x) (gD y)) ((Int.gcd (jS x) (jS y):Nat):Int)
def gB:Nat->Nat
 |0=>1
 |i+1=>6*gB i+6
theorem gB_5:∀i,i<=5->gB i<=17106:=zc
theorem wD:∀i j,i<=j->gB i<=gB j
 |i,0,h=>by rw[Nat.le_zero.1 h];exact zq6 _
 |i,j+1,h=>by
  by_cases h1:i=j+1
  ·rw[h1];exact zq6 _
  ·have:=wD i j zE
   show gB i<=6*gB j+6;omega
structure GcK(a b:List Int):Prop where
 na:pN a
 nb:pN b
 la:a.length<=5
 lb:b.length<=5
 a:∀z∈a,z.natAbs < WB ^ gB (5 - b.length)
 b:∀z∈b,z.natAbs < WB ^ gB (5 - b.length)
theorem GcK.lt{a b:List Int}(h:GcK a b)(h0:b.length≠0):(gD (pPR a b)).length < b.length:=by rw[jd];exact amq h.na h0
theorem GcK.step{a b:List Int}(h:GcK a b)(h0:b.length≠0):GcK b (gD (pPR a b)):=by
 have h1:=h.lt h0;have h2:=h.lb;have h3:=h.la;have hm:=wD (5 - b.length+1) (5 - (gD (pPR a b)).length) zE
 have he:gB (5 - b.length+1)=6*gB (5 - b.length)+6:=rfl;have hk:=zx1 (gB (5 - b.length)+1) (show a.length+1 - b.length<=5 by omega)
 refine⟨h.nb,uO (aqj h.na),h2,zE,fun z hz=>abe (h.b z hz) zE,u7 fun z hz=>?_⟩
 exact abe (apZ h.na h.a h.b z hz) zE
theorem ap0{a b:List Int}(h:b.length=0)(k:Nat):gcR k a b=a:=by
 cases k with
 |zero=>rfl
 |succ k=>unfold gcR;rw[if_pos h]
theorem aC.awq{ρ:List (Nat×Option Nat)}:aC ρ (.c (.val (.slice none 0 0))) (.c (.sat (bN 0))):=fun E S w v hv=>by
 have h':v= .slice none 0 0:=hv;subst h';exact bN.zero
attribute [local irreducible] IntKind.wrap Go1 Reg WP aO aR bM bK aN aD aj ak aX Sat
attribute [local irreducible] bO bX bV cK bW qv dH mf PrP qOk zOk vP dP lz vF cq rqv dX aS bU aV fB cvR cvP akE gX eX nH psQ psA pPR pPQ
theorem rW{l:List Z2}{zs:List Int}{K:Nat}(hM:MZ l zs K)(hz:∀z∈zs,z.natAbs < WB ^ K)(hK:K<=100000)(hl:zs.length<=100000):ah prog 90 [.r (aA 2 z2C l)] (.agg (zN (jS zs))):=by
 have m1:l.length=zs.length:=hM.len;unfold jS;refine ah.fq func90 results90 ntmps90 fun _ _ _ _ _=>?_
 refine zg ?_;refine W.loop (fun k=>k<=zs.length) (fun k=>[(2,.ptr 2 0),(3,.ptr 3 0),(6,.r (aA 2 z2C l)),(7,.v (.int .i64 (zs.length:Int))),(8,.v (.int .i64 (k:Int)))]) (fun k=>[(2,.box 31 [.c (.val (.bool false)),.c (.val (.slice none 0 0))]),(3,.box 31 (zN ((wX zs k:Nat):Int)))]) (fun k=>zs.length - k) 0 (zq8 _) (fun k hk=>?_)
  (by
   refine St.aW [] zt ?_ ?_ rfl
   ·repeat(first|exact trivial|refine⟨⟨_,rfl,aF.same rfl⟩,?_⟩|refine⟨⟨_,rfl,aF.int (by rw[m1])⟩,?_⟩)
   ·exact⟨ay.same rfl rfl,ay.jZ rfl rfl ⟨aC.same rfl,aC.awq,trivial⟩,trivial⟩)
 by_cases h:k < zs.length
 ·obtain⟨z,hz1⟩:∃z,zs[k]? =some z:=⟨_,zyh h⟩
  have gz:zs.getD k 0=z:=by rw[zx7,hz1];rfl
  obtain⟨q,hz2⟩:∃q,l[k]? =some q:=⟨_,zyh zE⟩
  have b1:=oL hz k;have b2:=hz z (zq4 hz1);have q1:ZQ (z2v ((wX zs k:Nat):Int)) ((wX zs k:Nat):Int) K:=ZQ.made (by rw[zxa];exact b1)
  have q2:ZQ q z K:=hM.z k q z hz2 hz1;have cG:=(ada (h:=q1.zi) (h':=q2.zi)).h zE
  have e:Int.gcd ((wX zs k:Nat):Int) z=wX zs (k+1):=by rw[<-gz];rfl
  rw[e]at cG;refine zg ?_;exact W.next (k+1) h zE
 ·obtain rfl:k=zs.length:=zE
  refine zg ?_;exact nM aj.gV rfl
end Go.Proofs.YtjnhnbgpifohjaaGreatDoor
set_option linter.unusedSectionVars false
namespace Go.Proofs.YtjnhnbgpifohjaaGreatDoor
open Go.RowKit QM SX LA
section
theorem gB_4:∀i,i<=4->gB i<=2850:=zc
attribute [local irreducible] IntKind.wrap Go1 Reg WP aO aR bM bK aN aD aj ak aX Sat
attribute [local irreducible] bO bX bV cK bW qv dH mf PrP qOk zOk vP dP lz vF cq rqv dX aS bU aV fB cvR cvP akE gX eX nH psQ psA pPR pPQ jS
theorem aa4{l:List Z2}{zs:List Int}{K:Nat}(hM:MZ l zs K)(hn:pN zs)(hz:∀z∈zs,z.natAbs < WB ^ K)(hK:K<=100000)(hl:zs.length<=10000):ah prog 91 [.r (aA 2 z2C l)] (.r (aA 2 z2C ((gD zs).map z2v))):=by
 have m1:(zs.map z2v).length=zs.length:=zq5 _;have m0:=hM.len;have c1:=abY hM zE zE hn
 have cC:=rW (MZ.made hz) hz hK zE
 have bS:=avD hz;by_cases h0:zs.length=0
 ·have e:gD zs=[]:=zx5 (by rw[jd];exact h0)
  rw[e];refine ah.fq func91 results91 ntmps91 fun w0 T B E0 hB=>?_
  refine zg ?_;exact zY acG
 obtain⟨y,hy⟩:∃y,zs[zs.length - 1]? =some y:=⟨_,zyh zE⟩
 have hy':(zs.map z2v)[(zs.map z2v).length - 1]? =some (z2v y):=by rw[m1,zqa,hy];rfl
 have gy:zs.getD (zs.length - 1) 0=y:=by rw[zx7,hy];rfl
 have qy:ZQ (z2v y) y K:=ZQ.made (hz y (zq4 hy));have cS:=(rA (h:=qy.zi)).h zE
 have hs0:bI y < 0↔y < 0:=by unfold bI;(repeat' split) <;> omega
 by_cases hy0:y < 0
 ·have h1:=hs0.2 hy0;have eS:ko zs= -jS zs:=by unfold ko;rw[if_pos (by rw[gy];exact hy0)]
  have eZ:=congrArg zN eS;have qc:ZQ (z2v (jS zs)) (jS zs) K:=ZQ.made (by rw[eS,Int.natAbs_neg]at bS;exact bS)
  have cN:=(ar0 (h:=qc.zi)).h zE
  refine ah.fq func91 results91 ntmps91 fun w0 T B E0 hB=>?_
  refine zg ?_;refine W.loop (fun k=>k<=zs.length) (fun k=>[(3,.ptr 3 0),(4,.own 100),(27,.r (aA 2 z2C (zs.map z2v))),(28,.v (.int .i64 (zs.length:Int))),(29,.v (.int .i64 (k:Int)))]) (fun k=>[(3,.box 31 (zN (ko zs))),(100,.row 31 2 zs.length ((uo zs.length fun i=>if i < k then eX (zs.getD i 0) (ko zs)else 0).flatMap z2C))]) (fun k=>zs.length - k) 0 (zq8 _) (fun k hk=>?_)
   (by
    rw[eZ];refine St.aW [(100,some 26)] zt ?_ ?_ rfl
    ·repeat(first|exact trivial|refine⟨⟨_,rfl,aF.same rfl⟩,?_⟩|refine⟨⟨_,rfl,aF.own rfl⟩,?_⟩|refine⟨⟨_,rfl,aF.int (by rw[m1])⟩,?_⟩)
    ·exact⟨ay.same rfl rfl,ay.row rfl rfl m1 (by rw[<-aar (n:=zs.length) (f:=fun i=>if i < 0 then eX (zs.getD i 0) (ko zs)else 0) (fun i=>if_neg (zvj i)),m1]),trivial⟩)
  by_cases h:k < zs.length
  ·obtain⟨z,hz1⟩:∃z,zs[k]? =some z:=⟨_,zyh h⟩
   have gz:zs.getD k 0=z:=by rw[zx7,hz1];rfl
   have hz2:(zs.map z2v)[k]? =some (z2v z):=by rw[zqa,hz1];rfl
   have b2:=hz z (zq4 hz1);have q2:ZQ (z2v z) z K:=ZQ.made b2;have q3:ZQ (z2v (ko zs)) (ko zs) K:=ZQ.made bS;have cE:=(acw (h:=q2.zi) (h':=q3.zi)).h zE
   have hst:=zJ (n:=zs.length) (f:=fun i=>if i < k then eX (zs.getD i 0) (ko zs)else 0) (g:=fun i=>if i < k+1 then eX (zs.getD i 0) (ko zs)else 0) (k:=k) (x:=eX z (ko zs)) (fun i=>by
    by_cases hi:i=k
    ·subst hi;rw[if_pos rfl,if_pos zE,gz]
    ·rw[if_neg hi];by_cases hi2:i < k
     ·rw[if_pos hi2,if_pos zE]
     ·rw[if_neg hi2,if_neg zE])
   have hln:=uq zs.length fun i=>if i < k then eX (zs.getD i 0) (ko zs)else 0
   refine zg ?_;refine SX.G.nk (a:=z2v (eX z (ko zs))) ?_;rw[hst];refine zg ?_;exact W.next (k+1) h zE
  ·obtain rfl:k=zs.length:=zE
   have e9:(uo zs.length fun i=>if i < zs.length then eX (zs.getD i 0) (ko zs)else 0)=(gD zs).map z2v:=by
    unfold gD xK;rw[zv4];exact zvg fun i hi=>by
     show z2v (if i < zs.length then _ else _)=_
     rw[if_pos (List.mem_range.1 hi)];rfl
   rw[e9];refine WP.freeze 100 hB rfl ?_;refine zg ?_;refine uX ?_;have e8:((gD zs).map z2v).length=zs.length:=by rw[zq5,jd]
   rw[wF e8];rfl
 ·have h1:¬bI y < 0:=fun e=>hy0 (hs0.1 e)
  have eS:ko zs=jS zs:=by unfold ko;rw[if_neg (by rw[gy];exact hy0)]
  have eZ:=congrArg zN eS;refine ah.fq func91 results91 ntmps91 fun w0 T B E0 hB=>?_
  refine zg ?_;refine W.loop (fun k=>k<=zs.length) (fun k=>[(3,.ptr 3 0),(4,.own 100),(27,.r (aA 2 z2C (zs.map z2v))),(28,.v (.int .i64 (zs.length:Int))),(29,.v (.int .i64 (k:Int)))]) (fun k=>[(3,.box 31 (zN (ko zs))),(100,.row 31 2 zs.length ((uo zs.length fun i=>if i < k then eX (zs.getD i 0) (ko zs)else 0).flatMap z2C))]) (fun k=>zs.length - k) 0 (zq8 _) (fun k hk=>?_)
   (by
    rw[eZ];refine St.aW [(100,some 26)] zt ?_ ?_ rfl
    ·repeat(first|exact trivial|refine⟨⟨_,rfl,aF.same rfl⟩,?_⟩|refine⟨⟨_,rfl,aF.own rfl⟩,?_⟩|refine⟨⟨_,rfl,aF.int (by rw[m1])⟩,?_⟩)
    ·exact⟨ay.same rfl rfl,ay.row rfl rfl m1 (by rw[<-aar (n:=zs.length) (f:=fun i=>if i < 0 then eX (zs.getD i 0) (ko zs)else 0) (fun i=>if_neg (zvj i)),m1]),trivial⟩)
  by_cases h:k < zs.length
  ·obtain⟨z,hz1⟩:∃z,zs[k]? =some z:=⟨_,zyh h⟩
   have gz:zs.getD k 0=z:=by rw[zx7,hz1];rfl
   have hz2:(zs.map z2v)[k]? =some (z2v z):=by rw[zqa,hz1];rfl
   have b2:=hz z (zq4 hz1);have q2:ZQ (z2v z) z K:=ZQ.made b2;have q3:ZQ (z2v (ko zs)) (ko zs) K:=ZQ.made bS;have cE:=(acw (h:=q2.zi) (h':=q3.zi)).h zE
   have hst:=zJ (n:=zs.length) (f:=fun i=>if i < k then eX (zs.getD i 0) (ko zs)else 0) (g:=fun i=>if i < k+1 then eX (zs.getD i 0) (ko zs)else 0) (k:=k) (x:=eX z (ko zs)) (fun i=>by
    by_cases hi:i=k
    ·subst hi;rw[if_pos rfl,if_pos zE,gz]
    ·rw[if_neg hi];by_cases hi2:i < k
     ·rw[if_pos hi2,if_pos zE]
     ·rw[if_neg hi2,if_neg zE])
   have hln:=uq zs.length fun i=>if i < k then eX (zs.getD i 0) (ko zs)else 0
   refine zg ?_;refine SX.G.nk (a:=z2v (eX z (ko zs))) ?_;rw[hst];refine zg ?_;exact W.next (k+1) h zE
  ·obtain rfl:k=zs.length:=zE
   have e9:(uo zs.length fun i=>if i < zs.length then eX (zs.getD i 0) (ko zs)else 0)=(gD zs).map z2v:=by
    unfold gD xK;rw[zv4];exact zvg fun i hi=>by
     show z2v (if i < zs.length then _ else _)=_
     rw[if_pos (List.mem_range.1 hi)];rfl
   rw[e9];refine WP.freeze 100 hB rfl ?_;refine zg ?_;refine uX ?_;have e8:((gD zs).map z2v).length=zs.length:=by rw[zq5,jd]
   rw[wF e8];rfl
theorem ahP{l l':List Z2}{x y:List Int}(hMx:MZ l x 1)(hMy:MZ l' y 1)(hx:pN x)(hy:pN y)(hxl:x.length<=5)(hyl:y.length<=5)(hxz:∀z∈x,z.natAbs < WB ^ 1)(hyz:∀z∈y,z.natAbs < WB ^ 1):ah prog 33 [.r (aA 2 z2C l),.r (aA 2 z2C l')] (.r (aA 2 z2C ((qN x y).map z2v))):=by
 have c1:=rW hMx hxz zc zE
 have c2:=rW hMy hyz zc zE
 have p1:=aa4 hMx hx hxz zc zE
 have p2:=aa4 hMy hy hyz zc zE
 have b1:(jS x).natAbs < WB ^ 1:=by unfold jS;rw[zxa];exact oL hxz _
 have b2:(jS y).natAbs < WB ^ 1:=by unfold jS;rw[zxa];exact oL hyz _
 have q1:ZQ (z2v (jS x)) (jS x) 1:=ZQ.made b1;have q2:ZQ (z2v (jS y)) (jS y) 1:=ZQ.made b2;have cG:=(ada (h:=q1.zi) (h':=q2.zi)).h zE
 have hgl:=agt b1 b2;have qg:ZQ (z2v ((Int.gcd (jS x) (jS y):Nat):Int)) ((Int.gcd (jS x) (jS y):Nat):Int) 1:=ZQ.made (by rw[zxa];exact hgl)
 have l1:=jd x;have l2:=jd y;have hst:GcK (gD x) (gD y):=⟨uO hx,uO hy,zE,zE,fun z hz=>abe (u7 hxz z hz) (wD 0 _ (zq8 _)),fun z hz=>abe (u7 hyz z hz) (wD 0 _ (zq8 _))⟩
 unfold qN;refine ah.fq func33 results33 ntmps33 fun _ _ _ _ _=>?_
 refine zg ?_;refine W.aeN (fun(k:Nat) (a b:List Int)=>GcK a b/\b.length<=k/\gcR k a b=gcR (gD y).length (gD x) (gD y)) (fun k a b=>[(0,.r (aA 2 z2C (a.map z2v))),(1,.r (aA 2 z2C (b.map z2v))),(5,.ptr 5 0)]) (fun _ _ _=>[(5,.box 31 (zN ((Int.gcd (jS x) (jS y):Nat):Int)))]) (fun k _ _=>k) (gD y).length (gD x) (gD y) ⟨hst,zq6 _,rfl⟩ (fun k a b ⟨hG,hk,hE⟩=>?_)
 have ma:(a.map z2v).length=a.length:=zq5 _;have mb:(b.map z2v).length=b.length:=zq5 _;have g5:=gB_5 (5 - b.length) zE
 have hla:=hG.la;have hlb:=hG.lb;by_cases h0:b.length=0
 ·rw[ap0 h0]at hE;rw[<-hE];have cS:=tu (MZ.made hG.a) qg zE zE
  refine zg ?_;exact uX rfl
 ·obtain⟨m,rfl⟩:∃m,k=m+1:=⟨k - 1,zE⟩
  have hlt:=hG.lt h0;have hk5:=zx1 (gB (5 - b.length)+1) (show a.length+1<=6 by omega)
  have hk6:=zx1 (gB (5 - b.length)+1) (show a.length+1 - b.length<=6 by omega)
  have g4:=gB_4 (5 - b.length) zE
  have hP:=ajc hG.na hG.nb zE zE hG.a hG.b zE zE
  have bR:=apZ hG.na hG.a hG.b;have hRl:=amq hG.na h0;have hQ:=aa4 (MZ.made bR) (aqj (b:=b) hG.na) bR zE zE
  have hE2:gcR m b (gD (pPR a b))=gcR (gD y).length (gD x) (gD y):=by rw[<-hE];conv=>rhs;unfold gcR;rw[if_neg h0]
  refine zg ?_;exact W.adi m b (gD (pPR a b)) ⟨hG.step h0,zE,hE2⟩ zE
end
section
theorem aif(p x y:Nat):fM p x y=x*y % p:=by unfold fM;rw[<-Nat.mul_mod]
theorem atW{p:Nat}(h:0 < p)(x:Nat):fS p x x=0:=by
 unfold fS;rw[show x % p+p - x % p=p by have:=zyi x h;omega,Nat.mod_self]
theorem aop{p o a m y:Nat}(h:o*a ^ m % p=y)(hm:m % 2=1):fM p o a*fM p a a ^ (m / 2) % p=y:=by
 rw[aif,aif,<-h,Nat.mul_mod,Nat.mod_mod,Nat.pow_mod,Nat.mod_mod,<-Nat.pow_mod,<-Nat.mul_mod]
 congr 1
 obtain⟨k,hk⟩:∃k,k=m / 2:=⟨_,rfl⟩;rw[<-hk,show m=1+2*k by omega,zw5,zxh,Nat.pow_mul,show a ^ 2=a*a from Nat.pow_two a,Nat.mul_assoc]
theorem akD{p o a m y:Nat}(h:o*a ^ m % p=y)(hm:¬m % 2=1):o*fM p a a ^ (m / 2) % p=y:=by
 rw[aif,<-h,Nat.mul_mod,Nat.pow_mod,Nat.mod_mod,<-Nat.pow_mod,<-Nat.mul_mod]
 congr 1
 obtain⟨k,hk⟩:∃k,k=m / 2:=⟨_,rfl⟩;rw[<-hk,show m=2*k by omega,Nat.pow_mul,show a ^ 2=a*a from Nat.pow_two a]
def fI(p x:Nat):Nat:=if x % p=0 then 0 else x ^ (p - 2) % p
theorem aw8{p:Nat}(hp:PrP p)(x:Nat):fI p x < p:=by
 have:=hp.lt;unfold fI
 split
 ·omega
 ·exact zyi _ zE
attribute [local irreducible] IntKind.wrap Go1 Reg WP aO aR bM bK aN aD aj ak aX Sat
attribute [local irreducible] bO bX bV cK bW qv dH mf PrP qOk zOk vP dP lz vF cq rqv dX aS bU aV fB fA fS fM fI
theorem ao9{p:Nat}(hp:PrP p)(x n:Nat)(hx:x < 18446744073709551616)(hn:n < 18446744073709551616):ah prog 116 [.agg (gfA p),.v (.int .u64 (x:Int)),.v (.int .u64 (n:Int))] (.v (.int .u64 ((x ^ n % p:Nat):Int))):=by
 have hpl:=hp.lt;have c1:=fP hp 1 zc
 refine ah.fq func116 results116 ntmps116 fun _ _ _ _ _=>?_
 refine zg ?_;refine W.aeN (fun(a m o:Nat)=>a < 18446744073709551616/\m<=n/\o < p/\o*a ^ m % p=x ^ n % p) (fun a m o=>[(1,.v (.int .u64 (a:Int))),(2,.v (.int .u64 (m:Int))),(3,.ptr 3 0),(7,.v (.int .u64 (o:Int)))]) (fun _ _ _=>[(3,.box 65 (gfA p))]) (fun _ m _=>m) x n (1 % p) ⟨hx,zq6 _,zyi _ zE,by rw[Nat.mul_mod,Nat.mod_mod,<-Nat.mul_mod,Nat.one_mul]⟩ (fun a m o ⟨h1,h2,h3,h4⟩=>?_)
 by_cases h:0 < m
 ·have hr:IntKind.u64.wrap ((m:Int).tmod 2)=((m % 2:Nat):Int):=by rw[show (2:Int)=((2:Nat):Int)from rfl,nu];exact wrapN (zxb (Nat.mod_le m 2) zE)
  have hd:IntKind.u64.wrap ((m:Int).tdiv 2)=((m / 2:Nat):Int):=by rw[show (2:Int)=((2:Nat):Int)from rfl,ati];exact wrapN (zxb (Nat.div_le_self m 2) zE)
  have cM:=qI hp o a zE h1
  have cA:=qI hp a a h1 h1;have l1:=y7 hp o a;have l2:=y7 hp a a;by_cases h5:m % 2=1
  ·refine zg ?_;exact W.adi (fM p a a) (m / 2) (fM p o a) ⟨zE,zE,l1,aop h4 h5⟩ zE
  ·refine zg ?_;exact W.adi (fM p a a) (m / 2) o ⟨zE,zE,h3,akD h4 h5⟩ zE
 ·obtain rfl:m=0:=zE
  rw[Nat.pow_zero,Nat.mul_one,zw4 h3]at h4;refine zg ?_;refine fC (t:=6) (k:= .u64) (z:=(o:Int)) (by rw[h4]) ?_
  rfl
theorem afw{p:Nat}(hp:PrP p)(x:Nat)(hx:x < 18446744073709551616):ah prog 66 [.agg (gfA p),.v (.int .u64 (x:Int))] (.v (.int .u64 ((fI p x:Nat):Int))):=by
 have hpl:=hp.lt;have c1:=fP hp x hx;have c2:=sQ hp;have c3:=ao9 hp x (p - 2) hx zE
 unfold fI;refine ah.fq func66 results66 ntmps66 fun _ _ _ _ _=>?_
 by_cases h:x % p=0
 ·rw[if_pos h];rw[h]at c1;refine zg ?_;exact fC rfl
 ·rw[if_neg h];have h1:¬((x % p:Nat):Int)=0:=zE
  refine zg ?_;exact fC rfl
theorem ajz{p:Nat}(hp:PrP p){l:List Nat}(hl:l.length<=100000)(hb:∀x∈l,x < 18446744073709551616)(h0:1<=(aH p l).length):pq prog 64 [.agg (gfA p),.r (aA 1 wdC l)] 36 1 (aH p l).length ((aH p l).flatMap wdC):=by
 have hlen:=aaA p l;have hle:=abP (jG p l);have hpl:=hp.lt;refine pq.fnF func64 results64 ntmps64 rfl rfl rfl zd fun _ _ _ _ _=>?_
 refine zg ?_;refine W.loop (fun k=>k<=l.length/\wl (jG p l) k=wR (jG p l)) (fun k=>[(1,.r (aA 1 wdC l)),(2,.ptr 2 0),(5,.v (.int .i64 (k:Int)))]) (fun _=>[(2,.box 65 (gfA p))]) (fun k=>k) l.length ⟨zq6 _,by rw[<-hlen];unfold wR;rfl⟩ (fun k ⟨hk,he⟩=>?_)
 by_cases hk0:0 < k
 ·obtain⟨m,rfl⟩:∃m,k=m+1:=⟨k - 1,zE⟩
  obtain⟨q,hq⟩:∃q,l[m+1 - 1]? =some q:=⟨_,zyh zE⟩
  have hq':l[m]? =some q:=hq;have hg:(jG p l).getD m 0=q % p:=by rw[rR,zx7,hq'];rfl
  have cS:=fP hp q (hb q (zq4 hq'));unfold wl at he;rw[hg]at he;by_cases hz0:q % p=0
  ·rw[if_pos hz0]at he;rw[hz0]at cS;refine zg ?_;exact W.next m ⟨zE,he⟩ zE
  ·rw[if_neg hz0]at he;have h1:¬((q % p:Nat):Int)=0:=zE
   rw[<-he]at hle;refine zg ?_;refine W.loop (fun j=>j<=m+1) (fun j=>[(1,.r (aA 1 wdC l)),(2,.ptr 2 0),(6,.own 100),(29,.v (.int .i64 ((m+1:Nat):Int))),(30,.v (.int .i64 (j:Int)))]) (fun j=>[(2,.box 65 (gfA p)),(100,.row 36 1 (m+1) ((fZ (m+1) fun i=>if i < j then l.getD i 0 % p else 0).flatMap wdC))]) (fun j=>m+1 - j) 0 (zq8 _) (fun j hj=>?_)
    (by
     refine St.aW [(100,some 27)] zt ?_ ?_ rfl
     ·exact yb
     ·exact⟨ay.same rfl rfl,ay.row rfl rfl rfl (mG fun m=>by rw[if_neg (zvj m)]),trivial⟩)
   by_cases h2:j < m+1
   ·obtain⟨q2,hq2⟩:∃q2,l[j]? =some q2:=⟨_,zyh zE⟩
    have cF:=fP hp q2 (hb q2 (zq4 hq2));have g2:l.getD j 0=q2:=by rw[zx7,hq2];rfl
    have hln:=dn (m+1) fun i=>if i < j then l.getD i 0 % p else 0
    have hst:=lu (n:=m+1) (f:=fun i=>if i < j then l.getD i 0 % p else 0) (g:=fun i=>if i < j+1 then l.getD i 0 % p else 0) (k:=j) (x:=q2 % p) (fun i=>by
     by_cases hi:i=j
     ·subst hi;rw[if_pos rfl,if_pos zE,g2]
     ·rw[if_neg hi];by_cases hi2:i < j
      ·rw[if_pos hi2,if_pos zE]
      ·rw[if_neg hi2,if_neg zE])
    refine zg ?_;refine W.next (j+1) h2 zE (by
     refine St.aW [(100,some 100)] zt ?_ ?_ rfl
     ·exact yb
     ·exact⟨ay.same rfl rfl,ay.row rfl rfl rfl ((sK (by rw[hln];exact h2)).trans (by rw[hst])),trivial⟩)
   ·obtain rfl:j=m+1:=zE
    have e9:(fZ (m+1) fun i=>if i < m+1 then l.getD i 0 % p else 0)=aH p l:=by
     unfold aH qd;rw[<-he];apply zyb;intro i
     by_cases hi:i < m+1
     ·rw[jo hi,if_pos hi,zy9,if_pos hi]
      have h7:=rR p l i;have hi3:i < (jG p l).length:=zE
      rw[zx7,zyh hi3]at h7
      rw[zyh hi3,<-h7];rfl
     ·rw[zqe (by rw[dn];omega),zqe (by rw[zx3];omega)]
    have e8:(aH p l).length=m+1:=by rw[<-e9,dn]
    rw[e8,<-e9];refine zg ?_;exact retO
 ·exfalso
  obtain rfl:k=0:=zE
  have he':wR (jG p l)=0:=he.symm;unfold aH at h0;rw[oz,he']at h0;omega
end
section
def dAk(p q:Nat)(b:List Nat)(i k:Nat)(f:Nat->Nat)(m:Nat):Nat:=if i<=m/\m < i+k then fS p (f m) (fM p q (b.getD (m - i) 0))else f m
def dF(p l:Nat)(b:List Nat)(n:Nat)(f0:Nat->Nat):Nat->Nat->Nat
 |0=>f0
 |s+1=>dAk p (fM p (dF p l b n f0 s (n - (s+1)+b.length - 1)) l) b (n - (s+1)) b.length (dF p l b n f0 s)
def dQ(p l:Nat)(b:List Nat)(n:Nat)(f0:Nat->Nat)(i:Nat):Nat:=fM p (dF p l b n f0 (n - (i+1)) (i+b.length - 1)) l
theorem aqB(p q:Nat)(b:List Nat)(i:Nat)(f:Nat->Nat):dAk p q b i 0 f=f:=by
 funext m;unfold dAk;rw[if_neg zE]
theorem axj(p q:Nat)(b:List Nat)(i k:Nat)(f:Nat->Nat):dAk p q b i k f (i+k)=f (i+k):=by unfold dAk;rw[if_neg zE]
theorem aqD(p q:Nat)(b:List Nat)(i k:Nat)(f:Nat->Nat)(m:Nat):(if m=i+k then fS p (f (i+k)) (fM p q (b.getD k 0))else dAk p q b i k f m)=dAk p q b i (k+1) f m:=by
 unfold dAk;by_cases h:m=i+k
 ·subst h;rw[if_pos rfl,if_pos zE,show i+k - i=k by omega]
 ·rw[if_neg h];by_cases h2:i<=m/\m < i+k
  ·rw[if_pos h2,if_pos zE]
  ·rw[if_neg h2,if_neg zE]
theorem awU{p:Nat}(hp:PrP p){q:Nat}{b:List Nat}{i k:Nat}{f:Nat->Nat}{B:Nat}(hB:p<=B)(hf:∀m,f m < B)(m:Nat):dAk p q b i k f m < B:=by
 unfold dAk;split
 ·have:=aqi hp (f m) (fM p q (b.getD (m - i) 0));omega
 ·exact hf m
theorem ar9{p:Nat}(hp:PrP p){l:Nat}{b:List Nat}{n:Nat}{f0:Nat->Nat}{B:Nat}(hB:p<=B)(hf:∀m,f0 m < B):∀s m,dF p l b n f0 s m < B
 |0,m=>hf m
 |s+1,m=>awU hp hB (ar9 hp hB hf s) m
theorem atv{p:Nat}(hp:PrP p){l:Nat}{b:List Nat}{n:Nat}{f0:Nat->Nat}(hb:1<=b.length)(hl:∀x,x < p->fM p (fM p x l) (b.getD (b.length - 1) 0)=x)(hf:∀m,f0 m < p):∀s,s<=n->∀m,n - s+b.length - 1<=m->m < n+b.length - 1->dF p l b n f0 s m=0
 |0,_,m,h1,h2=>zE
 |s+1,hs,m,h1,h2=>by
  have hpl:=hp.lt;show dAk p _ b (n - (s+1)) b.length _ m=0;unfold dAk;by_cases h:m=n - (s+1)+b.length - 1
  ·rw[if_pos zE,show m - (n - (s+1))=b.length - 1 by omega,<-h,hl _ (ar9 hp (zq6 p) hf s m),atW zE]
  ·rw[if_neg zE]
   exact atv hp hb hl hf s zE m zE h2
theorem PrP.dvd{p:Nat}(hp:PrP p)(d:Nat)(h:d ∣ p):d=1\/d=p:=by
 have hpl:=hp.lt;obtain⟨e,he⟩:=h;rcases zyd d 2 with h1|h1
 ·rcases zye d with h2|h2
  ·subst h2;rw[zw3]at he;omega
  ·exact .inl zE
 rcases zyd e 2 with h2|h2
 ·rcases zye e with h3|h3
  ·subst h3;rw[Nat.mul_zero]at he;omega
  ·obtain rfl:e=1:=zE
   exact .inr zE
 exfalso
 have hde:=zx8 d h2;have hed:=zx1 e h1;rcases Nat.le_total d e with h3|h3
 ·refine hp.2.2 d zE ⟨h1,by rw[he];exact zx8 d h3⟩ ?_
  rw[he,Nat.mul_mod_right]
 ·refine hp.2.2 e zE ⟨h2,by rw[he];exact zx1 e h3⟩ ?_
  rw[he,Nat.mul_mod_left]
theorem awT{p:Nat}(hp:PrP p){x:Nat}(hx:x % p≠0):x*fI p x % p=1:=by
 have hpl:=hp.lt;unfold fI;rw[if_neg hx];have hd:¬p ∣ x:=fun h=>hx (Nat.mod_eq_zero_of_dvd h)
 have h:=FM.axH (PrP.dvd hp) zE hd
 rw[Nat.mul_mod,Nat.mod_mod,<-Nat.mul_mod,zxj,<-zyf,show (p - 2).succ=p - 1 by omega]
 exact h
theorem axq{p:Nat}(hp:PrP p){y:Nat}(hy:y % p≠0)(x:Nat)(hx:x < p):fM p (fM p x (fI p y)) y=x:=by
 have hpl:=hp.lt;have h:=awT hp hy;rw[aif,aif,Nat.mul_mod,Nat.mod_mod,<-Nat.mul_mod,Nat.mul_assoc,zxj (fI p y) y,Nat.mul_mod,h,Nat.mul_one,Nat.mod_mod,zw4 hx]
def nK(p:Nat)(a b:List Nat):List Nat:=
 if(aH p b).length=0\/(aH p a).length < (aH p b).length then []
 else
  let n:=(aH p a).length - (aH p b).length+1
  let l:=fI p ((aH p b).getD ((aH p b).length - 1) 0)
  aH p (fZ n (dQ p l (aH p b) n fun m=>(aH p a).getD m 0))
def xS(p:Nat)(a b:List Nat):List Nat:=
 if(aH p b).length=0 then []
 else if(aH p a).length < (aH p b).length then aH p a
 else
  let n:=(aH p a).length - (aH p b).length+1
  let l:=fI p ((aH p b).getD ((aH p b).length - 1) 0)
  aH p (fZ (aH p a).length (dF p l (aH p b) n (fun m=>(aH p a).getD m 0) n))
theorem av1{zs:List Nat}{n:Nat}(h:∀m,n<=m->zs.getD m 0=0):wR zs<=n:=by
 rcases ak2 zs zs.length with h0|h0
 ·show wl zs zs.length<=n;omega
 ·rcases zyd n (wR zs)with h1|h1
  ·exact absurd (h (wR zs - 1) zE) h0
  ·exact h1
theorem aiL{p:Nat}{zs:List Nat}{n:Nat}(h:∀m,n<=m->zs.getD m 0=0):(aH p zs).length<=n:=by
 unfold aH;rw[oz];refine av1 fun m hm=>?_
 rw[rR,h m hm,Nat.zero_mod]
theorem asa{p:Nat}(hp:PrP p)(a b:List Nat)(hb:(aH p b).length≠0):(xS p a b).length < (aH p b).length:=by
 unfold xS;rw[if_neg hb];have hlt:=fD hp b;have hg:=jY p b;have ha:=fD hp a;generalize aH p b=b' at*;generalize aH p a=a' at*;by_cases h:a'.length < b'.length
 ·rw[if_pos h];exact h
 ·rw[if_neg h];have h1:(aH p (fZ a'.length (dF p (fI p (b'.getD (b'.length - 1) 0)) b' (a'.length - b'.length+1) (fun m=>a'.getD m 0) (a'.length - b'.length+1)))).length<=b'.length - 1:=by
   refine aiL fun m hm=>?_
   by_cases hm2:m < a'.length
   ·rw[auO hm2];refine atv hp zE (fun x hx=>axq hp ?_ x hx) (fun m=>rP ha (by have:=hp.lt;omega) m) _ (zq6 _) m zE zE
    have h0:=hg.resolve_left hb;rw[zw4 (rP hlt (by have:=hp.lt;omega) _)]
    exact h0
   ·exact aaf (by rw[dn];omega)
  exact zxb h1 zE
theorem afQ{p:Nat}(hp:PrP p)(a b:List Nat):∀z∈xS p a b,z < p:=by
 unfold xS
 split
 ·intro z hz;cases hz
 ·split <;> exact fD hp _
theorem anm(p:Nat)(a b:List Nat):gN (xS p a b):=by
 unfold xS
 split
 ·exact .inl rfl
 ·split <;> exact jY p _
theorem agN{p:Nat}(hp:PrP p)(a b:List Nat):∀z∈nK p a b,z < p:=by
 unfold nK
 split
 ·intro z hz;cases hz
 ·exact fD hp _
theorem auA(p:Nat)(a b:List Nat):gN (nK p a b):=by
 unfold nK
 split
 ·exact .inl rfl
 ·exact jY p _
theorem yJ(p:Nat)(a b:List Nat):(nK p a b).length<=a.length:=by
 unfold nK
 split
 ·exact zq8 _
 ·rename_i h;refine zxf (dA p _) ?_;rw[dn];have:=dA p a;omega
theorem aeJ(p:Nat)(a b:List Nat):(xS p a b).length<=a.length:=by
 have h:=dA p a;unfold xS
 split
 ·exact zq8 _
 ·split
  ·exact h
  ·refine zxf (dA p _) ?_;rw[dn];exact h
attribute [local irreducible] IntKind.wrap Go1 Reg WP aO aR bM bK aN aD aj ak aX Sat
attribute [local irreducible] bO bX bV cK bW qv dH mf PrP qOk zOk vP dP lz vF cq rqv dX aS bU aV fB fA fS fM fI aH dAk dF dQ
abbrev rwA(l:List Nat):AV0:= .one (.c (.sat (aA 1 wdC l)))
theorem aag:(AV0.one (.c (.val (.slice none 0 0)))).imp (rwA []):=fun E S w v h=>aB.nil (α:=Nat) (enc:=wdC) (size:=1) E S w v h
theorem qG{p:Nat}(hp:PrP p){l l':List Nat}(hl:l.length<=10000)(hl':l'.length<=10000)(hb:∀x∈l,x < 18446744073709551616)(hb':∀x∈l',x < 18446744073709551616):
  ah prog 69 [.agg (gfA p),.r (aA 1 wdC l),.r (aA 1 wdC l')] (.tup [rwA (nK p l l'),rwA (xS p l l'),.one (.c (.val (.bool (decide ((aH p l').length≠0)))))]):=by
 have hpl:=hp.lt;have c2:=iH hp (l:=l') zE hb'
 have n1:=dA p l;have n2:=dA p l';have hA:=fD hp l;have hB':=fD hp l';have cP:=iH hp (l:=l) zE hb
 have cO:=ajz hp (l:=l) zE hb
 unfold nK xS;generalize aH p l=a at*;generalize aH p l'=b at*;by_cases h0:b.length=0
 ·rw[if_pos (.inl h0),if_pos h0,decide_eq_false (not_not_intro h0)];clear cO;refine ah.fq func69 results69 ntmps69 fun w0 T B E0 hB=>?_
  refine zg ?_;exact nT (aj.tmp rfl) (aj.tmp rfl) (aj.tmp rfl) aag aag (zv _)
 rw[if_neg h0,decide_eq_true h0];by_cases h1:a.length < b.length
 ·rw[if_pos (.inr h1),if_pos h1];clear cO;refine ah.fq func69 results69 ntmps69 fun w0 T B E0 hB=>?_
  refine zg ?_;exact nT (aj.tmp rfl) (aj.tmp rfl) (aj.tmp rfl) aag (zv _) (zv _)
 rw[if_neg zE,if_neg h1]
 clear cP;have cO:=cO zE
 obtain⟨n,hn⟩:∃n,n=a.length - b.length+1:=⟨_,rfl⟩;obtain⟨lb,hlb⟩:∃lb,b[b.length - 1]? =some lb:=⟨_,zyh zE⟩
 have glb:b.getD (b.length - 1) 0=lb:=by rw[zx7,hlb];rfl
 have llb:=hB' lb (zq4 hlb);have cI:=afw hp lb zE
 have lI:=aw8 hp lb;rw[glb,<-hn];generalize fI p lb=ld at*;have hf0:∀m,(fun m=>a.getD m 0) m < 18446744073709551616:=fun m=>rP (B:=18446744073709551616) (fun x hx=>by have:=hA x hx;omega) zc m
 have ht0:fZ a.length (fun m=>a.getD m 0)=a:=by
  apply zyb;intro i
  by_cases hi:i < a.length
  ·rw[jo hi,zx7,zyh hi];rfl
  ·rw[zqe (by rw[dn];omega),zqe zE]
 generalize hf:(fun m=>a.getD m 0)=f0 at*
 have hFb:=ar9 hp (p:=p) (l:=ld) (b:=b) (n:=n) (f0:=f0) (B:=18446744073709551616) zE hf0
 have hz0:dF p ld b n f0 0=f0:=by unfold dF;rfl
 have hzs:∀s,dF p ld b n f0 (s+1)=dAk p (fM p (dF p ld b n f0 s (n - (s+1)+b.length - 1)) ld) b (n - (s+1)) b.length (dF p ld b n f0 s):=fun s=>by conv=>lhs;unfold dF
 have cNq:=pI hp (n:=n) (f:=dQ p ld b n f0) zE (fun i=>by unfold dQ;have:=y7 hp (dF p ld b n f0 (n - (i+1)) (i+b.length - 1)) ld;omega)
 have cNr:=pI hp (n:=a.length) (f:=dF p ld b n f0 n) zE (fun i=>hFb n i)
 refine ah.fq func69 results69 ntmps69 fun w0 T B E0 hB=>?_
 refine zg ?_;refine W.loop (fun j=>j<=n) (fun j=>[(1,.own 100),(2,.r (aA 1 wdC b)),(3,.ptr 3 0),(9,.v (.int .u64 (ld:Int))),(10,.own 101),(11,.v (.int .i64 ((j:Int) - 1)))]) (fun j=>[(3,.box 65 (gfA p)),(100,.row 36 1 a.length ((fZ a.length (dF p ld b n f0 (n - j))).flatMap wdC)),(101,.row 36 1 n ((fZ n fun i=>if j<=i/\i < n then dQ p ld b n f0 i else 0).flatMap wdC))]) (fun j=>j) n (zq6 _) (fun j hj=>?_)
  (by
   refine St.aW [(100,some 16),(101,some 43)] zt ?_ ?_ rfl
   ·exact yd
   ·exact⟨ay.same rfl rfl,ay.row rfl rfl rfl (by rw[Nat.sub_self,hz0,ht0]),ay.row rfl rfl zE (by rw[show a.length - b.length+1=n by omega];exact mG fun m=>by rw[if_neg zE]),trivial⟩)
 cases j with
 |zero=>
  have e9:(fZ n fun i=>if 0<=i/\i < n then dQ p ld b n f0 i else 0)=fZ n (dQ p ld b n f0):=by
   unfold fZ;exact zvg fun i hi=>if_pos ⟨zq8 _,List.mem_range.1 hi⟩
  rw[e9,Nat.sub_zero];refine WP.freeze 100 hB rfl ?_;refine WP.freeze 101 hB rfl ?_;refine zg ?_;exact nT (aj.tmp rfl) (aj.tmp rfl) (aj.tmp rfl) (zv _) (zv _) (zv _)
 |succ m=>
  rw[show ((m+1:Nat):Int) - 1=(m:Int)by omega]
  obtain⟨F,hF⟩:∃F,F=dF p ld b n f0 (n - (m+1)):=⟨_,rfl⟩;have hFl:∀i,F i < 18446744073709551616:=fun i=>by rw[hF];exact hFb _ i
  have hQ:dQ p ld b n f0 m=fM p (F (m+b.length - 1)) ld:=by unfold dQ;rw[hF]
  have hnext:dAk p (dQ p ld b n f0 m) b m b.length F=dF p ld b n f0 (n - m):=by
   rw[show n - m=n - (m+1)+1 by omega,hzs,hQ,hF,show n - (n - (m+1)+1)=m by omega]
  have lQ:=y7 hp (F (m+b.length - 1)) ld;rw[<-hQ]at lQ;have i1:m+b.length - 1 < a.length:=zE
  have hat:=jo (f:=F) i1;have hlnF:=dn a.length F;have hlnQ:=dn n fun i=>if m+1<=i/\i < n then dQ p ld b n f0 i else 0
  have cM:=qI hp (F (m+b.length - 1)) ld (hFl _) zE
  rw[<-hQ]at cM;have hst:=lu (n:=n) (f:=fun i=>if m+1<=i/\i < n then dQ p ld b n f0 i else 0) (g:=fun i=>if m<=i/\i < n then dQ p ld b n f0 i else 0) (k:=m) (x:=dQ p ld b n f0 m) (fun i=>by
   by_cases hi:i=m
   ·subst hi;rw[if_pos rfl,if_pos zE]
   ·rw[if_neg hi];by_cases hi2:m+1<=i/\i < n
    ·rw[if_pos hi2,if_pos zE]
    ·rw[if_neg hi2,if_neg zE])
  rw[<-hF];generalize hq:dQ p ld b n f0 m=q at*;refine zg ?_;refine W.loop (fun k=>k<=b.length) (fun k=>[(1,.own 100),(2,.r (aA 1 wdC b)),(3,.ptr 3 0),(9,.v (.int .u64 (ld:Int))),(10,.own 101),(11,.v (.int .i64 (m:Int))),(65,.r (aA 1 wdC b)),(66,.v (.int .i64 (b.length:Int))),(67,.v (.int .i64 (k:Int)))]) (fun k=>[(3,.box 65 (gfA p)),(100,.row 36 1 a.length ((fZ a.length (dAk p q b m k F)).flatMap wdC)),(101,.row 36 1 n ((fZ n fun i=>if m<=i/\i < n then dQ p ld b n f0 i else 0).flatMap wdC))]) (fun k=>b.length - k) 0 (zq8 _) (fun k hk=>?_)
   (by
    refine St.aW [(100,some 100),(101,some 101)] zt ?_ ?_ rfl
    ·exact yd
    ·exact⟨ay.same rfl rfl,ay.row rfl rfl rfl (by rw[aqB]),ay.row rfl rfl rfl ((sK (by rw[hlnQ];omega)).trans (by rw[hst])),trivial⟩)
  by_cases h2:k < b.length
  ·obtain⟨y,hy⟩:∃y,b[k]? =some y:=⟨_,zyh h2⟩
   have gy:b.getD k 0=y:=by rw[zx7,hy];rfl
   have ly:=hB' y (zq4 hy);have i2:m+k < a.length:=zE
   have hat2:(fZ a.length (dAk p q b m k F))[m+k]? =some (F (m+k)):=by rw[jo i2,axj]
   have hatq:(fZ n fun i=>if m<=i/\i < n then dQ p ld b n f0 i else 0)[m]? =some q:=by rw[jo zE,if_pos ⟨zq6 _,zE⟩,hq]
   have hln2:=dn a.length (dAk p q b m k F);have hlq2:=dn n fun i=>if m<=i/\i < n then dQ p ld b n f0 i else 0
   have cM2:=qI hp q y zE zE
   have lM:=y7 hp q y;have cS:=af8 hp (F (m+k)) (fM p q y) (hFl _) zE
   have hst2:=lu (n:=a.length) (f:=dAk p q b m k F) (g:=dAk p q b m (k+1) F) (k:=m+k) (x:=fS p (F (m+k)) (fM p q y)) (fun i=>by
    have:=aqD p q b m k F i;rw[gy]at this;exact this)
   refine zg ?_;refine W.next (k+1) h2 zE (by
    refine St.aW [(100,some 100),(101,some 101)] zt ?_ ?_ rfl
    ·exact yd
    ·exact⟨ay.same rfl rfl,ay.row rfl rfl rfl ((sK (by rw[hln2];exact i2)).trans (by rw[hst2])),ay.row rfl rfl rfl rfl,trivial⟩)
  ·obtain rfl:k=b.length:=zE
   rw[hnext];refine zg ?_;refine W.next m zE zE (by
    refine St.aW [(100,some 100),(101,some 101)] zt ?_ ?_ rfl
    ·exact yd
    ·exact⟨ay.same rfl rfl,ay.row rfl rfl rfl rfl,ay.row rfl rfl rfl rfl,trivial⟩)
end
section
def abx(p:Nat)(a:List Nat)(c:Nat):List Nat:=aH p (fZ a.length fun i=>fM p (a.getD i 0) c)
theorem abV{p:Nat}(hp:PrP p)(a:List Nat)(c:Nat):∀z∈abx p a c,z < p:=fD hp _
theorem alj(p:Nat)(a:List Nat)(c:Nat):gN (abx p a c):=jY p _
theorem y9(p:Nat)(a:List Nat)(c:Nat):(abx p a c).length<=a.length:=by
 have:=dA p (fZ a.length fun i=>fM p (a.getD i 0) c)
 rw[dn]at this;exact this
def kY(p:Nat)(a:List Nat):Nat:=(aH p a).getD ((aH p a).length - 1) 0
theorem apH{p:Nat}(hp:PrP p)(a:List Nat):kY p a < p:=rP (fD hp a) (by have:=hp.lt;omega) _
structure Eu where
 a:List Nat
 b:List Nat
 s:List Nat
 t:List Nat
def Eu.step(p:Nat)(e:Eu):Eu:=⟨e.b,xS p e.a e.b,e.t,atB p e.s (rG p (nK p e.a e.b) e.t)⟩
def Eu.run(p:Nat):Nat->Eu->Eu
 |0,e=>e
 |k+1,e=>if e.b.length=0 then e else Eu.run p k (e.step p)
theorem akW{p:Nat}{l:List Nat}(hl:∀x∈l,x < p)(hg:gN l):aH p l=l:=by
 unfold aH;rw[acA hl,acV hg]
structure Eu.Ok(p L:Nat)(e:Eu):Prop where
 a:(∀x∈e.a,x < p)/\e.a.length<=L
 b:(∀x∈e.b,x < p)/\gN e.b/\e.b.length<=L
 s:(∀x∈e.s,x < p)/\e.s.length+L*e.b.length<=1+L*L
 t:(∀x∈e.t,x < p)/\e.t.length+L*e.b.length<=1+L*L
theorem Eu.aju{p L:Nat}(hp:PrP p){e:Eu}(h:e.Ok p L)(hb:e.b.length≠0):(e.step p).b.length < e.b.length:=by
 have h1:=akW h.b.1 h.b.2.1;have h2:=asa hp e.a e.b (by rw[h1];exact hb)
 rw[h1]at h2;exact h2
theorem Eu.step_ok{p L:Nat}(hp:PrP p){e:Eu}(h:e.Ok p L)(hb:e.b.length≠0):(e.step p).Ok p L:=by
 have h1:=Eu.aju hp h hb;have h2:=aaE p (fS p) e.s (rG p (nK p e.a e.b) e.t);have h3:=zM p (nK p e.a e.b) e.t;have h4:=yJ p e.a e.b;have h5:=zx8 L (show (e.step p).b.length+1<=e.b.length from h1)
 rw[Nat.mul_add,Nat.mul_one]at h5;have h6:=h.s.2;have h7:=h.t.2;have h8:=h.a.2;refine⟨⟨h.b.1,h.b.2.2⟩,⟨afQ hp _ _,anm p _ _,by have:=h.b.2.2;omega⟩,⟨h.t.1,by show e.t.length+_<=_;omega⟩,⟨aiT hp _ _ _,?_⟩⟩
 have h9:(e.step p).t.length<=max e.s.length (rG p (nK p e.a e.b) e.t).length:=h2;omega
theorem Eu.akK{p L:Nat}(hp:PrP p):∀(k:Nat) {e:Eu},e.Ok p L->e.b.length<=k->(Eu.run p k e).Ok p L/\(Eu.run p k e).b.length=0
 |0,e,h,hk=>⟨h,by show e.b.length=0;omega⟩
 |k+1,e,h,hk=>by
  unfold Eu.run;by_cases hb:e.b.length=0
  ·rw[if_pos hb];exact⟨h,hb⟩
  ·rw[if_neg hb];have:=Eu.aju hp h hb;exact Eu.akK hp k (Eu.step_ok hp h hb) zE
theorem Eu.asu(p:Nat){e:Eu}(h:e.b.length=0)(k:Nat):Eu.run p k e=e:=by
 cases k with
 |zero=>rfl
 |succ k=>unfold Eu.run;rw[if_pos h]
def euOf(p:Nat)(l l':List Nat):Eu:=⟨aH p l,aH p l',[1],[]⟩
def iw(p:Nat)(l l':List Nat):Eu:=Eu.run p (aH p l').length (euOf p l l')
def xgG(p:Nat)(l l':List Nat):List Nat:=abx p (iw p l l').a (fI p (kY p (iw p l l').a))
def adq(p:Nat)(l l':List Nat):List Nat:=abx p (iw p l l').s (fI p (kY p (iw p l l').a))
def xgS(p:Nat)(l l':List Nat):List Nat:=if(aH p l').length=0 then adq p l l' else xS p (adq p l l') (nK p (aH p l') (xgG p l l'))
def xgT(p:Nat)(l l':List Nat):List Nat:=if(aH p l').length=0 then []else nK p (atB p (xgG p l l') (rG p (xgS p l l') (aH p l))) (aH p l')
theorem alc{p:Nat}(hp:PrP p){l l':List Nat}{L:Nat}(hl:l.length<=L)(hl':l'.length<=L):(euOf p l l').Ok p L:=by
 have h1:=dA p l;have h2:=dA p l';have h3:=zx8 L (show (aH p l').length<=L by omega)
 have hpl:=hp.lt;exact⟨⟨fD hp l,by show (aH p l).length<=L;omega⟩,⟨fD hp l',jY p l',by show (aH p l').length<=L;omega⟩,⟨fun x hx=>by
  have:=zxi.1 hx;omega,by show 1+L*(aH p l').length<=_;omega⟩,⟨fun x hx=>(by cases hx),by show 0+L*(aH p l').length<=_;omega⟩⟩
def fEv(p:Nat)(a:List Nat)(x:Nat):Nat->Nat
 |0=>0
 |k+1=>fA p (fM p (fEv p a x k) x) (a.getD (a.length - (k+1)) 0)
theorem ak9{p:Nat}(hp:PrP p)(a:List Nat)(x:Nat):∀k,fEv p a x k < p
 |0=>by have:=hp.lt;unfold fEv;omega
 |k+1=>al1 hp _ _
theorem aC.nilW{ρ:List (Nat×Option Nat)}:aC ρ (.c (.val (.slice none 0 0))) (.c (.sat (aA 1 wdC []))):=fun E S w v hv=>aB.nil (α:=Nat) (enc:=wdC) (size:=1) _ S w v (aC.same (ρ:=ρ) (x:= .c (.val (.slice none 0 0))) rfl E S w v hv)
attribute [local irreducible] IntKind.wrap Go1 Reg WP aO aR bM bK aN aD aj ak aX Sat
attribute [local irreducible] bO bX bV cK bW qv dH mf PrP qOk zOk vP dP lz vF cq rqv dX aS bU aV fB fA fS fM fI aH dAk dF dQ nK xS aaW rG abx kY
theorem ade{p:Nat}(hp:PrP p){l:List Nat}(hl:l.length<=10000)(hb:∀x∈l,x < 18446744073709551616)(c:Nat)(hc:c < 18446744073709551616):ah prog 68 [.agg (gfA p),.r (aA 1 wdC l),.v (.int .u64 (c:Int))] (.r (aA 1 wdC (abx p l c))):=by
 have hpl:=hp.lt;obtain⟨n,hn⟩:∃n,n=l.length:=⟨_,rfl⟩;have cN:=pI hp (n:=n) (f:=fun i=>fM p (l.getD i 0) c) zE (fun i=>by have:=y7 hp (l.getD i 0) c;show fM p (l.getD i 0) c < _;omega)
 unfold abx;rw[<-hn];refine ah.fq func68 results68 ntmps68 fun _ _ _ _ hB=>?_
 refine zg ?_;refine W.loop (fun k=>k<=n) (fun k=>[(2,.v (.int .u64 (c:Int))),(3,.ptr 3 0),(7,.own 100),(13,.r (aA 1 wdC l)),(14,.v (.int .i64 (n:Int))),(15,.v (.int .i64 (k:Int)))]) (fun k=>[(3,.box 65 (gfA p)),(100,.row 36 1 n ((fZ n fun i=>if i < k then fM p (l.getD i 0) c else 0).flatMap wdC))]) (fun k=>n - k) 0 (zq8 _) (fun k hk=>?_)
  (by
   refine St.aW [(100,some 12)] zt ?_ ?_ rfl
   ·exact yd
   ·exact⟨ay.same rfl rfl,ay.row rfl rfl zE (by rw[<-hn];exact mG fun m=>by rw[if_neg (zvj m)]),trivial⟩)
 by_cases h:k < n
 ·obtain⟨x,hx⟩:∃x,l[k]? =some x:=⟨_,zyh zE⟩
  have gx:l.getD k 0=x:=by rw[zx7,hx];rfl
  have lx:=hb x (zq4 hx);have cM:=qI hp x c lx hc;have hln:=dn n fun i=>if i < k then fM p (l.getD i 0) c else 0
  have hst:=lu (n:=n) (f:=fun i=>if i < k then fM p (l.getD i 0) c else 0) (g:=fun i=>if i < k+1 then fM p (l.getD i 0) c else 0) (k:=k) (x:=fM p x c) (fun i=>by
   by_cases hi:i=k
   ·subst hi;rw[if_pos rfl,if_pos zE,gx]
   ·rw[if_neg hi];by_cases hi2:i < k
    ·rw[if_pos hi2,if_pos zE]
    ·rw[if_neg hi2,if_neg zE])
  refine zg ?_;refine W.next (k+1) h zE (by
   refine St.aW [(100,some 100)] zt ?_ ?_ rfl
   ·exact yb
   ·exact⟨ay.same rfl rfl,ay.row rfl rfl rfl ((sK (by rw[hln];exact h)).trans (by rw[hst])),trivial⟩)
 ·obtain rfl:k=n:=zE
  have e9:(fZ k fun i=>if i < k then fM p (l.getD i 0) c else 0)=fZ k fun i=>fM p (l.getD i 0) c:=by
   unfold fZ;exact zvg fun i hi=>if_pos (List.mem_range.1 hi)
  rw[e9];refine WP.freeze 100 hB rfl ?_;refine zg ?_;exact uX rfl
theorem apt{p:Nat}(hp:PrP p){l:List Nat}(hl:l.length<=100000)(hb:∀x∈l,x < 18446744073709551616):ah prog 67 [.agg (gfA p),.r (aA 1 wdC l)] (.v (.int .u64 ((kY p l:Nat):Int))):=by
 have c1:=iH hp hl hb;have n1:=dA p l;unfold kY;generalize aH p l=a at*;refine ah.fq func67 results67 ntmps67 fun _ _ _ _ _=>?_
 by_cases h:a.length=0
 ·obtain rfl:a=[]:=zx5 h;refine zg ?_;exact fC rfl
 ·obtain⟨x,hx⟩:∃x,a[a.length - 1]? =some x:=⟨_,zyh zE⟩
  have gx:a.getD (a.length - 1) 0=x:=by rw[zx7,hx];rfl
  rw[gx];refine zg ?_;exact fC rfl
theorem aeI{p:Nat}(hp:PrP p){l:List Nat}(hl:l.length<=100000)(hb:∀x∈l,x < 18446744073709551616)(x:Nat)(hx:x < 18446744073709551616):ah prog 32 [.agg (gfA p),.r (aA 1 wdC l),.v (.int .u64 (x:Int))] (.v (.int .u64 ((fEv p l x l.length:Nat):Int))):=by
 have hpl:=hp.lt;refine ah.fq func32 results32 ntmps32 fun _ _ _ _ _=>?_
 refine zg ?_;refine W.loop (fun j=>j<=l.length) (fun j=>[(1,.r (aA 1 wdC l)),(2,.v (.int .u64 (x:Int))),(3,.ptr 3 0),(7,.v (.int .u64 ((fEv p l x (l.length - j):Nat):Int))),(8,.v (.int .i64 ((j:Int) - 1)))]) (fun _=>[(3,.box 65 (gfA p))]) (fun j=>j) l.length (zq6 _) (fun j hj=>?_)
  (by
   rw[Nat.sub_self];exact W.le)
 cases j with
 |zero=>
  rw[Nat.sub_zero];refine zg ?_;exact fC rfl
 |succ m=>
  rw[show ((m+1:Nat):Int) - 1=(m:Int)by omega]
  obtain⟨y,hy⟩:∃y,l[m]? =some y:=⟨_,zyh zE⟩
  have gy:l.getD m 0=y:=by rw[zx7,hy];rfl
  have ly:=hb y (zq4 hy);have lE:=ak9 hp l x (l.length - (m+1));have cM:=qI hp (fEv p l x (l.length - (m+1))) x zE hx
  have lM:=y7 hp (fEv p l x (l.length - (m+1))) x;have cA:=agu hp (fM p (fEv p l x (l.length - (m+1))) x) y zE ly
  have hE:fEv p l x (l.length - m)=fA p (fM p (fEv p l x (l.length - (m+1))) x) y:=by
   rw[show l.length - m=l.length - (m+1)+1 by omega]
   conv=>lhs;unfold fEv
   rw[show l.length - (l.length - (m+1)+1)=m by omega,gy]
  rw[<-hE]at cA;refine zg ?_;exact W.next m zE zE
end
section
abbrev euA(e:Eu):List Atom:=[.c (.sat (aA 1 wdC e.a)),.c (.sat (aA 1 wdC e.b)),.c (.sat (aA 1 wdC e.s)),.c (.sat (aA 1 wdC e.t))]
theorem Eu.Ok.w{p L:Nat}{e:Eu}(h:e.Ok p L)(hp:PrP p)(hL:L<=50):(e.a.length<=10000/\e.b.length<=10000/\e.s.length<=10000/\e.t.length<=10000)/\(∀x∈e.a,x < 18446744073709551616)/\(∀x∈e.b,x < 18446744073709551616)/\(∀x∈e.s,x < 18446744073709551616)/\(∀x∈e.t,x < 18446744073709551616):=by
 have hpl:=hp.lt;have h1:=zxd hL hL;have h2:=h.s.2;have h3:=h.t.2;have h4:=h.a.2;have h5:=h.b.2.2;refine⟨⟨zE,zE,zE,zE⟩,fun x hx=>?_,fun x hx=>?_,fun x hx=>?_,fun x hx=>?_⟩
 ·have:=h.a.1 x hx;omega
 ·have:=h.b.1 x hx;omega
 ·have:=h.s.1 x hx;omega
 ·have:=h.t.1 x hx;omega
attribute [local irreducible] IntKind.wrap Go1 Reg WP aO aR bM bK aN aD aj ak aX Sat
attribute [local irreducible] bO bX bV cK bW qv dH mf PrP qOk zOk vP dP lz vF cq rqv dX aS bU aV fB fA fS fM fI aH dAk dF dQ nK xS aaW rG abx kY
theorem akc{p:Nat}(hp:PrP p){L:Nat}(hL:L<=50){e:Eu}(h:e.Ok p L):ah prog 65 [.agg (euA e),.agg (gfA p)] (.agg (euA (e.step p))):=by
 have hpl:=hp.lt;obtain⟨⟨la,lb,ls,lt⟩,ba,bb,bs,bt⟩:=h.w hp hL;have hq:=agN hp e.a e.b;have hql:=yJ p e.a e.b;have hml:=zM p (nK p e.a e.b) e.t;have hm:=amf hp (nK p e.a e.b) e.t;have h1:=zxd hL hL;have h3:=h.t.2;have h4:=h.a.2;have cD:=qG hp la lb ba bb;have cM:=ahQ hp (l:=nK p e.a e.b) (l':=e.t) zE lt (fun x hx=>by have:=hq x hx;omega) bt
 have cS:=aiG hp (l:=e.s) (l':=rG p (nK p e.a e.b) e.t) ls zE bs (fun x hx=>by have:=hm x hx;omega)
 unfold Eu.step;obtain⟨a,b,s,t⟩:=e
 dsimp only at*
 refine ah.fq func65 results65 ntmps65 fun _ _ _ _ _=>?_
 refine zg ?_;exact nM aj.xu rfl
theorem aa5{p:Nat}(hp:PrP p){l l':List Nat}(hl:l.length<=50)(hl':l'.length<=50)(hb:∀x∈l,x < 18446744073709551616)(hb':∀x∈l',x < 18446744073709551616):
  ah prog 25 [.agg (gfA p),.r (aA 1 wdC l),.r (aA 1 wdC l')] (.tup [rwA (xgG p l l'),rwA (xgS p l l'),rwA (xgT p l l')]):=by
 have hpl:=hp.lt;have c1:=iH hp (l:=l) zE hb
 have c2:=iH hp (l:=l') zE hb'
 have hOk:=alc hp hl hl';have hE:=(Eu.akK hp (aH p l').length hOk (zq6 _)).1;have hE:(iw p l l').Ok p 50:=hE;have nA:=dA p l;have nB:=dA p l';have lA:=fD hp l;have lB:=fD hp l';obtain⟨⟨la,lb,ls,lt⟩,ba,bb,bs,bt⟩:=hE.w hp (zq6 _);have cL:=apt hp (l:=(iw p l l').a) zE ba
 have lL:=apH hp (iw p l l').a;have cI:=afw hp (kY p (iw p l l').a) zE
 have lI:=aw8 hp (kY p (iw p l l').a);have cS1:=ade hp la ba (fI p (kY p (iw p l l').a)) zE
 have cS2:=ade hp ls bs (fI p (kY p (iw p l l').a)) zE
 have eG:abx p (iw p l l').a (fI p (kY p (iw p l l').a))=xgG p l l':=rfl;have eS:abx p (iw p l l').s (fI p (kY p (iw p l l').a))=adq p l l':=rfl;have gl:=abV hp (iw p l l').a (fI p (kY p (iw p l l').a));have sl:=abV hp (iw p l l').s (fI p (kY p (iw p l l').a));have gn:=y9 p (iw p l l').a (fI p (kY p (iw p l l').a));have sn:=y9 p (iw p l l').s (fI p (kY p (iw p l l').a));have hEa:=hE.a.2;have hEs:=hE.s.2;rw[eG]at cS1 gl gn;rw[eS]at cS2 sl sn;refine ah.fq func25 results25 ntmps25 fun _ _ _ _ _=>?_
 refine zg ?_;refine W.pF (fun(k:Nat) (e:Eu)=>e.Ok p 50/\e.b.length<=k/\Eu.run p k e=iw p l l') (fun k e=>[(1,.r (aA 1 wdC (aH p l))),(2,.r (aA 1 wdC (aH p l'))),(3,.ptr 3 0),(9,.ptr 9 0)]) (fun k e=>[(3,.box 65 (gfA p)),(9,.box 122 (euA e))]) (fun k _=>k) (aH p l').length (euOf p l l') ⟨hOk,zq6 _,rfl⟩ (fun k e ⟨ho,hk,hr⟩=>?_)
  (by
   refine St.aW [] zt ?_ ?_ rfl
   ·exact ya
   ·exact⟨ay.same rfl rfl,ay.jZ rfl rfl ⟨aC.same rfl,aC.same rfl,aC.same rfl,aC.nilW,trivial⟩,trivial⟩)
 by_cases h0:e.b.length=0
 ·rw[Eu.asu p h0]at hr;subst hr;by_cases h1:(aH p l').length=0
  ·have e1:xgS p l l'=adq p l l':=by unfold xgS;rw[if_pos h1]
   have e2:xgT p l l'=[]:=by unfold xgT;rw[if_pos h1]
   rw[e1,e2];refine zg ?_;exact nT (aj.tmp rfl) (aj.tmp rfl) (aj.tmp rfl) (zv _) (zv _) aag
  ·have hq:=agN hp (aH p l') (xgG p l l');have hqn:=yJ p (aH p l') (xgG p l l');have cD1:=qG hp (l:=aH p l') (l':=xgG p l l') zE zE (fun x hx=>by have:=lB x hx;omega) (fun x hx=>by have:=gl x hx;omega)
   have cD2:=qG hp (l:=adq p l l') (l':=nK p (aH p l') (xgG p l l')) zE zE (fun x hx=>by have:=sl x hx;omega) (fun x hx=>by have:=hq x hx;omega)
   have e1:xS p (adq p l l') (nK p (aH p l') (xgG p l l'))=xgS p l l':=by unfold xgS;rw[if_neg h1]
   have hs:=afQ hp (adq p l l') (nK p (aH p l') (xgG p l l'));have hsn:=aeJ p (adq p l l') (nK p (aH p l') (xgG p l l'));rw[e1]at cD2 hs hsn;have cM:=ahQ hp (l:=xgS p l l') (l':=aH p l) zE zE (fun x hx=>by have:=hs x hx;omega) (fun x hx=>by have:=lA x hx;omega)
   have hm:=amf hp (xgS p l l') (aH p l);have hmn:=zM p (xgS p l l') (aH p l);have cSb:=aiG hp (l:=xgG p l l') (l':=rG p (xgS p l l') (aH p l)) zE zE (fun x hx=>by have:=gl x hx;omega) (fun x hx=>by have:=hm x hx;omega)
   have hd:=aiT hp (fS p) (xgG p l l') (rG p (xgS p l l') (aH p l));have hdn:=aaE p (fS p) (xgG p l l') (rG p (xgS p l l') (aH p l));have cD3:=qG hp (l:=atB p (xgG p l l') (rG p (xgS p l l') (aH p l))) (l':=aH p l') (by show (aaW p (fS p) _ _).length<=_;omega) zE (fun x hx=>by have:=hd x hx;omega) (fun x hx=>by have:=lB x hx;omega)
   have e2:nK p (atB p (xgG p l l') (rG p (xgS p l l') (aH p l))) (aH p l')=xgT p l l':=by unfold xgT;rw[if_neg h1]
   rw[e2]at cD3;refine zg ?_;exact nT (aj.tmp rfl) (aj.tmp rfl) (aj.tmp rfl) (zv _) (zv _) (zv _)
 ·obtain⟨m,rfl⟩:∃m,k=m+1:=⟨k - 1,zE⟩
  have hb1:=Eu.aju hp ho h0;have cE:=akc hp (zq6 50) ho;have hr2:Eu.run p m (e.step p)=iw p l l':=by rw[<-hr];conv=>rhs;unfold Eu.run;rw[if_neg h0]
  have ho2:=Eu.step_ok hp ho h0;clear hr cL cI cS1 cS2;refine zg ?_;exact W.nR m (e.step p) ⟨ho2,zE,hr2⟩ zE
end
end Go.Proofs.YtjnhnbgpifohjaaGreatDoor
set_option linter.unusedSectionVars false
namespace Go.Proofs.YtjnhnbgpifohjaaGreatDoor
open Go.RowKit QM SX LA
def zEv(zs:List Int)(x:Int):Nat->Int
 |0=>0
 |k+1=>zEv zs x k*x+zs.getD (zs.length - (k+1)) 0
theorem agi{zs:List Int}{x:Int}{K L:Nat}(h:∀z∈zs,z.natAbs < WB ^ K)(hx:x.natAbs < WB ^ L):∀k,(zEv zs x k).natAbs < WB ^ (K+k*(L+1))
 |0=>by show (0:Int).natAbs < _;exact Nat.pow_pos aZ
 |k+1=>by
  have h1:=ag0 (agi h hx k) hx;have h2:=abe (qE h (zs.length - (k+1))) (show K<=K+k*(L+1)+L by omega)
  have h3:=aga (K+k*(L+1)+L);rw[show K+(k+1)*(L+1)=K+k*(L+1)+L+1 by rw[zy5,Nat.one_mul];omega]
  show (zEv zs x k*x+zs.getD (zs.length - (k+1)) 0).natAbs < _;have:=Int.natAbs_add_le (zEv zs x k*x) (zs.getD (zs.length - (k+1)) 0);omega
def zDs(zs:List Int)(n:Nat):List Int:=(List.range n).map fun i=>zs.getD (i+1) 0*((i+1:Nat):Int)
theorem zEv_0(zs:List Int)(x:Int):zEv zs x 0=0:=rfl
theorem zDs_0(zs:List Int):zDs zs 0=[]:=rfl
theorem asc(zs:List Int)(n:Nat):zDs zs (n+1)=zDs zs n++[zs.getD (n+1) 0*((n+1:Nat):Int)]:=by
 unfold zDs;rw[List.range_succ,List.map_append];rfl
theorem agD(zs:List Int)(n:Nat):(zDs zs n).length=n:=by unfold zDs;rw[zq5,zy1]
def pE(zs:List Int):List Int:=aS (zDs zs (zs.length - 1))
def fDs(p:Nat)(l:List Nat)(n:Nat):List Nat:=(List.range n).map fun i=>fM p (l.getD (i+1) 0) (i+1)
theorem fDs_0(p:Nat)(l:List Nat):fDs p l 0=[]:=rfl
theorem as9(p:Nat)(l:List Nat)(n:Nat):fDs p l (n+1)=fDs p l n++[fM p (l.getD (n+1) 0) (n+1)]:=by
 unfold fDs;rw[List.range_succ,List.map_append];rfl
theorem amA(p:Nat)(l:List Nat)(n:Nat):(fDs p l n).length=n:=by unfold fDs;rw[zq5,zy1]
theorem axE{p:Nat}(hp:PrP p)(l:List Nat)(n:Nat):∀z∈fDs p l n,z < p:=fun z hz=>by
 unfold fDs at hz;obtain⟨i,_,rfl⟩:=zqg.1 hz;exact y7 hp _ _
theorem atJ{zs:List Int}{K:Nat}(h:∀z∈zs,z.natAbs < WB ^ K)(n:Nat)(hn:n<=100000):∀z∈zDs zs n,z.natAbs < WB ^ (K+1):=fun z hz=>by
 unfold zDs at hz;obtain⟨i,hi,rfl⟩:=zqg.1 hz;have:=List.mem_range.1 hi;exact ag0 (qE h _) (by rw[zxa,zxh,bJ];omega)
attribute [local irreducible] IntKind.wrap Go1 Reg WP aO aR bM bK aN aD aj ak aX Sat
attribute [local irreducible] bO bX bV cK bW qv dH mf PrP qOk zOk vP dP lz vF cq rqv dX aS bU aV fB cvR cvP akE gX eX nH psQ psA pPR pPQ jS zEv zDs fDs aH fM fA
theorem af5{l:List Z2}{zs:List Int}{x:Int}{K L:Nat}(hMl:MZ l zs K)(hz:∀z∈zs,z.natAbs < WB ^ K)(hx:x.natAbs < WB ^ L)(hl:zs.length<=10000)(hK:K+zs.length*(L+1)+K+L<=100000):ah prog 31 [.r (aA 2 z2C l),.agg (zN x)] (.agg (zN (zEv zs x zs.length))):=by
 have m1:l.length=zs.length:=hMl.len;refine ah.fq func31 results31 ntmps31 fun _ _ _ _ _=>?_
 refine zg ?_;refine W.loop (fun j=>j<=zs.length) (fun j=>[(0,.r (aA 2 z2C l)),(3,.ptr 3 0),(4,.ptr 4 0),(5,.ptr 5 0),(6,.v (.int .i64 ((j:Int) - 1)))]) (fun j=>[(3,.box 31 (zN x)),(4,.box 31 [.c (.val (.bool false)),.c (.val (.slice none 0 0))]),(5,.box 31 (zN (zEv zs x (zs.length - j))))]) (fun j=>j) zs.length (zq6 _) (fun j hj=>?_)
  (by
   rw[Nat.sub_self,zEv_0];refine St.aW [] zt ?_ ?_ rfl
   ·repeat(first|exact trivial|refine⟨⟨_,rfl,aF.same rfl⟩,?_⟩|refine⟨⟨_,rfl,aF.int (by rw[m1])⟩,?_⟩)
   ·exact⟨ay.same rfl rfl,ay.same rfl rfl,ay.jZ rfl rfl ⟨aC.same rfl,aC.awq,trivial⟩,trivial⟩)
 cases j with
 |zero=>
  rw[Nat.sub_zero];refine zg ?_;exact nM aj.gV rfl
 |succ m=>
  rw[show ((m+1:Nat):Int) - 1=(m:Int)by omega]
  obtain⟨z,hz1⟩:∃z,zs[m]? =some z:=⟨_,zyh zE⟩
  have gz:zs.getD m 0=z:=by rw[zx7,hz1];rfl
  obtain⟨q,hz2⟩:∃q,l[m]? =some q:=⟨_,zyh zE⟩
  have be:=agi hz hx (zs.length - (m+1));have hmm:=zx1 (L+1) (show zs.length - (m+1)<=zs.length by omega)
  have qe:ZQ (z2v (zEv zs x (zs.length - (m+1)))) (zEv zs x (zs.length - (m+1))) (K+(zs.length - (m+1))*(L+1)):=ZQ.made be;have qx:ZQ (z2v x) x L:=ZQ.made hx;have qz:ZQ q z K:=hMl.z m q z hz2 hz1;have cM:=(ad4 (h:=qe.zi) (h':=qx.zi)).h zE
  have qm:ZQ (z2v (zEv zs x (zs.length - (m+1))*x)) (zEv zs x (zs.length - (m+1))*x) (K+(zs.length - (m+1))*(L+1)+L):=ZQ.made (ag0 be hx);have cA:=(aiW (h:=qm.zi) (h':=qz.zi)).h zE
  have hE:zEv zs x (zs.length - (m+1))*x+z=zEv zs x (zs.length - m):=by
   rw[show zs.length - m=zs.length - (m+1)+1 by omega]
   conv=>rhs;unfold zEv
   rw[show zs.length - (zs.length - (m+1)+1)=m by omega,gz]
  rw[hE]at cA;refine zg ?_;exact W.next m zE zE
theorem abl{l:List Z2}{zs:List Int}{K:Nat}(hMl:MZ l zs K)(hz:∀z∈zs,z.natAbs < WB ^ K)(hl:zs.length<=10000)(hK:K<=100000):ah prog 29 [.r (aA 2 z2C l)] (.r (aA 2 z2C ((pE zs).map z2v))):=by
 have m1:l.length=zs.length:=hMl.len;have cN:=jr (MZ.made (atJ hz (zs.length - 1) zE)) zE (by rw[zq5,agD];omega)
 have hdl:=agD zs (zs.length - 1);unfold pE;refine ah.fq func29 results29 ntmps29 fun _ _ _ _ hB=>?_
 refine zg ?_;refine W.loop (fun k=>k<=zs.length - 1) (fun k=>[(0,.r (aA 2 z2C l)),(3,.own 100),(4,.v (.int .i64 ((k:Int)+1)))]) (fun k=>[(100,.row 31 2 k (((zDs zs k).map z2v).flatMap z2C))]) (fun k=>zs.length - k) 0 (zq8 _) (fun k hk=>?_)
  (by
   refine St.aW [(100,none)] zt ?_ ?_ rfl
   ·exact ye
   ·rw[zDs_0];exact⟨ay.dO rfl,trivial⟩)
 by_cases h:k+1 < zs.length
 ·obtain⟨z,hz1⟩:∃z,zs[k+1]? =some z:=⟨_,zyh h⟩
  have gz:zs.getD (k+1) 0=z:=by rw[zx7,hz1];rfl
  obtain⟨q,hz2⟩:∃q,l[k+1]? =some q:=⟨_,zyh zE⟩
  have qz:ZQ q z K:=hMl.z (k+1) q z hz2 hz1;have qk:ZQ (z2v ((k+1:Nat):Int)) ((k+1:Nat):Int) 1:=ZQ.made (by rw[zxa,zxh,bJ];omega)
  have cO:ah prog 18 [.v (.int .i64 ((k:Int)+1))] (.agg (zN ((k+1:Nat):Int))):=by
   rw[show ((k:Int)+1)=((k+1:Nat):Int)by omega];exact kC.h ⟨zE,zE⟩
  have cM:=(ad4 (h:=qz.zi) (h':=qk.zi)).h zE
  have e2:((zDs zs k).map z2v).flatMap z2C++z2C (z2v (z*((k+1:Nat):Int)))=((zDs zs (k+1)).map z2v).flatMap z2C:=by rw[asc,gz];simp
  refine zg ?_;refine W.next (k+1) zE zE (by
   refine St.aW [(100,some 20)] zt ?_ ?_ rfl
   ·exact yd
   ·exact⟨ay.row rfl rfl rfl e2,trivial⟩)
 ·obtain rfl:k=zs.length - 1:=zE
  refine WP.freeze 100 hB rfl ?_;have e8:((zDs zs (zs.length - 1)).map z2v).length=zs.length - 1:=by rw[zq5,hdl]
  rw[wF e8]at cN;refine zg ?_;exact uX rfl
theorem abr{p:Nat}(hp:PrP p){l:List Nat}(hl:l.length<=10000)(hb:∀x∈l,x < 18446744073709551616):ah prog 30 [.agg (gfA p),.r (aA 1 wdC l)] (.r (aA 1 wdC (aH p (fDs p l (l.length - 1))))):=by
 have hpl:=hp.lt;have hdl:=amA p l (l.length - 1);have hdb:=axE hp l (l.length - 1);have cN:=iH hp (l:=fDs p l (l.length - 1)) zE (fun x hx=>by have:=hdb x hx;omega)
 rw[yh hdl]at cN;refine ah.fq func30 results30 ntmps30 fun _ _ _ _ hB=>?_
 refine zg ?_;refine W.loop (fun k=>k<=l.length - 1) (fun k=>[(1,.r (aA 1 wdC l)),(2,.ptr 2 0),(5,.own 100),(6,.v (.int .i64 ((k:Int)+1)))]) (fun k=>[(2,.box 65 (gfA p)),(100,.row 36 1 k ((fDs p l k).flatMap wdC))]) (fun k=>l.length - k) 0 (zq8 _) (fun k hk=>?_)
  (by
   refine St.aW [(100,none)] zt ?_ ?_ rfl
   ·exact ye
   ·rw[fDs_0];exact⟨ay.same rfl rfl,ay.dO rfl,trivial⟩)
 by_cases h:k+1 < l.length
 ·obtain⟨x,hx⟩:∃x,l[k+1]? =some x:=⟨_,zyh h⟩
  have gx:l.getD (k+1) 0=x:=by rw[zx7,hx];rfl
  have hc:IntKind.u64.wrap ((k:Int)+1)=((k+1:Nat):Int):=by rw[show ((k:Int)+1)=((k+1:Nat):Int)by omega];exact wrapN zE
  have cM:=qI hp x (k+1) (hb x (zq4 hx)) zE
  have e2:(fDs p l k).flatMap wdC++wdC (fM p x (k+1))=(fDs p l (k+1)).flatMap wdC:=by rw[as9,gx];simp
  refine zg ?_;refine W.next (k+1) zE zE (by
   refine St.aW [(100,some 23)] zt ?_ ?_ rfl
   ·exact yd
   ·exact⟨ay.same rfl rfl,ay.row rfl rfl rfl e2,trivial⟩)
 ·obtain rfl:k=l.length - 1:=zE
  refine WP.freeze 100 hB rfl ?_;refine zg ?_;exact uX rfl
end Go.Proofs.YtjnhnbgpifohjaaGreatDoor
set_option linter.unusedSectionVars false
namespace Go.Proofs.YtjnhnbgpifohjaaGreatDoor
open Go.RowKit QM SX LA
def cF(p:Nat)(q:List Nat)(n k m:Nat):Nat:=if m / n < k then(if m % n+1=n then fA p 0 (fS p 0 (q.getD (m / n) 0))else if m % n+1=m / n then 1 else 0)else 0
def cG(p:Nat)(q:List Nat)(n k m:Nat):Nat:=if 0 < k/\m=k*n+k - 1 then 1 else cF p q n k m
theorem dv{n k c:Nat}(h:c < n):(k*n+c) / n=k:=by
 rw[zxj,Nat.mul_add_div zE,Nat.div_eq_of_lt h,zvi]
theorem avJ{p:Nat}{q:List Nat}{n k:Nat}(hk:k < n)(m:Nat):(if m=k*n+n - 1 then fA p 0 (fS p 0 (q.getD k 0))else cG p q n k m)=cF p q n (k+1) m:=by
 have hn:0 < n:=zE
 have hm:=Nat.div_add_mod m n;have hml:=zyi m hn;by_cases h1:m / n=k
 ·rw[h1,zxj]at hm;unfold cF;rw[h1,if_pos (show k < k+1 by omega)]
  by_cases h2:m % n+1=n
  ·rw[if_pos h2,if_pos zE]
  ·rw[if_neg h2,if_neg zE]
   unfold cG;by_cases h3:m % n+1=k
   ·rw[if_pos h3,if_pos ⟨zE,zE⟩]
   ·rw[if_neg h3,if_neg zE]
    unfold cF;rw[h1,if_neg (Nat.lt_irrefl k)]
 ·have h2:m≠k*n+n - 1:=fun e=>h1 (by rw[e,show k*n+n - 1=k*n+(n - 1)by omega];exact dv zE)
  rw[if_neg h2];have h3:¬(0 < k/\m=k*n+k - 1):=fun e=>h1 (by rw[e.2,show k*n+k - 1=k*n+(k - 1)by omega];exact dv zE)
  unfold cG;rw[if_neg h3];unfold cF;by_cases h4:m / n < k
  ·rw[if_pos h4,if_pos (show m / n < k+1 by omega)]
  ·rw[if_neg h4,if_neg (show¬m / n < k+1 by omega)]
theorem ava{p:Nat}{q:List Nat}{n k:Nat}(hk:k < n):cG p q n k (k*n+n - 1)=0:=by
 unfold cG;have h:¬(0 < k/\k*n+n - 1=k*n+k - 1):=zE
 rw[if_neg h];unfold cF;rw[show k*n+n - 1=k*n+(n - 1)by omega,dv zE,if_neg (Nat.lt_irrefl k)]
theorem avI(p:Nat)(q:List Nat)(n m:Nat):cF p q n 0 m=0:=by unfold cF;rw[if_neg (zvj _)]
theorem cF_lt{p:Nat}(hp:PrP p)(q:List Nat)(n k m:Nat):cF p q n k m < p:=by
 have hpl:=hp.lt;unfold cF
 split
 ·split
  ·exact al1 hp _ _
  ·split <;> omega
 ·omega
def qR(p:Nat)(l:List Nat):List Nat:=fZ (((aH p l).length - 1)*((aH p l).length - 1)) (cF p (aH p l) ((aH p l).length - 1) ((aH p l).length - 1))
abbrev zG(p:Nat)(l:List Nat):Prop:=(aH p l).length=0\/(aH p l).getD ((aH p l).length - 1) 0≠1
theorem ax1{p:Nat}{q:List Nat}{n k:Nat}(h:0 < k)(m:Nat):(if m=k*n+k - 1 then 1 else cF p q n k m)=cG p q n k m:=by
 unfold cG;by_cases h1:m=k*n+k - 1
 ·rw[if_pos h1,if_pos ⟨h,h1⟩]
 ·rw[if_neg h1,if_neg (fun e=>h1 e.2)]
theorem cG_0(p:Nat)(q:List Nat)(n:Nat):cG p q n 0=cF p q n 0:=by
 funext m;unfold cG;rw[if_neg zE]
attribute [local irreducible] IntKind.wrap Go1 Reg WP aO aR bM bK aN aD aj ak aX Sat
attribute [local irreducible] bO bX bV cK bW qv dH mf PrP qOk zOk vP dP lz vF cq rqv dX aS bU aV fB aH fM fA fS cF cG
theorem an5{p:Nat}(hp:PrP p)(x:Nat)(hx:x < 18446744073709551616):ah prog 77 [.agg (gfA p),.v (.int .u64 (x:Int))] (.v (.int .u64 ((fS p 0 x:Nat):Int))):=by
 have c:ah prog 117 [.agg (gfA p),.v (.int .u64 0),.v (.int .u64 (x:Int))] (.v (.int .u64 ((fS p 0 x:Nat):Int))):=af8 hp 0 x zc hx
 refine ah.fq func77 results77 ntmps77 fun _ _ _ _ _=>?_
 refine zg ?_;exact fC rfl
theorem adh{p:Nat}(hp:PrP p){l:List Nat}(hl:l.length<=60)(hb:∀x∈l,x < 18446744073709551616)(h:zG p l):ah prog 27 [.agg (gfA p),.r (aA 1 wdC l)] (.tup [.agg aa1,eNo 3]):=by
 have c1:=iH hp (l:=l) zE hb
 have n1:=dA p l;unfold zG at h;generalize aH p l=q at*;refine ah.fq func27 results27 ntmps27 fun _ _ _ _ _=>?_
 by_cases h0:q.length=0
 ·refine zg ?_;exact .ok (aD.mk2 aj.bG (aj.tmp rfl))
 ·have h1:=h.resolve_left h0;obtain⟨x,hx⟩:∃x,q[q.length - 1]? =some x:=⟨_,zyh zE⟩
  have gx:q.getD (q.length - 1) 0=x:=by rw[zx7,hx];rfl
  rw[gx]at h1;have h2:¬((x:Nat):Int)=1:=zE
  refine zg ?_;exact .ok (aD.mk2 aj.bG (aj.tmp rfl))
theorem ae0{p:Nat}(hp:PrP p){l:List Nat}(hl:l.length<=60)(hb:∀x∈l,x < 18446744073709551616)(h:¬zG p l):ah prog 27 [.agg (gfA p),.r (aA 1 wdC l)] (.tup [.agg (fmA ((aH p l).length - 1) ((aH p l).length - 1) (qR p l)),eNo 0]):=by
 have hpl:=hp.lt;have c1:=iH hp (l:=l) zE hb
 have n1:=dA p l;have hA:=fD hp l;unfold qR;unfold zG at h;generalize aH p l=q at*;have h0:q.length≠0:=fun e=>h (.inl e)
 have h1:q.getD (q.length - 1) 0=1:=Classical.not_not.1 fun e=>h (.inr e)
 clear h;obtain⟨n,hn⟩:∃n,n=q.length - 1:=⟨_,rfl⟩;have hx:q[q.length - 1]? =some 1:=by
  obtain⟨x,hx⟩:∃x,q[q.length - 1]? =some x:=⟨_,zyh zE⟩
  rw[zx7,hx]at h1
  rw[hx,show x=1 from h1]
 rw[<-hn];have hnn:n*n<=60*60:=zxd zE zE
 have hw:IntKind.i64.wrap (((q.length - 1:Nat):Int)*((q.length - 1:Nat):Int))=((n*n:Nat):Int):=by rw[<-hn,<-Int.natCast_mul];exact jL zE zE
 unfold fmA;rw[yh (dn (n*n) (cF p q n n))];refine ah.fq func27 results27 ntmps27 fun _ _ _ _ hB=>?_
 refine zg ?_;refine W.loop (fun k=>k<=n) (fun k=>[(1,.r (aA 1 wdC q)),(2,.ptr 2 0),(4,.ptr 4 0),(6,.v (.int .i64 (n:Int))),(7,.ptr 7 0),(37,.v (.int .i64 (n:Int))),(38,.v (.int .i64 (k:Int)))]) (fun k=>[(2,.box 65 (gfA p)),(4,.box 38 aa1),(7,.box 38 [.c (.val (.int .i64 (n:Int))),.c (.val (.int .i64 (n:Int))),.own 100]),(100,.row 36 1 (n*n) ((fZ (n*n) (cF p q n k)).flatMap wdC))]) (fun k=>n - k) 0 (zq8 _) (fun k hk=>?_)
  (by
   rw[hn];refine St.aW [(100,some 35)] zt ?_ ?_ rfl
   ·exact yi
   ·rw[<-hn];exact⟨ay.same rfl rfl,ay.same rfl rfl,ay.jZ rfl rfl ⟨aC.int (by rw[hn]),aC.int (by rw[hn]),aC.own rfl,trivial⟩,ay.row rfl rfl rfl (mG fun m=>avI p q n m),trivial⟩)
 by_cases h:k < n
 ·have hkn:=zx1 n (show k+1<=n from h)
  rw[zy5,Nat.one_mul]at hkn;have hw1:IntKind.i64.wrap ((k:Int)*(n:Int))=((k*n:Nat):Int):=by rw[<-Int.natCast_mul];exact jL zE zE
  refine zg ?_;refine W.awo [(1,.r (aA 1 wdC q)),(2,.ptr 2 0),(4,.ptr 4 0),(6,.v (.int .i64 (n:Int))),(7,.ptr 7 0),(8,.v (.int .i64 (k:Int))),(37,.v (.int .i64 (n:Int))),(38,.v (.int .i64 (k:Int)))] [(2,.box 65 (gfA p)),(4,.box 38 aa1),(7,.box 38 [.c (.val (.int .i64 (n:Int))),.c (.val (.int .i64 (n:Int))),.own 100]),(100,.row 36 1 (n*n) ((fZ (n*n) (cG p q n k)).flatMap wdC))] ?_ ?_
  ·by_cases h2:0 < k
   ·have hst1:=lu (n:=n*n) (f:=cF p q n k) (g:=cG p q n k) (k:=k*n+k - 1) (x:=1) (fun m=>ax1 h2 m)
    have hln1:=dn (n*n) (cF p q n k);refine zg ?_;refine St.aW [(100,some 100)] zt ?_ ?_ rfl
    ·exact ya
    ·exact⟨ay.same rfl rfl,ay.same rfl rfl,ay.jZ rfl rfl ⟨aC.same rfl,aC.same rfl,aC.own rfl,trivial⟩,ay.row rfl rfl rfl ((sK (l:=fZ (n*n) (cF p q n k)) (i:=k*n+k - 1) (x:=1) (by rw[hln1];omega)).trans (by rw[hst1])),trivial⟩
   ·obtain rfl:k=0:=zE
    rw[cG_0];refine zg ?_;exact W.le
  ·obtain⟨x,hx2⟩:∃x,q[k]? =some x:=⟨_,zyh zE⟩
   have gx:q.getD k 0=x:=by rw[zx7,hx2];rfl
   have lx:=hA x (zq4 hx2);have hat:(fZ (n*n) (cG p q n k))[k*n+n - 1]? =some 0:=by rw[jo zE,ava h]
   have cNg:=an5 hp x zE
   have lN:=aqi hp 0 x;have cAd:=agu hp 0 (fS p 0 x) zc zE
   have hst2:=lu (n:=n*n) (f:=cG p q n k) (g:=cF p q n (k+1)) (k:=k*n+n - 1) (x:=fA p 0 (fS p 0 x)) (fun m=>by
    have:=avJ (p:=p) (q:=q) h m;rw[gx]at this;exact this)
   have hln2:=dn (n*n) (cG p q n k);refine zg ?_;refine W.next (k+1) h zE (by
    refine St.aW [(100,some 100)] zt ?_ ?_ rfl
    ·exact yi
    ·exact⟨ay.same rfl rfl,ay.same rfl rfl,ay.jZ rfl rfl ⟨aC.same rfl,aC.same rfl,aC.own rfl,trivial⟩,ay.row rfl rfl rfl ((sK (by rw[hln2];omega)).trans (by rw[hst2])),trivial⟩)
 ·obtain rfl:k=n:=zE
  refine WP.freeze 100 hB rfl ?_;refine zg ?_;exact .ok (aD.mk2 aj.bG (aj.tmp rfl))
end Go.Proofs.YtjnhnbgpifohjaaGreatDoor
set_option linter.unusedSectionVars false
namespace Go.Proofs.YtjnhnbgpifohjaaGreatDoor
open Go.RowKit QM SX LA
abbrev aeu:List UInt8:=[100,101,103]
abbrev aeo:List UInt8:=[100,101,114,105,118,101]
abbrev abC:List UInt8:=[101,118,97,108]
abbrev aao:List UInt8:=[103,99,100]
abbrev ahp:List UInt8:=[120,103,99,100]
abbrev afU:List UInt8:=[108,105,102,116]
abbrev isP(t:List UInt8):Prop:=t=aeu\/t=aeo\/t=abC\/t=aao\/t=ahp\/t=afU
attribute [local irreducible] IntKind.wrap Go1 Reg WP aO aR bM bK aN aD aj ak aX Sat
attribute [local irreducible] bO bX bV cK bW qv dH mf PrP qOk zOk vP dP lz vF cq rqv dX aS bU aV fB jn sq aY qS zS tS tbS plS mdS zmd qN pE zEv aH fDs fEv xgG xgS xgT
section
variable{t:List UInt8}{vs:List Vl}(ht:isP t)
include ht
theorem apn:ah prog 80 [.agg (bB t vs)] (.agg nP):=by
 rcases ht with rfl|rfl|rfl|rfl|rfl|rfl <;> (
  refine ah.fq func80 results80 ntmps80 fun _ _ _ _ _=>?_
  refine zg ?_;exact lJ aj.dJ
 )
theorem aod:ah prog 81 [.agg (bB t vs)] (.agg nP):=by
 rcases ht with rfl|rfl|rfl|rfl|rfl|rfl <;> (
  refine ah.fq func81 results81 ntmps81 fun _ _ _ _ _=>?_
  refine zg ?_;exact lJ aj.dJ
 )
theorem aiY:ah prog 82 [.agg (bB t vs)] (.agg nP):=by
 rcases ht with rfl|rfl|rfl|rfl|rfl|rfl <;> (
  refine ah.fq func82 results82 ntmps82 fun _ _ _ _ _=>?_
  refine zg ?_;exact lJ aj.dJ
 )
theorem aev:ah prog 83 [.agg (bB t vs)] (.agg nP):=by
 rcases ht with rfl|rfl|rfl|rfl|rfl|rfl <;> (
  refine ah.fq func83 results83 ntmps83 fun _ _ _ _ _=>?_
  refine zg ?_;exact lJ aj.dJ
 )
end
theorem oN{p:Nat}(hp:PrP p)(l:List Nat):ah prog 153 [.agg (vlA (aT p l))] (.agg (gfA p)):=by
 have c:=wo hp;refine ah.fq func153 results153 ntmps153 fun _ _ _ _ _=>?_
 refine zg ?_;exact nM aj.apK rfl
theorem ac5{n:Int}(h:n.natAbs<=1000000000):ah prog 131 [.v (.int .i64 n)] (.agg (vlA (vI n))):=by
 have cO:ah prog 18 [.v (.int .i64 n)] (.agg (zN n)):=kC.h ⟨zE,zE⟩
 have hb:n.natAbs < WB ^ 1:=by rw[zxh,bJ];omega
 have cW:ah prog 17 [.agg (zN n)] (.agg (vlA (vI n))):=iJ (q:=z2v n) (ZQ.made hb) (zq6 1) zc
 refine ah.fq func131 results131 ntmps131 fun _ _ _ _ _=>?_
 refine zg ?_;refine oJ aj.ig ?_;exact zv _
theorem ais{z:Int}{K:Nat}(hz:z.natAbs < WB ^ K)(h1:1<=K)(hK:K<=100000):ah prog 145 [.agg (zN z),.v (.int .i64 0)] (.agg (gW (vI z) 0 true)):=by
 have cW:ah prog 17 [.agg (zN z)] (.agg (vlA (vI z))):=iJ (q:=z2v z) (ZQ.made hz) h1 hK;have cd:=yY (vI z);refine ah.fq func145 results145 ntmps145 fun _ _ _ _ _=>?_
 refine zg ?_;refine gu aj.dJ ?_;exact zv _
theorem ak3{l:List Z2}{zs:List Int}{K:Nat}(hM:MZ l zs K)(hn:pN zs)(hK:K<=100000)(hl:zs.length<=100000):ah prog 166 [.r (aA 2 z2C l)] (.v (.int .i64 ((zs.length:Int) - 1))):=by
 have c:=abY hM zE (by rw[hM.len];omega) hn
 have m1:(zs.map z2v).length=zs.length:=zq5 _;refine ah.fq func166 results166 ntmps166 fun _ _ _ _ _=>?_
 refine zg ?_;refine fC ?_;rw[m1]
