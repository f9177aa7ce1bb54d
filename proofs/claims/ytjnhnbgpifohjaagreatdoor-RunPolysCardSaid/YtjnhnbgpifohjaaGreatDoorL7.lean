import Derived.Test.YtjnhnbgpifohjaaGreatDoorL23
import Derived.Test.YtjnhnbgpifohjaaGreatDoorL1
import Derived.Test.YtjnhnbgpifohjaaGreatDoorL27
import Derived.Test.YtjnhnbgpifohjaaGreatDoorL2
import Derived.Test.YtjnhnbgpifohjaaGreatDoorL28
set_option linter.unusedVariables false
set_option linter.unusedSimpArgs false
open Go.Proofs.Tryz
namespace Go.Proofs.YtjnhnbgpifohjaaGreatDoor
open Go.RowKit QM SX
section
def eT(l:List Nat):Rep where
 has S w v:=Sm WB l/\(aQ 1 l.length (l.map fun x:Nat=> .val (.int .u64 (x:Int)))).has S w v
 one h:=(aQ _ _ _).one h.2
 step h ho hs:=⟨h.1,(aQ _ _ _).step h.2 ho hs⟩
theorem eT.rn{l:List Nat}{S:Nat->Prop}{w:World}{v:Value}(h:(eT l).has S w v):RN w v l:=by
 obtain⟨hs,h⟩:=h;obtain⟨oa,cap,h1,h2,h3,h4,h5,h6⟩:=dh.1 h;refine⟨oa,cap,h1,h2,h3,h4,hs,fun i hi=>?_⟩
 obtain⟨b,o,u,e1,e2,e3,e4⟩:=h6 i (.val (.int .u64 ((gd l i:Nat):Int))) (by simp[gd,zx7,hi])
 exact⟨b,o,e1,by rw[e3,show u=_ from e4]⟩
def bN(n:Nat):Rep where
 has S w v:=∃l,Nrm l/\nval WB l=n/\(l=[]->v= .slice none 0 0)/\(eT l).has S w v
 one h:=by obtain⟨l,_,_,_,h⟩:=h;exact(eT l).one h
 step h ho hs:=by obtain⟨l,h1,h2,h3,h⟩:=h;exact⟨l,h1,h2,h3,(eT l).step h ho hs⟩
theorem bN.afk{n base:Nat}{S:Nat->Prop}{w:World}{v:Value}(h:ON base w v n)(hS:∀k,S k->k < base):(bN n).has S w v:=by
 obtain⟨l,h1,h2,h3,h4,h5⟩:=h;refine⟨l,h3,h4,h5,h2,?_⟩;rcases h1.2 with⟨rfl,h0⟩|⟨g,cap,cur,rfl,hb,hg,hn,hm,hcs,htk⟩
 ·have hl:l=[]:=zx5 h0;subst hl;exact dh.2 ⟨none,0,rfl,zq6 _,by simp[maxLen],fun _=>rfl,by simp,fun i c hc=>by simp at hc⟩
 ·refine dh.2 ⟨some ⟨g,0,none⟩,cap,rfl,hn,hm,fun e=>(by cases e),by simp,fun i c hc=>?_⟩
  have hi:i < l.length:=by have:=(zxg.1 hc).1;simpa using this
  refine⟨g,0,.int .u64 ((gd l i:Nat):Int),rfl,fun h=>by have:=hS g h;omega,?_,?_⟩
  ·rw[zv7,h1.cellAt i zE]
   simp[wv,zqa,zyh hi,gd,zx7]
  ·simp[zqa,zyh hi]at hc
   subst hc;simp[CA.has,gd,zx7,hi]
theorem bN.zero{S:Nat->Prop}{w:World}:(bN 0).has S w (.slice none 0 0):=
 ⟨[],Nrm.nil,rfl,fun _=>rfl,Sm.nil,dh.2 ⟨none,0,rfl,zq6 _,by simp[maxLen],fun _=>rfl,by simp,fun i c hc=>by simp at hc⟩⟩
def aen(B:Nat):Nat->Nat->List Nat
 |0,_=>[]
 |_+1,0=>[]
 |f+1,n+1=>((n+1) % B)::aen B f ((n+1) / B)
theorem vN{B:Nat}(hB:1 < B):∀(f n:Nat),n<=f->Sm B (aen B f n)/\nval B (aen B f n)=n/\Nrm (aen B f n)
 |0,n,h=>by
  have:n=0:=zE
  subst this;exact⟨Sm.nil,rfl,Nrm.nil⟩
 |f+1,0,_=>⟨Sm.nil,rfl,Nrm.nil⟩
 |f+1,n+1,h=>by
  have hlt:(n+1) / B < n+1:=Nat.div_lt_self zE hB
  obtain⟨h1,h2,h3⟩:=vN hB f ((n+1) / B) zE
  have hv:nval B (aen B (f+1) (n+1))=n+1:=by
   show (n+1) % B+B*nval B (aen B f ((n+1) / B))=n+1;rw[h2];exact Nat.mod_add_div _ _
  refine⟨h1.cons (zyi _ zE),hv,.inr ?_⟩
  have hc:aen B (f+1) (n+1)=(n+1) % B::aen B f ((n+1) / B):=rfl;rw[hc];generalize aen B f ((n+1) / B)=l at*;rcases h3 with h3|h3
  ·subst h3;have h5:(n+1) / B=0:=h2.symm;have:(n+1) % B=n+1:=by have:=Nat.mod_add_div (n+1) B;rw[h5]at this;simpa using this
   simp[this]
  ·have h6:l.length≠0:=by
    intro h0;rw[zx5 h0]at h3;simp at h3
   obtain⟨m,hm⟩:∃m,l.length=m+1:=⟨l.length - 1,zE⟩
   rw[hm]at h3;simp only[zx6,hm,Nat.add_sub_cancel,zx7,List.getElem?_cons_succ]at*
   exact h3
def wds(n:Nat):List Nat:=aen WB n n
theorem agm(n:Nat):Sm WB (wds n):=(vN uW n n (zq6 n)).1
theorem tC(n:Nat):nval WB (wds n)=n:=(vN uW n n (zq6 n)).2.1
theorem abI(n:Nat):Nrm (wds n):=(vN uW n n (zq6 n)).2.2
theorem yH{l:List Nat}(hs:Sm WB l)(hn:Nrm l):l=wds (nval WB l):=aqA aZ hs (agm _) hn (abI _) (tC _).symm
theorem qD{n k:Nat}(h:n < WB ^ k):(wds n).length<=k:=(abI n).uQ aZ (by rw[tC];exact h)
theorem uZ(n:Nat):(wds n).length=0↔n=0:=by
 constructor
 ·intro h;have:=tC n;rw[zx5 h]at this;exact this.symm
 ·intro h;subst h;rfl
instance(l:List Nat):kG (eT l) 1 l.length (l.map fun x:Nat=> .val (.int .u64 (x:Int))):=⟨fun _ _ _ h=>h.2⟩
instance(n:Nat):kG (bN n) 1 (wds n).length ((wds n).map fun x:Nat=> .val (.int .u64 (x:Int))):=⟨fun _ _ _ h=>by
 obtain⟨l,h1,h2,_,h4⟩:=h;have:=yH h4.1 h1;rw[h2]at this;rw[<-this];exact h4.2⟩
class Bd(z:Int)(k:outParam Nat):Prop where
 h:z.natAbs < WB ^ k
def afE(n k:Nat):Rep where
 has S w v:=∃l,nval WB l=n/\l.length<=k/\(eT l).has S w v
 one h:=by obtain⟨l,_,_,h⟩:=h;exact(eT l).one h
 step h ho hs:=by obtain⟨l,h1,h2,h⟩:=h;exact⟨l,h1,h2,(eT l).step h ho hs⟩
class NI(a:CA)(n:outParam Nat)(k:outParam Nat):Prop where
 p:∀S w v,a.has S w v->(afE n k).has S w v
theorem NI.h{a:CA}{n k:Nat}(x:NI a n k):∀S w v,a.has S w v->∃l,RN w v l/\nval WB l=n/\l.length<=k:=fun S w v h=>by
 obtain⟨l,h1,h2,h3⟩:=x.p S w v h;exact⟨l,eT.rn h3,h1,h2⟩
instance NI.nat(n k:Nat):NI (.sat (afE n k)) n k:=⟨fun _ _ _ h=>h⟩
instance NI.raw(l:List Nat):NI (.sat (eT l)) (nval WB l) l.length:=⟨fun S w v h=>⟨l,rfl,zq6 _,h⟩⟩
instance NI.nil:NI (.val (.slice none 0 0)) 0 0:=⟨fun S w v h=>by
 rw[show v=_ from h]
 exact⟨[],rfl,zq6 _,Sm.nil,dh.2 ⟨none,0,rfl,zq6 _,by simp[maxLen],fun _=>rfl,by simp,fun i c hc=>by simp at hc⟩⟩⟩
theorem NI.abB{n k:Nat}(hk:n < WB ^ k):NI (.sat (bN n)) n k:=⟨fun S w v h=>by
 obtain⟨l,h1,h2,_,h4⟩:=h;exact⟨l,h2,h1.uQ aZ (by rw[h2];exact hk),h4⟩⟩
class BdN(n:Nat)(k:outParam Nat):Prop where
 h:n < WB ^ k
instance NI.nrm(n k:Nat)[h:BdN n k]:NI (.sat (bN n)) n k:=NI.abB h.h
instance BdN.abs(z:Int)(k:Nat)[h:Bd z k]:BdN z.natAbs k:=⟨h.h⟩
theorem gQ(k:Nat):1<=WB ^ k:=Nat.one_le_pow k WB aZ
theorem Bd.mono{z:Int}{k m:Nat}(h:z.natAbs < WB ^ k)(hm:k<=m):z.natAbs < WB ^ m:=zqf h (zx2 aZ hm)
theorem ajV(k m:Nat):WB ^ k+WB ^ m<=WB ^ (k+m)+1:=by
 have h1:=gQ k;have h2:=gQ m;rw[zw5];generalize WB ^ k=a at*;generalize WB ^ m=b at*;obtain⟨a,rfl⟩:∃a',a=a'+1:=⟨a - 1,zE⟩
 obtain⟨b,rfl⟩:∃b',b=b'+1:=⟨b - 1,zE⟩
 rw[zy5,Nat.mul_add];have:0<=a*b:=zq8 _;omega
theorem acW{x y:Int}{k m:Nat}(hx:x.natAbs < WB ^ k)(hy:y.natAbs < WB ^ m):(x+y).natAbs < WB ^ (k+m+1):=by
 have h1:=ajV k m;have h2:WB ^ (k+m)*2<=WB ^ (k+m+1):=by rw[zyf];exact zx8 _ zc
 have h3:=gQ (k+m);omega
instance Bd.add(x y:Int)(k m:Nat)[hx:Bd x k][hy:Bd y m]:Bd (x+y) (k+m+1):=⟨acW hx.h hy.h⟩
instance Bd.sub(x y:Int)(k m:Nat)[hx:Bd x k][hy:Bd y m]:Bd (x - y) (k+m+1):=⟨by rw[Int.sub_eq_add_neg];exact acW hx.h (by rw[Int.natAbs_neg];exact hy.h)⟩
instance Bd.neg(x:Int)(k:Nat)[hx:Bd x k]:Bd (-x) k:=⟨by rw[Int.natAbs_neg];exact hx.h⟩
instance Bd.mul(x y:Int)(k m:Nat)[hx:Bd x k][hy:Bd y m]:Bd (x*y) (k+m):=⟨by
 rw[zve,zw5];exact Nat.mul_lt_mul_of_lt_of_le hx.h (Nat.le_of_lt hy.h) (gQ m)⟩
theorem avG{x y:Nat}{k m:Nat}(hx:x < WB ^ k)(hy:y < WB ^ m):x+y < WB ^ (k+m+1):=by
 have:=acW (x:=(x:Int)) (y:=(y:Int)) (k:=k) (m:=m) (by simpa using hx) (by simpa using hy)
 omega
instance BdN.add(x y k m:Nat)[hx:BdN x k][hy:BdN y m]:BdN (x+y) (k+m+1):=⟨avG hx.h hy.h⟩
instance BdN.mul(x y k m:Nat)[hx:BdN x k][hy:BdN y m]:BdN (x*y) (k+m):=⟨by
 rw[zw5];exact Nat.mul_lt_mul_of_lt_of_le hx.h (Nat.le_of_lt hy.h) (gQ m)⟩
instance BdN.sub(x y k:Nat)[hx:BdN x k]:BdN (x - y) k:=⟨zxb (Nat.sub_le _ _) hx.h⟩
instance BdN.div(x y k:Nat)[hx:BdN x k]:BdN (x / y) k:=⟨zxb (Nat.div_le_self _ _) hx.h⟩
instance BdN.mod(x y k:Nat)[hx:BdN x k]:BdN (x % y) k:=⟨zxb (Nat.mod_le _ _) hx.h⟩
instance BdN.ite(c:Prop)[Decidable c](x k:Nat)[hx:BdN x k]:BdN (if c then 0 else x) k:=⟨by split;exact zqf zc (gQ k);exact hx.h⟩
instance BdN.gcd(x y k m:Nat)[hx:BdN x k][hy:BdN y m]:BdN (Nat.gcd x y) (k+m):=⟨by
 rcases zye x with h0|h0
 ·subst h0;rw[Nat.gcd_zero_left];exact zqf hy.h (zx2 aZ zE)
 ·exact zxb (Nat.gcd_le_left y h0) (zqf hx.h (zx2 aZ zE))⟩
instance Bd.nat(n k:Nat)[h:BdN n k]:Bd (n:Int) k:=⟨by simpa using h.h⟩
instance Bd.zero:Bd 0 0:=⟨by simp⟩
instance Bd.one:Bd 1 1:=⟨by simp[WB]⟩
theorem awL(x:Int)(h1: -9223372036854775808<=x)(h2:x<=9223372036854775807):x.natAbs < WB ^ 1:=by rw[zxh,bJ];omega
section
variable{a b:CA}{x y k m:Nat}
theorem nat2{f:FuncId}{r:Nat}[ha:NI a x k][hb:NI b y m](he:∃fn,prog.funcs[f]? =some fn/\(fn.name== "runtime.NumGoroutine")=false/\fn.body.isNone=false)
  (h:∀w va vb la lb,RN w va la->RN w vb lb->nval WB la=x->nval WB lb=y->la.length<=k->lb.length<=m->Calls prog f #[va,vb] w fun e w'=>(∃v,e= .returned v/\ON w.heap.size w' v r)/\Ext w w'):
  ah prog f [.it (.one (.c a)),.it (.one (.c b))] (.r (bN r)):=
 ah.jH he rfl fun E S w vs hl hv=>by
  match vs,hv with
  |[va,vb],⟨h1,h2,_⟩=>
   obtain⟨la,ra,ea,ka⟩:=ha.h S w va h1;obtain⟨lb,rb,eb,kb⟩:=hb.h S w vb h2;refine(h w va vb la lb ra rb ea eb ka kb).mono ?_;rintro e w' ⟨⟨v,rfl,ho⟩,hx⟩;exact⟨v,rfl,bN.afk ho hl,Off.of_below hx⟩
theorem nat1{f:FuncId}{r:Nat}[ha:NI a x k](he:∃fn,prog.funcs[f]? =some fn/\(fn.name== "runtime.NumGoroutine")=false/\fn.body.isNone=false)
  (h:∀w va la,RN w va la->nval WB la=x->la.length<=k->Calls prog f #[va] w fun e w'=>(∃v,e= .returned v/\ON w.heap.size w' v r)/\Ext w w'):
  ah prog f [.it (.one (.c a))] (.r (bN r)):=
 ah.jH he rfl fun E S w vs hl hv=>by
  match vs,hv with
  |[va],⟨h1,_⟩=>
   obtain⟨la,ra,ea,ka⟩:=ha.h S w va h1;refine(h w va la ra ea ka).mono ?_;rintro e w' ⟨⟨v,rfl,ho⟩,hx⟩;exact⟨v,rfl,bN.afk ho hl,Off.of_below hx⟩
theorem awd[ha:NI a x k](hk:k<=1099511627775):ah prog 100 [.it (.one (.c a))] (.r (bN x)):=
 nat1 ⟨_,func100,rfl,rfl⟩ fun w va la h1 h2 h3=>by subst h2;exact jc h1 zE
theorem nAdd[ha:NI a x k][hb:NI b y m](hk:k+m<=1099511627775):ah prog 176 [.it (.one (.c a)),.it (.one (.c b))] (.r (bN (x+y))):=
 nat2 ⟨_,func176,rfl,rfl⟩ fun w va vb la lb h1 h2 h3 h4 h5 h6=>by subst h3 h4;exact zn h1 h2 zE zE
theorem mMul[ha:NI a x k][hb:NI b y m](hk:k+m<=274877906944):ah prog 104 [.it (.one (.c a)),.it (.one (.c b))] (.r (bN (x*y))):=
 nat2 ⟨_,func104,rfl,rfl⟩ fun w va vb la lb h1 h2 h3 h4 h5 h6=>by subst h3 h4;exact avx h1 h2 zE zE
theorem dGcd[ha:NI a x k][hb:NI b y m](hk:k+m<=1099511627770):ah prog 101 [.it (.one (.c a)),.it (.one (.c b))] (.r (bN (Nat.gcd x y))):=
 nat2 ⟨_,func101,rfl,rfl⟩ fun w va vb la lb h1 h2 h3 h4 h5 h6=>by subst h3 h4;exact au8 h1 h2 hk zE zE
theorem nOf(x:Nat)(hx:x < WB):ah prog 60 [.v (.int .u64 (x:Int))] (.r (bN x)):=
 ah.jH ⟨_,func60,rfl,rfl⟩ rfl fun E S w vs hl hv=>by
  match vs,hv with
  |[va],⟨h1,_⟩=>
   have h1':va= .int .u64 (x:Int):=h1;subst h1';refine(as5 x hx w).mono ?_;rintro e w' ⟨⟨v,rfl,ho⟩,hx⟩;exact⟨v,rfl,bN.afk ho hl,Off.of_below hx⟩
theorem nCmp[ha:NI a x k][hb:NI b y m](hk:k+m<=1099511627775):ah prog 215 [.it (.one (.c a)),.it (.one (.c b))] (.v (.int .i64 (mF x y))):=
 ah.jH ⟨_,func215,rfl,rfl⟩ rfl fun E S w vs hl hv=>by
  match vs,hv with
  |[va,vb],⟨h1,h2,_⟩=>
   obtain⟨la,ra,ea,ka⟩:=ha.h S w va h1;obtain⟨lb,rb,eb,kb⟩:=hb.h S w vb h2;subst ea eb;refine(abJ ra rb zE zE).mono ?_
   rintro e w' ⟨rfl,hx⟩;exact⟨_,rfl,rfl,Off.of_below hx⟩
theorem ahS[ha:NI a x k](hk:k<=1099511627775):ah prog 102 [.it (.one (.c a))] (.v (.int .i64 (bitLen x:Int))):=
 ah.jH ⟨_,func102,rfl,rfl⟩ rfl fun E S w vs hl hv=>by
  match vs,hv with
  |[va],⟨h1,_⟩=>
   obtain⟨la,ra,ea,ka⟩:=ha.h S w va h1;subst ea;refine(apI ra zE).mono ?_
   rintro e w' ⟨rfl,rfl⟩;exact⟨_,rfl,rfl,Off.refl _ _⟩
theorem ahG[ha:NI a x k](hk:k<=1099511627775):ah prog 114 [.it (.one (.c a))] (.tup [.one (.c (.val (.int .u64 ((if x < WB then x else 0:Nat):Int)))),.one (.c (.val (.bool (decide (x < WB)))))]):=
 ah.jH ⟨_,func114,rfl,rfl⟩ rfl fun E S w vs hl hv=>by
  match vs,hv with
  |[va],⟨h1,_⟩=>
   obtain⟨la,ra,ea,ka⟩:=ha.h S w va h1;subst ea;refine(aqp ra zE).mono ?_
   rintro e w' ⟨rfl,rfl⟩;exact⟨_,rfl,⟨[_,_],rfl,rfl,rfl,trivial⟩,Off.refl _ _⟩
theorem nSub[ha:NI a x k][hb:NI b y m](hk:k+m<=1099511627775):ah prog 177 [.it (.one (.c a)),.it (.one (.c b))] (.tup [.one (.c (.sat (bN (x - y)))),.one (.c (.val (.bool (decide (y<=x)))))]):=
 ah.jH ⟨_,func177,rfl,rfl⟩ rfl fun E S w vs hl hv=>by
  match vs,hv with
  |[va,vb],⟨h1,h2,_⟩=>
   obtain⟨la,ra,ea,ka⟩:=ha.h S w va h1;obtain⟨lb,rb,eb,kb⟩:=hb.h S w vb h2;subst ea eb;rcases zyd (nval WB la) (nval WB lb)with hlt|hge
   ·refine(asx ra rb zE zE hlt).mono ?_
    rintro e w' ⟨rfl,hx⟩;refine⟨_,rfl,⟨[_,_],rfl,?_,?_,trivial⟩,Off.of_below hx⟩
    ·show (bN _).has _ _ _;rw[Nat.sub_eq_zero_of_le zE];exact bN.zero
    ·show _=_;rw[decide_eq_false zE]
   ·refine(arf ra rb zE zE hge).mono ?_
    rintro e w' ⟨⟨v,rfl,ho⟩,hx⟩;refine⟨_,rfl,⟨[_,_],rfl,bN.afk ho hl,?_,trivial⟩,Off.of_below hx⟩;show _=_;rw[decide_eq_true hge]
theorem agp[ha:NI a x k][hb:NI b y m](hk:k+m<=1099511627770):ah prog 196 [.it (.one (.c a)),.it (.one (.c b))] (.tup [.one (.c (.sat (bN (x / y)))),.one (.c (.sat (bN (if y=0 then 0 else x % y)))),.one (.c (.val (.bool (decide (y≠0)))))]):=
 ah.jH ⟨_,func196,rfl,rfl⟩ rfl fun E S w vs hl hv=>by
  match vs,hv with
  |[va,vb],⟨h1,h2,_⟩=>
   obtain⟨la,ra,ea,ka⟩:=ha.h S w va h1;obtain⟨lb,rb,eb,kb⟩:=hb.h S w vb h2;subst ea eb;by_cases h0:nval WB lb=0
   ·refine(aiS ra rb zE zE h0).mono ?_
    rintro e w' ⟨rfl,hx⟩;rw[h0];exact⟨_,rfl,⟨[_,_,_],rfl,by show (bN _).has _ _ _;rw[Nat.div_zero];exact bN.zero,bN.zero,rfl,trivial⟩,Off.of_below hx⟩
   ·refine(adM ra rb zE zE (Nat.pos_of_ne_zero h0)).mono ?_
    rintro e w' ⟨⟨vq,vr,rfl,hq,hr⟩,hx⟩;refine⟨_,rfl,⟨[_,_,_],rfl,bN.afk hq hl,?_,?_,trivial⟩,Off.of_below hx⟩
    ·rw[if_neg h0];exact bN.afk hr hl
    ·show _=_;rw[decide_eq_true h0]
end
theorem p9{l:List Nat}{S:Nat->Prop}{w:World}{v:Value}:(eT l).has S w v↔Sm WB l/\(aQ 1 l.length (l.map fun x:Nat=> .val (.int .u64 (x:Int)))).has S w v:=Iff.rfl
theorem zF{n k:Nat}{S:Nat->Prop}{w:World}{v:Value}:(afE n k).has S w v↔∃l,nval WB l=n/\l.length<=k/\(eT l).has S w v:=Iff.rfl
theorem ai9{n:Nat}{S:Nat->Prop}{w:World}{v:Value}:(bN n).has S w v↔∃l,Nrm l/\nval WB l=n/\(l=[]->v= .slice none 0 0)/\(eT l).has S w v:=Iff.rfl
attribute [irreducible] afE eT bN wds
end
section
attribute [local irreducible] IntKind.wrap bitLen mF nval Go1 Reg WP aO aR bM aD aj ak aX Sat
def sgn(neg:Bool)(n:Nat):Int:=if neg then -(n:Int)else(n:Int)
theorem abG(z:Int):sgn (decide (z < 0)) z.natAbs=z:=by unfold sgn;split <;> simp_all <;> omega
theorem jm(neg:Bool)(n:Nat):(sgn neg n).natAbs=n:=by unfold sgn;split <;> omega
abbrev zN(z:Int):List Atom:=[.c (.val (.bool (decide (z < 0)))),.c (.sat (bN z.natAbs))]
abbrev zR(neg:Bool)(n k:Nat):List Atom:=[.c (.val (.bool neg)),.c (.sat (afE n k))]
class ZI(l:List Atom)(z:outParam Int)(k:outParam Nat):Prop where
 h:∃neg n,z=sgn neg n/\∀E S w v,(AV.agg l).has E S w v->(AV.agg (zR neg n k)).has E S w v
theorem ZI.mk'{neg:Bool}{a:CA}{n k:Nat}(h:NI a n k):ZI [.c (.val (.bool neg)),.c a] (sgn neg n) k:=⟨neg,n,rfl,fun E S w v hv=>by
 obtain⟨vs,hv,hall⟩:=hv
 match vs,hall with
 |[x,y],⟨h1,h2,_⟩=>exact⟨[x,y],hv,h1,h.p S w y h2,trivial⟩⟩
instance ZI.nat(neg:Bool)(n k:Nat):ZI [.c (.val (.bool neg)),.c (.sat (afE n k))] (sgn neg n) k:=ZI.mk' inferInstance
instance ZI.nrm(z:Int)(k:Nat)[h:Bd z k]:ZI [.c (.val (.bool (decide (z < 0)))),.c (.sat (bN z.natAbs))] z k:=by
 have:=ZI.mk' (neg:=decide (z < 0)) (NI.abB h.h)
 rwa [abG]at this
instance ZI.raw(neg:Bool)(l:List Nat):ZI [.c (.val (.bool neg)),.c (.sat (eT l))] (sgn neg (nval WB l)) l.length:=ZI.mk' inferInstance
instance ZI.zero:ZI [.c (.val (.bool false)),.c (.val (.slice none 0 0))] 0 0:=ZI.mk' (neg:=false) (n:=0) inferInstance
theorem auG{n k:Nat}{S:Nat->Prop}{w:World}{v:Value}(h:(afE n k).has S w v):n < WB ^ k:=by
 obtain⟨l,h1,h2,h3⟩:=zF.1 h;rw[<-h1];exact aeO (eT.rn h3).sm h2
theorem zf{neg:Bool}{n k:Nat}{E:Env}{S:Nat->Prop}{w:World}{v:Value}(h:(AV.agg (zR neg n k)).has E S w v):n < WB ^ k:=by
 obtain⟨vs,_,hall⟩:=h
 match vs,hall with
 |[_,_],⟨_,h2,_⟩=>exact auG h2
theorem z1{f:FuncId}{r:AV}{l:List Atom}{z:Int}{k:Nat}[h:ZI l z k](he:∃fn,prog.funcs[f]? =some fn/\(fn.name== "runtime.NumGoroutine")=false/\fn.body.isNone=false)
  (hf:∀neg n,z=sgn neg n->BdN n k->ah prog f [.agg (zR neg n k)] r):ah prog f [.agg l] r:=by
 obtain⟨neg,n,hz,hm⟩:=h.h;refine ah.fact he (fun hb=>hf neg n hz hb) fun E S w vs hv=>?_
 match vs,hv with
 |[x],⟨h1,_⟩=>exact⟨⟨hm E S w x h1,trivial⟩,⟨zf (hm E S w x h1)⟩⟩
theorem z2{f:FuncId}{r:AV}{l l':List Atom}{z z':Int}{k k':Nat}[h:ZI l z k][h':ZI l' z' k'](he:∃fn,prog.funcs[f]? =some fn/\(fn.name== "runtime.NumGoroutine")=false/\fn.body.isNone=false)
  (hf:∀neg n neg' n',z=sgn neg n->z'=sgn neg' n'->BdN n k->BdN n' k'->ah prog f [.agg (zR neg n k),.agg (zR neg' n' k')] r):ah prog f [.agg l,.agg l'] r:=by
 obtain⟨neg,n,hz,hm⟩:=h.h;obtain⟨neg',n',hz',hm'⟩:=h'.h;refine ah.fact (φ:=BdN n k/\BdN n' k') he (fun hb=>hf neg n neg' n' hz hz' hb.1 hb.2) fun E S w vs hv=>?_
 match vs,hv with
 |[x,y],⟨h1,h2,_⟩=>exact⟨⟨hm E S w x h1,hm' E S w y h2,trivial⟩,⟨zf (hm E S w x h1)⟩,⟨zf (hm' E S w y h2)⟩⟩
instance Bd.sgn(neg:Bool)(n k:Nat)[h:BdN n k]:Bd (sgn neg n) k:=⟨by rw[jm];exact h.h⟩
theorem axF(neg:Bool)(n:Nat):zN (sgn neg n)=[.c (.val (.bool (neg&&decide (0 < n)))),.c (.sat (bN n))]:=by
 have h1:decide (sgn neg n < 0)=(neg&&decide (0 < n)):=by
  unfold sgn;cases neg <;> simp
 unfold zN;rw[jm,h1]
theorem qV{a:CA}{x k:Nat}[ha:NI a x k](neg:Bool)(hk:k<=1099511627775):ah prog 50 [.it (.one (.c a)),.v (.bool neg)] (.agg (zN (sgn neg x))):=by
 rw[axF];refine ah.args (args':=[.r (afE x k),.v (.bool neg)]) ?_ (fun E S w vs hv=>?_)
 rotate_left
 ·match vs,hv with
  |[u,v],⟨h1,h2,_⟩=>exact⟨ha.p S w u h1,h2,trivial⟩
 refine ah.fn func50 results50 ntmps50 rfl rfl rfl zd rfl fun _ _ _ _ _=>?_
 cases neg
 ·repeat(first|refine zg ?_|(refine SX.Go1.is ?_;refine SX.Go1.eO ?_;first
     |refine SX.Go1.call rfl (awd hk) rfl rfl ?_))
  exact aD.eq1 aj.gV rfl
 ·repeat(first|refine zg ?_|(refine SX.Go1.is ?_;refine SX.Go1.eO ?_;first
     |refine SX.Go1.call rfl (awd hk) rfl rfl ?_))
  refine aD.eq1 aj.gV ?_;have h:decide (0 < ((wds x).length:Int))=decide (0 < x):=by
   have:=uZ x;rw[decide_eq_decide];omega
  show AV0.agg [Atom.c (CA.val (.bool (decide (0 < ((wds x).length:Int))))),_]=_;rw[h];rfl
def bI(z:Int):Int:=if z=0 then 0 else if z < 0 then -1 else 1
theorem qp{n:Nat}:bitLen n=0↔n=0:=by
 unfold bitLen;split <;> simp_all
theorem abv{l:List Atom}{z:Int}{k:Nat}[h:ZI l z k](hk:k<=1099511627775):ah prog 62 [.agg l] (.v (.int .i64 (bI z))):=by
 refine z1 ⟨_,func62,rfl,rfl⟩ fun neg n hz hn=>?_
 subst hz;refine ah.fn func62 results62 ntmps62 rfl rfl rfl zd rfl fun _ _ _ _ _=>?_
 have hb:=qp (n:=n);repeat(first|refine zg ?_|(refine SX.Go1.is ?_;refine SX.Go1.eO ?_;first
    |refine SX.Go1.call rfl (ahS hk) rfl rfl ?_))
 refine WP.cond rfl (fun hc=>?_) (fun hc=>?_)
 ·repeat(first|refine zg ?_)
  refine aD.eq1 (aj.tmp rfl) ?_;have:n=0:=by simp at hc;omega
  subst this;cases neg <;> rfl
 ·repeat(first|refine zg ?_)
  have hn:0 < n:=by simp at hc;omega
  cases neg
  ·repeat(first|refine zg ?_)
   refine aD.eq1 (aj.tmp rfl) ?_;have:bI (sgn false n)=1:=by unfold bI sgn;simp;omega
   rw[this]
  ·repeat(first|refine zg ?_)
   refine aD.eq1 (aj.tmp rfl) ?_;have:bI (sgn true n)= -1:=by unfold bI sgn;simp;omega
   rw[this]
theorem auC(neg:Bool)(n:Nat):sgn (!neg) n= -sgn neg n:=by unfold sgn;cases neg <;> simp
theorem zNeg{l:List Atom}{z:Int}{k:Nat}[h:ZI l z k](hk:k<=1099511627775):ah prog 55 [.agg l] (.agg (zN (-z))):=by
 refine z1 ⟨_,func55,rfl,rfl⟩ fun neg n hz hn=>?_
 subst hz;rw[<-auC];refine ah.fn func55 results55 ntmps55 rfl rfl rfl zd rfl fun _ _ _ _ _=>?_
 repeat(first|refine zg ?_|(refine SX.Go1.is ?_;refine SX.Go1.eO ?_;first
    |refine SX.Go1.call rfl (qV _ hk) rfl rfl ?_))
 exact aD.eq1 aj.gV rfl
end
section
attribute [local irreducible] IntKind.wrap bitLen mF nval Go1 Reg WP aO aR bM aD aj ak aX Sat
attribute [local irreducible] sgn bI
theorem an4(z:Int)(h0:0<=z)(h1:z < 18446744073709551616):ah prog 60 [.v (.int .u64 z)] (.r (bN z.natAbs)):=by
 have:=nOf z.natAbs (by rw[bJ];omega)
 rwa [show ((z.natAbs:Nat):Int)=z by omega]at this
theorem zOf(z:Int)(h1: -9223372036854775808<=z)(h2:z<=9223372036854775807):ah prog 18 [.v (.int .i64 z)] (.agg (zN z)):=by
 have hb:NI (.sat (bN z.natAbs)) z.natAbs 1:=NI.abB (awL z h1 h2);refine ah.fn func18 results18 ntmps18 rfl rfl rfl zd rfl fun _ _ _ _ _=>?_
 repeat(first|refine zg ?_)
 refine WP.cond rfl (fun hc=>?_) (fun hc=>?_)
 ·have hz:z < 0:=by simpa using hc
  have hw:IntKind.u64.wrap (0 - IntKind.u64.wrap z)=(z.natAbs:Int):=by
   simp only[IntKind.wrap,IntKind.bits,IntKind.signed];simp;omega
  have hs:sgn true z.natAbs=z:=by unfold sgn;simp;omega
  have hcc:=nOf (z.natAbs) (by rw[bJ];omega)
  repeat(first|refine zg ?_|(refine SX.Go1.is ?_;refine SX.Go1.eO ?_;first
     |refine SX.Go1.call rfl (hcc) rfl rfl ?_
     |refine SX.Go1.call rfl (qV true zE) rfl rfl ?_))
  rw[hs];exact aD.eq1 aj.gV rfl
 ·have hz:0<=z:=by simpa using hc
  have hw:IntKind.u64.wrap z=(z.natAbs:Int):=by
   simp only[IntKind.wrap,IntKind.bits,IntKind.signed];simp;omega
  have hs:sgn false z.natAbs=z:=by unfold sgn;simp;omega
  have hcc:=nOf (z.natAbs) (by rw[bJ];omega)
  repeat(first|refine zg ?_|(refine SX.Go1.is ?_;refine SX.Go1.eO ?_;first
     |refine SX.Go1.call rfl (hcc) rfl rfl ?_
     |refine SX.Go1.call rfl (an4 _ hz zE) rfl rfl ?_
     |refine SX.Go1.call rfl (qV false zE) rfl rfl ?_))
  rw[hs];exact aD.eq1 aj.gV rfl
theorem afV(neg:Bool)(n m:Nat):sgn neg (n+m)=sgn neg n+sgn neg m:=by unfold sgn;split <;> omega
theorem aj1(neg:Bool){n m:Nat}(h:m<=n):sgn neg (n - m)=sgn neg n+sgn (!neg) m:=by unfold sgn;cases neg <;> simp <;> omega
theorem ak8(neg:Bool){n m:Nat}(h:n<=m):sgn (!neg) (m - n)=sgn neg n+sgn (!neg) m:=by unfold sgn;cases neg <;> simp <;> omega
theorem zAdd{l l':List Atom}{x y:Int}{k m:Nat}[h:ZI l x k][h':ZI l' y m](hk:k+m<=1099511627774):ah prog 88 [.agg l,.agg l'] (.agg (zN (x+y))):=by
 refine z2 ⟨_,func88,rfl,rfl⟩ fun neg n neg2 n2 hz hz2 hn hn2=>?_
 subst hz hz2;refine ah.fn func88 results88 ntmps88 rfl rfl rfl zd rfl fun _ _ _ _ _=>?_
 repeat(first|refine zg ?_)
 refine WP.cond rfl (fun hc=>?_) (fun hc=>?_)
 ·have hq:neg=neg2:=by simpa using hc
  subst hq;repeat(first|refine zg ?_|(refine SX.Go1.is ?_;refine SX.Go1.eO ?_;first
     |refine SX.Go1.call rfl (nAdd zE) rfl rfl ?_
     |refine SX.Go1.call rfl (qV _ zE) rfl rfl ?_))
  rw[<-afV];exact aD.eq1 aj.gV rfl
 ·have hq:neg2=!neg:=by cases neg <;> cases neg2 <;> simp_all
  subst hq;repeat(first|refine zg ?_|(refine SX.Go1.is ?_;refine SX.Go1.eO ?_;first
     |refine SX.Go1.call rfl (nSub zE) rfl rfl ?_))
  refine WP.cond rfl (fun hc2=>?_) (fun hc2=>?_)
  ·have hle:n2<=n:=by simpa using hc2
   repeat(first|refine zg ?_|(refine SX.Go1.is ?_;refine SX.Go1.eO ?_;first
      |refine SX.Go1.call rfl (qV _ zE) rfl rfl ?_))
   rw[<-aj1 neg hle];exact aD.eq1 aj.gV rfl
  ·have hle:n<=n2:=by simp at hc2;omega
   repeat(first|refine zg ?_|(refine SX.Go1.is ?_;refine SX.Go1.eO ?_;first
      |refine SX.Go1.call rfl (nSub zE) rfl rfl ?_
      |refine SX.Go1.call rfl (qV _ zE) rfl rfl ?_))
   rw[<-ak8 neg hle];exact aD.eq1 aj.gV rfl
theorem zSub{l l':List Atom}{x y:Int}{k m:Nat}[h:ZI l x k][h':ZI l' y m](hk:k+m<=1099511627774):ah prog 75 [.agg l,.agg l'] (.agg (zN (x - y))):=by
 refine z2 ⟨_,func75,rfl,rfl⟩ fun neg n neg2 n2 hz hz2 hn hn2=>?_
 subst hz hz2;rw[Int.sub_eq_add_neg];refine ah.fn func75 results75 ntmps75 rfl rfl rfl zd rfl fun _ _ _ _ _=>?_
 repeat(first|refine zg ?_|(refine SX.Go1.is ?_;refine SX.Go1.eO ?_;first
    |refine SX.Go1.call rfl (zNeg zE) rfl rfl ?_
    |refine SX.Go1.call rfl (zAdd zE) rfl rfl ?_))
 exact aD.eq1 aj.gV rfl
theorem auQ(a b:Bool)(n m:Nat):sgn (!(a==b)) (n*m)=sgn a n*sgn b m:=by unfold sgn;cases a <;> cases b <;> simp[Int.neg_mul,Int.mul_neg]
theorem zMul{l l':List Atom}{x y:Int}{k m:Nat}[h:ZI l x k][h':ZI l' y m](hk:k+m<=274877906944):ah prog 58 [.agg l,.agg l'] (.agg (zN (x*y))):=by
 refine z2 ⟨_,func58,rfl,rfl⟩ fun neg n neg2 n2 hz hz2 hn hn2=>?_
 subst hz hz2;rw[<-auQ];refine ah.fn func58 results58 ntmps58 rfl rfl rfl zd rfl fun _ _ _ _ _=>?_
 repeat(first|refine zg ?_|(refine SX.Go1.is ?_;refine SX.Go1.eO ?_;first
    |refine SX.Go1.call rfl (mMul zE) rfl rfl ?_
    |refine SX.Go1.call rfl (qV _ zE) rfl rfl ?_))
 exact aD.eq1 aj.gV rfl
def ab6(x y:Int):Int:=if x < y then -1 else if x=y then 0 else 1
theorem anV(n m:Nat):ab6 (sgn true n) (sgn true m)=mF m n:=by
 unfold ab6 sgn mF;simp;repeat' split <;> omega
theorem arP(n m:Nat):ab6 (sgn false n) (sgn false m)=mF n m:=by
 unfold ab6 sgn mF;simp;repeat' split <;> omega
theorem zCmp{l l':List Atom}{x y:Int}{k m:Nat}[h:ZI l x k][h':ZI l' y m](hk:k+m<=1099511627774):ah prog 119 [.agg l,.agg l'] (.v (.int .i64 (ab6 x y))):=by
 refine z2 ⟨_,func119,rfl,rfl⟩ fun neg n neg2 n2 hz hz2 hn hn2=>?_
 subst hz hz2;refine ah.fn func119 results119 ntmps119 rfl rfl rfl zd rfl fun _ _ _ _ _=>?_
 repeat(first|refine zg ?_|(refine SX.Go1.is ?_;refine SX.Go1.eO ?_;first
    |refine SX.Go1.call rfl (abv zE) rfl rfl ?_))
 have hx:bI (sgn neg n) < 0↔sgn neg n < 0:=by unfold bI;repeat' split <;> omega
 have hx0:0 < bI (sgn neg n)↔0 < sgn neg n:=by unfold bI;repeat' split <;> omega
 have hy:bI (sgn neg2 n2) < 0↔sgn neg2 n2 < 0:=by unfold bI;repeat' split <;> omega
 have hy0:0 < bI (sgn neg2 n2)↔0 < sgn neg2 n2:=by unfold bI;repeat' split <;> omega
 have hxr: -1<=bI (sgn neg n)/\bI (sgn neg n)<=1:=by unfold bI;repeat' split <;> omega
 have hyr: -1<=bI (sgn neg2 n2)/\bI (sgn neg2 n2)<=1:=by unfold bI;repeat' split <;> omega
 refine WP.cond rfl (fun hc=>?_) (fun hc=>?_)
 ·repeat(first|refine zg ?_)
  refine aD.eq1 (aj.tmp rfl) ?_;have:ab6 (sgn neg n) (sgn neg2 n2)= -1:=by unfold ab6;rw[if_pos (by simp at hc;omega)]
  rw[this]
 ·repeat(first|refine zg ?_)
  refine WP.cond rfl (fun hc2=>?_) (fun hc2=>?_)
  ·repeat(first|refine zg ?_)
   refine aD.eq1 (aj.tmp rfl) ?_;have:ab6 (sgn neg n) (sgn neg2 n2)=1:=by unfold ab6;rw[if_neg (by simp at hc2;omega),if_neg (by simp at hc2;omega)]
   rw[this]
  ·repeat(first|refine zg ?_)
   refine WP.cond rfl (fun hc3=>?_) (fun hc3=>?_)
   ·have e1:sgn neg n=sgn true n:=by simp at hc hc2 hc3;unfold sgn at*;cases neg <;> simp at* <;> omega
    have e2:sgn neg2 n2=sgn true n2:=by simp at hc hc2 hc3;unfold sgn at*;cases neg2 <;> simp at* <;> omega
    repeat(first|refine zg ?_|(refine SX.Go1.is ?_;refine SX.Go1.eO ?_;first
       |refine SX.Go1.call rfl (nCmp zE) rfl rfl ?_))
    rw[e1,e2,anV];exact aD.eq1 (aj.tmp rfl) rfl
   ·have e1:sgn neg n=sgn false n:=by simp at hc hc2 hc3;unfold sgn at*;cases neg <;> simp at* <;> omega
    have e2:sgn neg2 n2=sgn false n2:=by simp at hc hc2 hc3;unfold sgn at*;cases neg2 <;> simp at* <;> omega
    repeat(first|refine zg ?_|(refine SX.Go1.is ?_;refine SX.Go1.eO ?_;first
       |refine SX.Go1.call rfl (nCmp zE) rfl rfl ?_))
    rw[e1,e2,arP];exact aD.eq1 (aj.tmp rfl) rfl
theorem aor(x y:Int):decide (ab6 x y=0)=decide (x=y):=by
 unfold ab6;rw[decide_eq_decide];repeat' split <;> omega
theorem zSame{l l':List Atom}{x y:Int}{k m:Nat}[h:ZI l x k][h':ZI l' y m](hk:k+m<=1099511627774):ah prog 72 [.agg l,.agg l'] (.v (.bool (decide (x=y)))):=by
 refine z2 ⟨_,func72,rfl,rfl⟩ fun neg n neg2 n2 hz hz2 hn hn2=>?_
 subst hz hz2;rw[<-aor];refine ah.fn func72 results72 ntmps72 rfl rfl rfl zd rfl fun _ _ _ _ _=>?_
 repeat(first|refine zg ?_|(refine SX.Go1.is ?_;refine SX.Go1.eO ?_;first
    |refine SX.Go1.call rfl (zCmp zE) rfl rfl ?_))
 exact aD.eq1 (aj.tmp rfl) rfl
theorem zBits{l:List Atom}{z:Int}{k:Nat}[h:ZI l z k](hk:k<=1099511627775):ah prog 314 [.agg l] (.v (.int .i64 (bitLen z.natAbs:Int))):=by
 refine z1 ⟨_,func314,rfl,rfl⟩ fun neg n hz hn=>?_
 subst hz;rw[jm];refine ah.fn func314 results314 ntmps314 rfl rfl rfl zd rfl fun _ _ _ _ _=>?_
 repeat(first|refine zg ?_|(refine SX.Go1.is ?_;refine SX.Go1.eO ?_;first
    |refine SX.Go1.call rfl (ahS zE) rfl rfl ?_))
 exact aD.eq1 (aj.tmp rfl) rfl
def qK(z:Int):Bool:=decide (-9223372036854775808<=z)&&decide (z<=9223372036854775807)
def wY(z:Int):Int:=if qK z then z else 0
theorem ayo{l:List Atom}{z:Int}{k:Nat}[h:ZI l z k](hk:k<=1099511627775):ah prog 228 [.agg l] (.tup [.one (.c (.val (.int .i64 (wY z)))),.one (.c (.val (.bool (qK z))))]):=by
 refine z1 ⟨_,func228,rfl,rfl⟩ fun neg n hz hn=>?_
 subst hz;refine ah.fn func228 results228 ntmps228 rfl rfl rfl zd rfl fun _ _ _ _ _=>?_
 repeat(first|refine zg ?_|(refine SX.Go1.is ?_;refine SX.Go1.eO ?_;first
    |refine SX.Go1.call rfl (ahG zE) rfl rfl ?_
    |refine SX.Go1.call rfl (abv zE) rfl rfl ?_))
 have hsg:decide (bI (sgn neg n) < 0)=decide (sgn neg n < 0):=by
  rw[decide_eq_decide];unfold bI;repeat' split <;> omega
 have hab:=jm neg n;have hW:=bJ;generalize sgn neg n=z at*;generalize hd:decide (bI z < 0)=s at*;generalize hX:(if n < WB then n else 0)=X at*
 refine WP.cond rfl (fun hc=>?_) (fun hc=>?_)
 ·have hb:qK z=false:=by unfold qK;simp at hc ⊢;omega
  repeat(first|refine zg ?_)
  refine aD.eq2 (aj.tmp rfl) (aj.tmp rfl) ?_ ?_
  ·unfold wY;rw[hb];rfl
  ·rw[hb]
 ·have hlt:n < WB:=by simpa using hc
  rw[if_pos hlt]at hX;subst hX;cases s with
  |true=>
   have hz:z < 0:=by simpa using hsg.symm
   repeat(first|refine zg ?_)
   refine WP.cond rfl (fun hc=>?_) (fun hc=>?_)
   ·have hb:qK z=false:=by unfold qK;simp at hc ⊢;omega
    repeat(first|refine zg ?_)
    refine aD.eq2 (aj.tmp rfl) (aj.tmp rfl) ?_ ?_
    ·unfold wY;rw[hb];rfl
    ·rw[hb]
   ·have hb:qK z=true:=by unfold qK;simp at hc ⊢;omega
    repeat(first|refine zg ?_)
    refine aD.eq2 (aj.tmp rfl) (aj.tmp rfl) ?_ ?_
    ·have e:wY z=z:=by unfold wY;rw[hb];rfl
     have e2:IntKind.i64.wrap (0 - IntKind.i64.wrap (n:Int))=z:=by simp at hc;simp only[IntKind.wrap_i64];omega
     rw[e,e2]
    ·rw[hb]
  |false=>
   have hz:0<=z:=by simpa using hsg.symm
   repeat(first|refine zg ?_)
   refine WP.cond rfl (fun hc=>?_) (fun hc=>?_)
   ·have hb:qK z=false:=by unfold qK;simp at hc ⊢;omega
    repeat(first|refine zg ?_)
    refine aD.eq2 (aj.tmp rfl) (aj.tmp rfl) ?_ ?_
    ·unfold wY;rw[hb];rfl
    ·rw[hb]
   ·have hb:qK z=true:=by unfold qK;simp at hc ⊢;omega
    repeat(first|refine zg ?_)
    refine aD.eq2 (aj.tmp rfl) (aj.tmp rfl) ?_ ?_
    ·have e:wY z=z:=by unfold wY;rw[hb];rfl
     have e2:IntKind.i64.wrap (n:Int)=z:=by simp at hc;simp only[IntKind.wrap_i64];omega
     rw[e,e2]
    ·rw[hb]
end
section
attribute [local irreducible] IntKind.wrap bitLen mF nval Go1 Reg WP aO aR bM aD aj ak aX Sat
def rC(x y:Int):Int:=if y=0 then 0 else x.tmod y
theorem auY(a b:Bool)(n m:Nat):sgn (!(a==b)) (n / m)=(sgn a n).tdiv (sgn b m):=by
 unfold sgn;cases a <;> cases b <;> simp[Int.neg_tdiv,Int.tdiv_neg]
theorem ug{b:Bool}{m:Nat}:sgn b m=0↔m=0:=by unfold sgn;cases b <;> simp
theorem avb(a b:Bool)(n m:Nat):sgn a (if m=0 then 0 else n % m)=rC (sgn a n) (sgn b m):=by
 unfold rC;by_cases h:m=0
 ·rw[if_pos h,if_pos (ug.2 h)];cases a <;> rfl
 ·rw[if_neg h,if_neg (fun e=>h (ug.1 e))]
  unfold sgn;cases a <;> cases b <;> simp[Int.neg_tmod,Int.tmod_neg,Int.tmod_eq_emod_of_nonneg (Int.natCast_nonneg n)]
instance Bd.tdiv(x y:Int)(k:Nat)[h:Bd x k]:Bd (x.tdiv y) k:=⟨by rw[Int.natAbs_tdiv];exact zxb (Nat.div_le_self _ _) h.h⟩
instance Bd.rC(x y:Int)(k:Nat)[h:Bd x k]:Bd (rC x y) k:=⟨by
 unfold Proofs.YtjnhnbgpifohjaaGreatDoor.rC
 split
 ·exact zqf zc (gQ k)
 ·rw[Int.natAbs_tmod];exact zxb (Nat.mod_le _ _) h.h⟩
attribute [local irreducible] sgn bI rC
theorem zQuo{l l':List Atom}{x y:Int}{k m:Nat}[h:ZI l x k][h':ZI l' y m](hk:k+m<=1099511627770):ah prog 205 [.agg l,.agg l'] (.tup [.agg (zN (x.tdiv y)),.agg (zN (rC x y)),.one (.c (.val (.bool (decide (y≠0)))))]):=by
 refine z2 ⟨_,func205,rfl,rfl⟩ fun neg n neg2 n2 hz hz2 hn hn2=>?_
 subst hz hz2;rw[<-auY,<-avb,show decide (sgn neg2 n2≠0)=decide (n2≠0)by rw[decide_eq_decide,ne_eq,ne_eq,ug]]
 refine ah.fn func205 results205 ntmps205 rfl rfl rfl zd rfl fun _ _ _ _ _=>?_
 repeat(first|refine zg ?_|(refine SX.Go1.is ?_;refine SX.Go1.eO ?_;first
    |refine SX.Go1.call rfl (agp zE) rfl rfl ?_
    |refine SX.Go1.call rfl (qV _ zE) rfl rfl ?_))
 exact aD.eq3 aj.gV aj.gV (aj.tmp rfl) rfl rfl rfl
theorem zOne:ah prog 311 [] (.agg (zN 1)):=by
 refine ah.fn func311 results311 ntmps311 rfl rfl rfl zp rfl fun _ _ _ _ _=>?_
 repeat(first|refine zg ?_|(refine SX.Go1.is ?_;refine SX.Go1.eO ?_;first
    |refine SX.Go1.call rfl (zOf 1 zE zE) rfl rfl ?_))
 exact aD.eq1 aj.gV rfl
def zfq(x y:Int):Int:=if y=0 then 0 else x.fdiv y
def zfr(x y:Int):Int:=if y=0 then 0 else x.fmod y
theorem adU{x y:Int}(hy:y≠0)(h:x.tmod y*y < 0):x.tdiv y - 1=x.fdiv y/\x.tmod y+y=x.fmod y:=by
 have h1:=Int.tmod_add_mul_tdiv x y;have h2:=Int.fmod_add_mul_fdiv x y;have hq:x.tdiv y - 1=x.fdiv y:=by
  have h0:¬y ∣ x:=fun hd=>by rw[Int.tmod_eq_zero_of_dvd hd]at h;simp at h
  rw[Int.tdiv_eq_ediv,Int.fdiv_eq_ediv];have hs:(x.tmod y < 0/\0 < y)\/(0 < x.tmod y/\y < 0):=by
   rcases Int.lt_trichotomy (x.tmod y) 0 with ha|ha|ha
   ·refine .inl ⟨ha,?_⟩;rcases Int.lt_trichotomy y 0 with hb|hb|hb
    ·have:=Int.mul_pos_of_neg_of_neg ha hb;omega
    ·exact absurd hb hy
    ·exact hb
   ·rw[ha]at h;simp at h
   ·refine .inr ⟨ha,?_⟩;rcases Int.lt_trichotomy y 0 with hb|hb|hb
    ·exact hb
    ·exact absurd hb hy
    ·have:=Int.mul_pos ha hb;omega
  rcases hs with⟨a,b⟩|⟨a,b⟩
  ·have hx:x < 0:=by
    rcases Int.lt_or_le x 0 with hx|hx
    ·exact hx
    ·have:=Int.tmod_nonneg y hx;omega
   rw[if_neg (by simp[h0];omega),if_pos (by left;omega)]
   rw[Int.sign_eq_one_of_pos b];omega
  ·have hx:0 < x:=by
    rcases Int.lt_or_le 0 x with hx|hx
    ·exact hx
    ·have:=Int.tmod_nonneg y (show 0<= -x by omega);rw[Int.neg_tmod]at this;omega
   rw[if_pos (by left;omega),if_neg (by simp[h0];omega)];omega
 refine⟨hq,?_⟩;rw[<-hq,Int.mul_sub]at h2;omega
theorem adG{x y:Int}(hy:y≠0)(h:¬x.tmod y*y < 0):x.tdiv y=x.fdiv y/\x.tmod y=x.fmod y:=by
 have h1:=Int.tmod_add_mul_tdiv x y;have h2:=Int.fmod_add_mul_fdiv x y;have hq:x.tdiv y=x.fdiv y:=by
  rw[Int.tdiv_eq_ediv,Int.fdiv_eq_ediv];by_cases hd:y ∣ x
  ·rw[if_pos (.inr hd),if_pos (.inr hd)];omega
  ·have h0:x.tmod y≠0:=fun e=>hd (Int.dvd_of_tmod_eq_zero e)
   rcases Int.lt_trichotomy y 0 with hb|hb|hb
   ·have:x.tmod y < 0:=by
     rcases Int.lt_trichotomy (x.tmod y) 0 with ha|ha|ha
     ·exact ha
     ·exact absurd ha h0
     ·have:=Int.mul_neg_of_pos_of_neg ha hb;omega
    have hx:x < 0:=by
     rcases Int.lt_or_le x 0 with hx|hx
     ·exact hx
     ·have:=Int.tmod_nonneg y hx;omega
    rw[if_neg (by simp[hd];omega),if_neg (by simp[hd];omega),Int.sign_eq_neg_one_of_neg hb];omega
   ·exact absurd hb hy
   ·have:0 < x.tmod y:=by
     rcases Int.lt_trichotomy (x.tmod y) 0 with ha|ha|ha
     ·have:=Int.mul_neg_of_neg_of_pos ha hb;omega
     ·exact absurd ha h0
     ·exact ha
    have hx:0<=x:=by
     rcases Int.lt_or_le x 0 with hx|hx
     ·have:=Int.tmod_nonneg y (show 0<= -x by omega);rw[Int.neg_tmod]at this;omega
     ·exact hx
    rw[if_pos (.inl hx),if_pos (.inl zE)];omega
 refine⟨hq,?_⟩;rw[<-hq]at h2;omega
instance Bd.zfq(x y:Int)(k:Nat)[h:Bd x k]:Bd (zfq x y) (k+1+1):=⟨by
 unfold Proofs.YtjnhnbgpifohjaaGreatDoor.zfq
 split
 ·exact zqf zc (gQ _)
 ·by_cases h0:x.tmod y*y < 0
  ·rw[<-(adU (by assumption) h0).1];exact(Bd.sub (x.tdiv y) 1 k 1).h
  ·rw[<-(adG (by assumption) h0).1];exact Bd.mono (Bd.tdiv x y k).h zE⟩
instance Bd.zfr(x y:Int)(k m:Nat)[h:Bd x k][h':Bd y m]:Bd (zfr x y) (k+m+1):=⟨by
 unfold Proofs.YtjnhnbgpifohjaaGreatDoor.zfr
 split
 ·exact zqf zc (gQ _)
 ·have hb:Bd (x.tmod y) k:=⟨by rw[Int.natAbs_tmod];exact zxb (Nat.mod_le _ _) h.h⟩
  by_cases h0:x.tmod y*y < 0
  ·rw[<-(adU (by assumption) h0).2];exact(Bd.add (x.tmod y) y k m).h
  ·rw[<-(adG (by assumption) h0).2];exact Bd.mono hb.h zE⟩
attribute [local irreducible] zfq zfr
def zeq(x y:Int):Int:=if y=0 then 0 else x / y
def zer(x y:Int):Int:=if y=0 then 0 else x % y
theorem ahy{x y:Int}(hy:y≠0)(h:0<=x.tmod y):x.tdiv y=x / y/\x.tmod y=x % y:=by
 have h1:=Int.tmod_add_mul_tdiv x y;have h2:=Int.emod_add_mul_ediv x y;have hq:x.tdiv y=x / y:=by
  rw[Int.tdiv_eq_ediv];by_cases hd:y ∣ x
  ·rw[if_pos (.inr hd)];omega
  ·have h0:x.tmod y≠0:=fun e=>hd (Int.dvd_of_tmod_eq_zero e)
   have hx:0<=x:=by
    rcases Int.lt_or_le x 0 with hx|hx
    ·have:=Int.tmod_nonneg y (show 0<= -x by omega);rw[Int.neg_tmod]at this;omega
    ·exact hx
   rw[if_pos (.inl hx)];omega
 refine⟨hq,?_⟩;rw[<-hq]at h2;omega
theorem ahc{x y:Int}(hy:y≠0)(h:x.tmod y < 0):(0 < y->x.tdiv y - 1=x / y/\x.tmod y+y=x % y)/\(y < 0->x.tdiv y+1=x / y/\x.tmod y - y=x % y):=by
 have h1:=Int.tmod_add_mul_tdiv x y;have h2:=Int.emod_add_mul_ediv x y;have hd:¬y ∣ x:=fun hd=>by rw[Int.tmod_eq_zero_of_dvd hd]at h;omega
 have hx:x < 0:=by
  rcases Int.lt_or_le x 0 with hx|hx
  ·exact hx
  ·have:=Int.tmod_nonneg y hx;omega
 have hq:x.tdiv y=x / y+y.sign:=by rw[Int.tdiv_eq_ediv,if_neg (by simp[hd];omega)]
 constructor
 ·intro hp;rw[Int.sign_eq_one_of_pos hp]at hq;have e:x.tdiv y - 1=x / y:=zE
  refine⟨e,?_⟩;rw[<-e,Int.mul_sub]at h2;omega
 ·intro hp;rw[Int.sign_eq_neg_one_of_neg hp]at hq;have e:x.tdiv y+1=x / y:=zE
  refine⟨e,?_⟩;rw[<-e,Int.mul_add]at h2;omega
theorem aoK(z:Int):decide (0 < bI z)=decide (0 < z):=by
 rw[decide_eq_decide];unfold bI;repeat' split <;> omega
theorem agl(z:Int):decide (0<=bI z)=decide (0<=z):=by
 rw[decide_eq_decide];unfold bI;repeat' split <;> omega
theorem ajT(z:Int):decide (bI z=0)=decide (z=0):=by
 rw[decide_eq_decide];unfold bI;repeat' split <;> omega
theorem auu{l l':List Atom}{x y:Int}{k m:Nat}[h:ZI l x k][h':ZI l' y m](hk:k+m<=1099511627760):ah prog 213 [.agg l,.agg l'] (.tup [.agg (zN (zeq x y)),.agg (zN (zer x y)),.one (.c (.val (.bool (decide (y≠0)))))]):=by
 refine z2 ⟨_,func213,rfl,rfl⟩ fun neg n neg2 n2 hz hz2 hn hn2=>?_
 refine ah.fn func213 results213 ntmps213 rfl rfl rfl zd rfl fun _ _ _ _ _=>?_
 have hbx:Bd x k:=by rw[hz];infer_instance
 have hby:Bd y m:=by rw[hz2];infer_instance
 by_cases hy:y=0
 ·have hok:decide (y≠0)=false:=by simp[hy]
  have hok2:(!decide (y≠0))=true:=by simp[hy]
  rw[hz2]at hok hok2;subst hz hz2;repeat(first|refine zg ?_|(refine SX.Go1.is ?_;refine SX.Go1.eO ?_;first
     |refine SX.Go1.call rfl (zQuo zE) rfl rfl ?_))
  refine aD.eq3 aj.gV aj.gV (aj.tmp rfl) ?_ ?_ rfl
  ·have:zeq (sgn neg n) (sgn neg2 n2)=(sgn neg n).tdiv (sgn neg2 n2):=by unfold zeq;rw[if_pos hy,hy,Int.tdiv_zero]
   rw[this]
  ·have:zer (sgn neg n) (sgn neg2 n2)=rC (sgn neg n) (sgn neg2 n2):=by unfold zer rC;rw[if_pos hy,if_pos hy]
   rw[this]
 ·have hok:decide (y≠0)=true:=by simp[hy]
  have hok2:(!decide (y≠0))=false:=by simp[hy]
  rw[hz2]at hok hok2;subst hz hz2;have hr:rC (sgn neg n) (sgn neg2 n2)=(sgn neg n).tmod (sgn neg2 n2):=by unfold rC;rw[if_neg hy]
  have bq:Bd ((sgn neg n).tdiv (sgn neg2 n2)) k:=inferInstance;have br:Bd ((sgn neg n).tmod (sgn neg2 n2)) k:=by rw[<-hr];infer_instance
  repeat(first|refine zg ?_|(refine SX.Go1.is ?_;refine SX.Go1.eO ?_;first
     |refine SX.Go1.call rfl (zQuo zE) rfl rfl ?_
     |refine SX.Go1.call rfl (abv zE) rfl rfl ?_))
  rw[agl,hr];refine WP.cond rfl (fun hc=>?_) (fun hc=>?_)
  ·obtain⟨e1,e2⟩:=ahy hy (by simpa using hc)
   repeat(first|refine zg ?_)
   refine aD.eq3 aj.gV aj.gV (aj.tmp rfl) ?_ ?_ rfl
   ·unfold zeq;rw[if_neg hy,e1]
   ·unfold zer;rw[if_neg hy,e2]
  ·obtain⟨e1,e2⟩:=ahc hy (by simpa using hc)
   repeat(first|refine zg ?_|(refine SX.Go1.is ?_;refine SX.Go1.eO ?_;first
      |refine SX.Go1.call rfl (abv zE) rfl rfl ?_))
   rw[aoK];refine WP.cond rfl (fun hc2=>?_) (fun hc2=>?_)
   ·obtain⟨e1,e2⟩:=e1 (by simpa using hc2)
    repeat(first|refine zg ?_|(refine SX.Go1.is ?_;refine SX.Go1.eO ?_;first
       |refine SX.Go1.call rfl (zOne) rfl rfl ?_
       |refine SX.Go1.call rfl (zSub zE) rfl rfl ?_
       |refine SX.Go1.call rfl (zAdd zE) rfl rfl ?_))
    refine aD.eq3 aj.gV aj.gV (aj.tmp rfl) ?_ ?_ ?_
    ·unfold zeq;rw[if_neg hy,e1]
    ·unfold zer;rw[if_neg hy,e2]
    ·rw[hok]
   ·obtain⟨e1,e2⟩:=e2 (by simp at hc2;omega)
    repeat(first|refine zg ?_|(refine SX.Go1.is ?_;refine SX.Go1.eO ?_;first
       |refine SX.Go1.call rfl (zOne) rfl rfl ?_
       |refine SX.Go1.call rfl (zSub zE) rfl rfl ?_
       |refine SX.Go1.call rfl (zAdd zE) rfl rfl ?_))
    refine aD.eq3 aj.gV aj.gV (aj.tmp rfl) ?_ ?_ ?_
    ·unfold zeq;rw[if_neg hy,e1]
    ·unfold zer;rw[if_neg hy,e2]
    ·rw[hok]
end
section
attribute [local irreducible] IntKind.wrap bitLen mF nval Go1 Reg WP aO aR bM aD aj ak aX Sat
attribute [local irreducible] sgn bI rC zfq zfr
def afR(x y:Int):Int:=if y < 0 then zfq (-x+ -x+ -y) (-y+ -y)else zfq (x+x+y) (y+y)
theorem zN0:AV0.imp (.agg [.c (.val (.bool false)),.c (.val (.slice none 0 0))]) (.agg (zN 0)):=by
 rintro E S w v ⟨vs,hv,hall⟩
 match vs,hall with
 |[a,b],⟨h1,h2,_⟩=>
  refine⟨[a,b],hv,h1,?_,trivial⟩;rw[show b=_ from h2]
  exact bN.zero
def nH(x y:Int):Bool:=decide (y≠0)&&decide (rC x y=0)
def eX(x y:Int):Int:=if nH x y then x.tdiv y else 0
instance Bd.eX(x y:Int)(k:Nat)[h:Bd x k]:Bd (eX x y) k:=⟨by
 unfold Proofs.YtjnhnbgpifohjaaGreatDoor.eX
 split
 ·exact(Bd.tdiv x y k).h
 ·exact zqf zc (gQ _)⟩
theorem ay1{l l':List Atom}{x y:Int}{k m:Nat}[h:ZI l x k][h':ZI l' y m](hk:k+m<=1099511627760):ah prog 109 [.agg l,.agg l'] (.tup [.agg (zN (eX x y)),.one (.c (.val (.bool (nH x y))))]):=by
 refine z2 ⟨_,func109,rfl,rfl⟩ fun neg n neg2 n2 hz hz2 hn hn2=>?_
 refine ah.fn func109 results109 ntmps109 rfl rfl rfl zd rfl fun _ _ _ _ _=>?_
 by_cases hy:y=0
 ·have hok:decide (y≠0)=false:=by simp[hy]
  have hok2:(!decide (y≠0))=true:=by simp[hy]
  have he:nH x y=false:=by unfold nH;rw[hok];rfl
  have hq:eX x y=0:=by unfold eX;rw[he];rfl
  rw[he,hq];rw[hz2]at hok hok2;subst hz hz2;repeat(first|refine zg ?_|(refine SX.Go1.is ?_;refine SX.Go1.eO ?_;first
     |refine SX.Go1.call rfl (zQuo zE) rfl rfl ?_))
  exact aD.mk2 (aj.imp aj.gV zN0) (aj.tmp rfl)
 ·have hok:decide (y≠0)=true:=by simp[hy]
  have hok2:(!decide (y≠0))=false:=by simp[hy]
  rw[hz2]at hok hok2;subst hz hz2;repeat(first|refine zg ?_|(refine SX.Go1.is ?_;refine SX.Go1.eO ?_;first
     |refine SX.Go1.call rfl (zQuo zE) rfl rfl ?_
     |refine SX.Go1.call rfl (abv zE) rfl rfl ?_))
  have hne:decide (bI (rC (sgn neg n) (sgn neg2 n2))≠0)=decide (rC (sgn neg n) (sgn neg2 n2)≠0):=by
   have:=ajT (rC (sgn neg n) (sgn neg2 n2));rw[decide_eq_decide]at*;omega
  rw[hne];refine WP.cond rfl (fun hc=>?_) (fun hc=>?_)
  ·have hz0:rC (sgn neg n) (sgn neg2 n2)≠0:=by simpa using hc
   have he:nH (sgn neg n) (sgn neg2 n2)=false:=by unfold nH;simp[hz0]
   have hq:eX (sgn neg n) (sgn neg2 n2)=0:=by unfold eX;rw[he];rfl
   rw[he,hq];repeat(first|refine zg ?_)
   exact aD.mk2 (aj.imp aj.gV zN0) (aj.tmp rfl)
  ·have hz0:rC (sgn neg n) (sgn neg2 n2)=0:=by simpa using hc
   have he:nH (sgn neg n) (sgn neg2 n2)=true:=by unfold nH;rw[hok];simp[hz0]
   have hq:eX (sgn neg n) (sgn neg2 n2)=(sgn neg n).tdiv (sgn neg2 n2):=by unfold eX;rw[he];rfl
   rw[he,hq];repeat(first|refine zg ?_)
   exact aD.mk2 aj.gV (aj.tmp rfl)
theorem ao2(n:Nat):sgn false n=(n:Int):=by unfold sgn;simp
theorem zGcd{l l':List Atom}{x y:Int}{k m:Nat}[h:ZI l x k][h':ZI l' y m](hk:k+m<=1099511627760):ah prog 89 [.agg l,.agg l'] (.agg (zN (Int.gcd x y:Int))):=by
 refine z2 ⟨_,func89,rfl,rfl⟩ fun neg n neg2 n2 hz hz2 hn hn2=>?_
 subst hz hz2;rw[show (Int.gcd (sgn neg n) (sgn neg2 n2):Int)=sgn false (Nat.gcd n n2)by rw[ao2];unfold Int.gcd;rw[jm,jm]]
 refine ah.fn func89 results89 ntmps89 rfl rfl rfl zd rfl fun _ _ _ _ _=>?_
 repeat(first|refine zg ?_|(refine SX.Go1.is ?_;refine SX.Go1.eO ?_;first
    |refine SX.Go1.call rfl (dGcd zE) rfl rfl ?_
    |refine SX.Go1.call rfl (qV _ zE) rfl rfl ?_))
 exact aD.eq1 aj.gV rfl
instance BdN.igcd(x y:Int)(k m:Nat)[hx:Bd x k][hy:Bd y m]:BdN (Int.gcd x y) (k+m):=⟨(BdN.gcd x.natAbs y.natAbs k m).h⟩
end
section
attribute [local irreducible] IntKind.wrap bitLen mF nval Go1 Reg WP aO aR bM aD aj ak aX Sat
theorem atS{a:CA}{x k:Nat}[ha:NI a x k](hk:k+k<=274877906944):ah prog 572 [.it (.one (.c a))] (.r (bN (x*x))):=by
 refine ah.fn func572 results572 ntmps572 rfl rfl rfl zd rfl fun _ _ _ _ _=>?_
 repeat(first|refine zg ?_|(refine SX.Go1.is ?_;refine SX.Go1.eO ?_;first
    |refine SX.Go1.call rfl (mMul zE) rfl rfl ?_))
 exact aD.eq1 (aj.tmp rfl) rfl
def afb(x:Nat)(n:Int):Bool:=decide (0<=n)&&(decide (bitLen x=0)||decide (n<=((1048576 / bitLen x:Nat):Int)))
def aku(x:Nat)(n:Int):Nat:=if afb x n=true then x ^ n.toNat else 0
theorem axQ{x e N b K W:Nat}(hW:1 < W)(hx:x < 2 ^ b)(he:e<=N)(hN:N*b<=64*K)(hK:0 < K)(hw:W=2 ^ 64):x ^ e < W ^ K:=by
 subst hw;rw[<-Nat.pow_mul];cases e with
 |zero=>rw[Nat.pow_zero];exact Nat.one_lt_two_pow zE
 |succ e=>
  refine zqf (Nat.pow_lt_pow_left hx zE) ?_
  rw[<-Nat.pow_mul];exact zx2 zE (zxf (by rw[zxj];exact zx1 b he) hN)
@[irreducible] def pwK:Nat:=16384
theorem atg:pwK=16384:=by unfold pwK;rfl
theorem ax0{x e N:Nat}(he:e<=N)(hN:N*bitLen x<=1048576):BdN (x ^ e) pwK:=⟨axQ (K:=pwK) uW (bitLen_spec x).1 he (by rw[atg];omega) (by rw[atg];omega) lg⟩
attribute [local irreducible] afb aku
theorem aly(x:Nat)(n:Int):aku x n < WB ^ pwK:=by
 unfold aku
 split
 ·rename_i h;unfold afb at h;simp only[zx4,Bool.or_eq_true,decide_eq_true_eq]at h;refine(ax0 (N:=n.toNat) (zq6 _) ?_).h;rcases h.2 with hb|hb
  ·rw[hb];omega
  ·have h5:n.toNat<=1048576 / bitLen x:=zE
   exact zxf (zx1 _ h5) (Nat.div_mul_le_self ..)
 ·exact zqf zc (gQ pwK)
instance BdN.aku(x:Nat)(n:Int):BdN (aku x n) pwK:=⟨aly x n⟩
def ae2(z:Int)(n:Int):Int:=if afb z.natAbs n=true then z ^ n.toNat else 0
theorem aui(neg:Bool)(x:Nat)(n:Int):sgn (neg&&decide (n.tmod 2≠0)) (aku x n)=ae2 (sgn neg x) n:=by
 unfold aku ae2;rw[jm]
 split
 ·rename_i h;have h0:0<=n:=by unfold afb at h;simp at h;exact h.1
  have ht:n.tmod 2=((n.toNat % 2:Nat):Int):=by rw[Int.tmod_eq_emod_of_nonneg h0];omega
  unfold sgn;cases neg
  ·simp
  ·rcases Nat.mod_two_eq_zero_or_one n.toNat with e|e
   ·rw[ht,e];simp;rw[show (-(x:Int)) ^ n.toNat=(x:Int) ^ n.toNat from ?_]
    obtain⟨m,hm⟩:∃m,n.toNat=2*m:=⟨n.toNat / 2,zE⟩
    rw[hm,Int.pow_mul,Int.pow_mul];congr 1;simp[Int.pow_succ,Int.neg_mul_neg]
   ·rw[ht,e];simp;obtain⟨m,hm⟩:∃m,n.toNat=2*m+1:=⟨n.toNat / 2,zE⟩
    rw[hm,Int.pow_succ,Int.pow_succ,Int.pow_mul,Int.pow_mul,show (-(x:Int)) ^ 2=(x:Int) ^ 2 by simp[Int.pow_succ,Int.neg_mul_neg],Int.mul_neg]
 ·unfold sgn;simp
instance Bd.ae2(z:Int)(n:Int):Bd (ae2 z n) pwK:=⟨by
 have h:=aui (decide (z < 0)) z.natAbs n;rw[abG]at h;rw[<-h,jm];exact aly _ _⟩
attribute [local irreducible] sgn ae2
end
section
def kK:Nat->Nat->List UInt8
 |0,_=>[]
 |n+1,x=>kK n (x / 10)++[UInt8.ofNat (48+x % 10)]
theorem zX:∀n x,(kK n x).length=n
 |0,_=>rfl
 |n+1,x=>by rw[kK,zqi,zX n];rfl
theorem ai6:∀(m n x:Nat),kK (n+m) x=kK n (x / 10 ^ m)++kK m (x % 10 ^ m)
 |0,n,x=>by simp[kK]
 |m+1,n,x=>by
  have e1:x / 10 ^ (m+1)=x / 10 / 10 ^ m:=by rw[Nat.div_div_eq_div_mul,zyf,zxj]
  have e2:x % 10 ^ (m+1) / 10=x / 10 % 10 ^ m:=by rw[zyf,zxj,Nat.mod_mul_right_div_self]
  have e3:x % 10 ^ (m+1) % 10=x % 10:=by rw[zyf,zxj,Nat.mod_mul_right_mod]
  rw[<-Nat.add_assoc,kK,ai6 m n,kK,e1,e2,e3,zqj]
def dig(x:Nat):List UInt8:=if h:x=0 then []else dig (x / 10)++[UInt8.ofNat (48+x % 10)]
decreasing_by omega
theorem kU:dig 0=[]:=by rw[dig];rfl
theorem rD{x:Nat}(h:x≠0):dig x=dig (x / 10)++[UInt8.ofNat (48+x % 10)]:=by rw[dig,dif_neg h]
theorem afx:∀n,(kK n 0).all (· ==48)=true
 |0=>rfl
 |n+1=>by rw[kK,List.all_append,show 0 / 10=0 from rfl,afx n];decide
theorem wS{p:UInt8->Bool}:∀{l:List UInt8},l.all p=true->∀m,(l++m).dropWhile p=m.dropWhile p
 |[],_,m=>rfl
 |a::l,h,m=>by
  rw[List.all_cons,zx4]at h;rw[List.cons_append,List.dropWhile_cons,if_pos h.1];exact wS h.2 m
theorem aad{p:UInt8->Bool}:∀{l:List UInt8} (m:List UInt8),l.dropWhile p≠[]->(l++m).dropWhile p=l.dropWhile p++m
 |[],m,h=>absurd rfl h
 |a::l,m,h=>by
  rw[List.cons_append,List.dropWhile_cons,List.dropWhile_cons]at*;cases hp:p a
  ·simp
  ·simp only[hp,if_true]at h ⊢;exact aad m h
theorem aki{x:Nat}(h:x≠0):dig x≠[]:=by rw[rD h];simp
theorem auW{d:Nat}(h0:d≠0)(h1:d < 10):(UInt8.ofNat (48+d)==48)=false:=by
 rw[beq_eq_false_iff_ne];intro e;have:=congrArg UInt8.toNat e;rw[UInt8.toNat_ofNat']at this;have h48:(48:UInt8).toNat=48:=rfl;omega
theorem aaR:∀(n x:Nat),x < 10 ^ n->(kK n x).dropWhile (· ==48)=dig x
 |0,x,h=>by
  have:x=0:=by simpa using h
  subst this;rw[kU];rfl
 |n+1,x,h=>by
  have hx:x / 10 < 10 ^ n:=by rw[zyf]at h;omega
  have ih:=aaR n (x / 10) hx;rw[kK];by_cases h0:x / 10=0
  ·rw[h0,wS (afx n)];by_cases hx0:x=0
   ·subst hx0;rw[kU];decide
   ·rw[rD hx0,h0,kU,List.dropWhile_cons,auW zE zE];rfl
  ·rw[aad _ (by rw[ih];exact aki h0),ih,<-rD zE]
def nD:Nat->Nat
 |0=>18
 |j+1=>nD j+nD j
def pw(j:Nat):Nat:=10 ^ nD j
theorem alQ:pw 0=1000000000000000000:=rfl
theorem ag7(j:Nat):pw (j+1)=pw j*pw j:=by unfold pw;rw[nD,zw5]
theorem ap1(j:Nat):0 < pw j:=Nat.pow_pos zc
theorem aez:∀j,j+18<=nD j
 |0=>zq6 _
 |j+1=>by have:=aez j;rw[nD];omega
instance BdN.pw(j:Nat):BdN (pw j) (nD j):=⟨by
 show 10 ^ nD j < WB ^ nD j;exact Nat.pow_lt_pow_left (by rw[bJ];decide) (by have:=aez j;omega)⟩
theorem abW(j:Nat):nD j<=bitLen (pw j):=by
 have h:=(bitLen_spec (pw j)).1;have h2:2 ^ nD j<=pw j:=Nat.pow_le_pow_left zc _
 exact Nat.le_of_lt ((Nat.pow_lt_pow_iff_right zc).1 (zxb h2 h))
theorem agB{x k:Nat}(h:x < WB ^ k):bitLen x<=64*k:=by
 have hs:=(bitLen_spec x).2;by_cases h0:x=0
 ·subst h0;exact zq8 _
 ·have h1:=hs h0;have e:WB ^ k=2 ^ (64*k):=by rw[Nat.pow_mul];rfl
  rw[e]at h;have:=(Nat.pow_lt_pow_iff_right (a:=2) zc).1 (zxb h1 h)
  omega
def pwM(x:Nat):Nat->Nat->Nat
 |0,j=>j
 |f+1,j=>if 2*bitLen (pw j)<=bitLen x+1 then pwM x f (j+1)else j
def pwm(x:Nat):Nat:=pwM x (bitLen x+2) 0
theorem anS{x j:Nat}(h:¬2*bitLen (pw j)<=bitLen x+1):x < pw (j+1):=by
 have h1:=(bitLen_spec x).1;have h2:=(bitLen_spec (pw j)).2 (Nat.ne_of_gt (ap1 j));have h3:=abW j;have h4:=aez j;rw[ag7];refine zqf h1 (zxf ?_ (zxd h2 h2));rw[<-zw5];exact zx2 zc zE
def aY(x:Nat):List UInt8:=if x=0 then [48]else dig x
theorem ag8{x n:Nat}(h:x < 10 ^ n):(dig x).length<=n:=by
 rw[<-aaR n x h];exact zxf (List.dropWhile_sublist _).length_le (Nat.le_of_eq (zX n x))
end
attribute [local irreducible] IntKind.wrap Go1 Reg WP aO aR bM bK aN aD aj ak aX Sat
section
attribute [local irreducible] kK pw nD pwM pwm aY
section
variable{a b:CA}{x y k m:Nat}
instance aaP[ha:NI a x k]:Con prog 102 [.it (.one (.c a))] (k<=1099511627775) (.v (.int .i64 (bitLen x:Int))):=⟨fun h=>ahS h⟩
instance avW[ha:NI a x k]:Con prog 572 [.it (.one (.c a))] (k+k<=274877906944) (.r (bN (x*x))):=⟨fun h=>atS h⟩
end
theorem axP(x:Nat):kK 0 x=[]:=by unfold kK;rfl
theorem awM(n x:Nat):kK (n+1) x=kK n (x / 10)++[UInt8.ofNat (48+x % 10)]:=by rw[kK]
theorem pureS{f:FuncId}{args:List Value}{r:Value}(he:∃fn,prog.funcs[f]? =some fn/\(fn.name== "runtime.NumGoroutine")=false/\fn.body.isNone=false)(h:∀w,Calls prog f args.toArray w fun e w'=>e= .returned r/\w'=w):ah prog f (args.map AV.v) (.v r):=
 ah.jH he rfl fun E S w vs hl hv=>by
  have hvs:vs=args:=by
   clear h
   induction args generalizing vs with
   |nil=>cases vs with|nil=>rfl|cons _ _=>exact hv.elim
   |cons a l ih=>cases vs with|nil=>exact hv.elim|cons b m=>rw[ih m hv.2,show b=a from hv.1]
  subst hvs;exact(h w).mono fun e w' ⟨h1,h2⟩=>⟨r,h1,rfl,by subst h2;exact Off.refl _ _⟩
theorem ayD(d:Nat):((UInt8.ofNat (48+d % 10)).toNat:Int)=((48+d % 10:Nat):Int):=by
 rw[UInt8.toNat_ofNat'];omega
theorem asj(x:Nat)(hx:x < WB):pq prog 571 [.v (.int .u64 (x:Int))] 5 1 18 ((kK 18 x).flatMap mg):=by
 rw[bJ]at hx;refine pq.fnF func571 results571 ntmps571 rfl rfl rfl zd fun _ _ _ _ _=>?_
 refine zg ?_;refine W.aeN (fun(k y:Nat) (tl:List UInt8)=>k+tl.length=18/\y < 18446744073709551616/\kK k y++tl=kK 18 x) (fun k y tl=>[(0,.v (.int .u64 (y:Int))),(3,.own 100),(4,.v (.int .i64 ((k:Int) - 1)))])
  (fun k y tl=>[(100,.row 5 1 18 ((List.replicate k 0++tl).flatMap mg))]) (fun k _ _=>k) 18 x [] ⟨rfl,hx,by simp⟩ (fun k y tl ⟨hk,hy,hd⟩=>?_)
 cases k with
 |zero=>
  have e:(List.replicate 0 0++tl).flatMap mg=(kK 18 x).flatMap mg:=by rw[<-hd,axP];rfl
  refine zg ?_;exact retO
 |succ k=>
  rw[show ((k+1:Nat):Int) - 1=(k:Int)by omega]
  have e:spl ((List.replicate (k+1) 0++tl).flatMap mg) (k*1) [.val (.int .u8 ((48+y % 10:Nat):Int))]=(List.replicate k 0++(UInt8.ofNat (48+y % 10)::tl)).flatMap mg:=by
   rw[<-ayD,show [CA.val (.int .u8 ((UInt8.ofNat (48+y % 10)).toNat:Int))]=mg (UInt8.ofNat (48+y % 10))from rfl,uV _ _ _ (by simp;omega),List.replicate_succ']
   congr 1
   rw[zqj,List.set_append_right _ _ zp]
   simp
  refine zg ?_
  -- ??
  exact W.adi k (y / 10) (UInt8.ofNat (48+y % 10)::tl) ⟨by simp at hk ⊢;omega,zE,by rw[<-hd,awM];simp⟩ zE
def afS(n:Nat):List CA:=[.sat (bN n)]
instance:fF afS 1:=⟨fun _=>rfl⟩
def pws(j:Nat):List Nat:=(List.range j).map pw
theorem agT(j:Nat):(pws j).length=j:=by simp[pws]
theorem alM{i j:Nat}(h:i < j):(pws j)[i]? =some (pw i):=by simp[pws,h]
theorem aqz{i j:Nat}(h:i<=j):(pws j).take i=pws i:=by
 unfold pws;rw[<-List.map_take,List.take_range,zv9 h]
theorem at6(j:Nat):pws (j+1)=pws j++[pw j]:=by simp[pws,List.range_succ]
theorem asX:pw 0=1000000000000000000:=alQ
theorem ajQ{a:CA}{x k:Nat}[ha:NI a x k](hx:x < WB ^ k)(hk:k<=1000000000):ah prog 561 [.it (.one (.c a))] (.r (aA 1 afS (pws (pwm x+1)))):=by
 have cO:ah prog 60 [.v (.int .u64 1000000000000000000)] (.r (bN (pw 0))):=by rw[alQ];exact nOf 1000000000000000000 (by rw[bJ];decide)
 have hb:=agB hx;have mark:acL 5:=⟨⟩;have e0:[CA.sat (bN (pw 0))]=(pws (0+1)).flatMap afS:=rfl;refine ah.fq func561 results561 ntmps561 fun _ _ _ _ _=>?_
 refine zg ?_;have hpm:pwM x (bitLen x+2) 0=pwm x:=by unfold pwm;rfl
 refine W.pF (fun(j f:Nat)=>(j=0\/nD j<=bitLen x+1)/\pwM x f j=pwm x/\f+j=bitLen x+2) (fun j f=>[(0,.it (.one (.c a))),(3,.own 100)]) (fun j f=>[(100,.row 29 1 (j+1) ((pws (j+1)).flatMap afS))]) (fun j f=>f) 0 (bitLen x+2) ⟨.inl rfl,hpm,rfl⟩ (fun j f ⟨h1,h2,h3⟩=>?_)
 have hn:nD j<=64000000001:=by
  rcases h1 with rfl|h1
  ·have:nD 0=18:=by unfold nD;rfl
   omega
  ·omega
 have hg:(pws (j+1))[j+1 - 1]? =some (pw j):=alM zE
 have hbp:=abW j;have hbj:=aez j;have hbu:=agB (BdN.pw j).h;by_cases hq:2*bitLen (pw j)<=bitLen x+1
 ·cases f with
  |zero=>exact absurd hq zE
  |succ f=>
   have e1:(pws (j+1)).flatMap afS++[CA.sat (bN (pw j*pw j))]=(pws (j+1+1)).flatMap afS:=by
    rw[at6 (j+1),zvc,ag7];rfl
   have h2':pwM x f (j+1)=pwm x:=by rw[<-h2];conv=>rhs;unfold pwM;rw[if_pos hq]
   have hs:nD (j+1)=nD j+nD j:=by conv=>lhs;unfold nD
   refine zg ?_;exact W.nR (j+1) f ⟨.inr zE,h2',zE⟩ zE
 ·have hjm:j=pwm x:=by
   rw[<-h2];cases f with
   |zero=>unfold pwM;rfl
   |succ f=>conv=>rhs;unfold pwM;rw[if_neg hq]
  refine zg ?_;refine aN.frz 100 ?_;refine zY ?_;rw[<-hjm];show AV0.imp _ (.one (.c (.sat (aQ 1 (pws (j+1)).length ((pws (j+1)).flatMap afS)))));rw[agT];exact zv _
theorem xU:∀(j:Nat) {a:CA} {x k:Nat} [ha:NI a x k] (L:List Nat),L=pws j->x < pw j->nD j<=200000000000->k<=500000000000->
  pq prog 560 [.it (.one (.c a)),.r (aA 1 afS L)] 5 1 (nD j) ((kK (nD j) x).flatMap mg)
 |0,a,x,k,ha,L,hL,hx,hn,hk=>by
  have e18:nD 0=18:=by unfold nD;rfl
  have hxw:x < WB:=by rw[asX]at hx;rw[bJ];omega
  have cW:=ahG (a:=a) (x:=x) (k:=k) zE
  rw[if_pos hxw]at cW;have cw:=asj x hxw;have hl0:L.length=0:=by rw[hL,agT]
  rw[e18];refine pq.fnF func560 results560 ntmps560 rfl rfl rfl zd fun w0 T B E0 hB=>?_
  refine zg ?_;exact retO
 |j+1,a,x,k,ha,L,hL,hx,hn,hk=>by
  have hs:nD (j+1)=nD j+nD j:=by conv=>lhs;unfold nD
  have hj:=aez j;have hl1:L.length=j+1:=by rw[hL,agT]
  have hg:L[L.length - 1]? =some (pw j):=by rw[hl1,hL];exact alM zE
  have ht:L.take (L.length - 1)=pws j:=by rw[hl1,hL];exact aqz zE
  have hp:=ap1 j;rw[ag7]at hx;have hq:x / pw j < pw j:=Nat.div_lt_of_lt_mul hx;have hr:x % pw j < pw j:=zyi _ hp;have cD:=agp (a:=a) (x:=x) (k:=k) (b:= .sat (bN (pw j))) (y:=pw j) (m:=nD j) zE
  rw[if_neg zE]at cD
  haveI b1:BdN (x / pw j) (nD j):=⟨Nat.lt_trans hq (BdN.pw j).h⟩
  haveI b2:BdN (x % pw j) (nD j):=⟨Nat.lt_trans hr (BdN.pw j).h⟩
  have c1:=xU j (a:= .sat (bN (x / pw j))) (k:=nD j) (L.take (L.length - 1)) ht hq zE zE
  have c2:=(xU j (a:= .sat (bN (x % pw j))) (k:=nD j) (L.take (L.length - 1)) ht hr zE zE).pure
  have e1:(kK (nD j) (x / pw j)).flatMap mg++(kK (nD j) (x % pw j)).flatMap mg=(kK (nD j+nD j) x).flatMap mg:=by
   rw[ai6,zvc,show 10 ^ nD j=pw j by unfold pw;rfl]
  rw[hs];refine pq.fnF func560 results560 ntmps560 rfl rfl rfl zd fun w0 T B E0 hB=>?_
  refine zg ?_;exact retO
theorem agH(l:List UInt8):ah prog 559 [.v (str l),.v (str [48])] (.v (str (l.dropWhile (· ==48)))):=
 pureS (args:=[str l,str [48]]) ⟨_,func559,rfl,rfl⟩ fun w=>(strings_TrimLeft_one ⟨⟨l⟩⟩ 48 zc w).mono fun e w' ⟨h1,h2⟩=>⟨h1,h2⟩
theorem atE(x:Nat):x < pw (pwm x+1):=by
 have key:∀(f j:Nat),f+j=bitLen x+2->¬2*bitLen (pw (pwM x f j))<=bitLen x+1:=by
  intro f
  induction f with
  |zero=>
   intro j hj;have h1:=abW j;have h2:=aez j;unfold pwM;omega
  |succ f ih=>
   intro j hj;unfold pwM
   split
   ·exact ih (j+1) zE
   ·assumption
 have:=key (bitLen x+2) 0 rfl;exact anS (by unfold pwm;exact this)
theorem ayb{x k:Nat}(hx:x < WB ^ k)(hk:k<=1000000000):nD (pwm x+1)<=200000000000:=by
 have hb:=agB hx;have key:∀(f j:Nat),(j=0\/nD j<=bitLen x+1)->nD (pwM x f j)<=64000000001:=by
  intro f
  induction f with
  |zero=>
   intro j hj;unfold pwM;rcases hj with rfl|hj
   ·have:nD 0=18:=by unfold nD;rfl
    omega
   ·omega
  |succ f ih=>
   intro j hj;unfold pwM
   split
   ·rename_i h;have h1:=abW j;exact ih (j+1) (.inr (by
                  conv=>lhs;unfold nD
                  omega))
   ·rcases hj with rfl|hj
    ·have:nD 0=18:=by unfold nD;rfl
     omega
    ·omega
 have h1:=key (bitLen x+2) 0 (.inl rfl);have h2:nD (pwm x+1)=nD (pwm x)+nD (pwm x):=by conv=>lhs;unfold nD
 have h3:nD (pwm x)<=64000000001:=by unfold pwm;exact h1
 omega
theorem aoY{a:CA}{x k:Nat}[ha:NI a x k](hx:x < WB ^ k)(hk:k<=1000000000):ah prog 550 [.it (.one (.c a))] (.v (str (aY x))):=by
 have cP:=ajQ (a:=a) hx hk;have cD:=(xU (pwm x+1) (a:=a) (k:=k) (pws (pwm x+1)) rfl (atE x) (ayb hx hk) zE).pure
 have el:nD (pwm x+1)=(kK (nD (pwm x+1)) x).length:=(zX _ _).symm;have cD':ah prog 560 [.it (.one (.c a)),.r (aA 1 afS (pws (pwm x+1)))] (.r (aA 1 mg (kK (nD (pwm x+1)) x))):=by
  show ah _ _ _ (.r (aQ 1 (kK (nD (pwm x+1)) x).length _));rw[zX];exact cD
 clear cD;have cT:=agH (kK (nD (pwm x+1)) x);have hd:=aaR (nD (pwm x+1)) x (by have:=atE x;unfold pw at this;exact this)
 rw[hd]at cT;have hS:aY x=if x=0 then [48]else dig x:=by unfold aY;rfl
 refine ah.fq func550 results550 ntmps550 fun _ _ _ _ _=>?_
 by_cases h0:x=0
 ·have hz:decide (dig x=[])=true:=by subst h0;rw[kU];rfl
  refine zg ?_;refine akT ?_;rw[hS,if_pos h0]
 ·have hz:decide (dig x=[])=false:=decide_eq_false (aki h0);refine zg ?_;refine akT ?_;rw[hS,if_neg h0]
end
section
section
variable{l l':List Atom}{a:CA}{x y:Int}{n k m:Nat}
instance rA[h:ZI l x k]:Con prog 62 [.agg l] (k<=1099511627775) (.v (.int .i64 (bI x))):=⟨fun h=>abv h⟩
instance ar0[h:ZI l x k]:Con prog 55 [.agg l] (k<=1099511627775) (.agg (zN (-x))):=⟨fun h=>zNeg h⟩
instance kC:Con prog 18 [.v (.int .i64 x)] (-9223372036854775808<=x/\x<=9223372036854775807) (.agg (zN x)):=⟨fun h=>zOf x h.1 h.2⟩
instance aiW[h:ZI l x k][h':ZI l' y m]:Con prog 88 [.agg l,.agg l'] (k+m<=1099511627774) (.agg (zN (x+y))):=⟨fun h=>zAdd h⟩
instance ajn[h:ZI l x k][h':ZI l' y m]:Con prog 75 [.agg l,.agg l'] (k+m<=1099511627774) (.agg (zN (x - y))):=⟨fun h=>zSub h⟩
instance ad4[h:ZI l x k][h':ZI l' y m]:Con prog 58 [.agg l,.agg l'] (k+m<=274877906944) (.agg (zN (x*y))):=⟨fun h=>zMul h⟩
instance aaQ[h:ZI l x k][h':ZI l' y m]:Con prog 72 [.agg l,.agg l'] (k+m<=1099511627774) (.v (.bool (decide (x=y)))):=⟨fun h=>zSame h⟩
instance gq[h:ZI l x k]:Con prog 314 [.agg l] (k<=1099511627775) (.v (.int .i64 (bitLen x.natAbs:Int))):=⟨fun h=>zBits h⟩
instance acw[h:ZI l x k][h':ZI l' y m]:Con prog 109 [.agg l,.agg l'] (k+m<=1099511627760) (.tup [.agg (zN (eX x y)),.one (.c (.val (.bool (nH x y))))]):=⟨fun h=>ay1 h⟩
instance ada[h:ZI l x k][h':ZI l' y m]:Con prog 89 [.agg l,.agg l'] (k+m<=1099511627760) (.agg (zN (Int.gcd x y:Int))):=⟨fun h=>zGcd h⟩
instance aeA[h:NI a n k](neg:Bool):Con prog 50 [.it (.one (.c a)),.v (.bool neg)] (k<=1099511627775) (.agg (zN (sgn neg n))):=⟨fun h=>qV neg h⟩
end
theorem agQ(z:Int):bI z=0↔z=0:=by unfold bI;(repeat' split) <;> omega
theorem akh(z:Int):bI z < 0↔z < 0:=by unfold bI;(repeat' split) <;> omega
theorem ajG(a b:Int):IntKind.i64.wrap (bI a*bI b)=bI (a*b):=by
 have h:bI a*bI b=bI (a*b):=by
  unfold bI;by_cases ha:a=0
  ·simp[ha]
  ·by_cases hb:b=0
   ·simp[hb]
   ·have hab:a*b≠0:=Int.mul_ne_zero ha hb;rw[if_neg ha,if_neg hb,if_neg hab];by_cases h1:a < 0
    ·by_cases h2:b < 0
     ·have:=Int.mul_pos_of_neg_of_neg h1 h2;rw[if_pos h1,if_pos h2,if_neg zE];rfl
     ·have:=Int.mul_neg_of_neg_of_pos h1 (show 0 < b by omega)
      rw[if_pos h1,if_neg h2,if_pos zE];rfl
    ·by_cases h2:b < 0
     ·have:=Int.mul_neg_of_pos_of_neg (show 0 < a by omega) h2
      rw[if_neg h1,if_pos h2,if_pos zE];rfl
     ·have:=Int.mul_pos (show 0 < a by omega) (show 0 < b by omega)
      rw[if_neg h1,if_neg h2,if_neg zE];rfl
 rw[h];have h1: -1<=bI (a*b)/\bI (a*b)<=1:=by unfold bI;(repeat' split) <;> omega
 exact jL zE zE
def zS(z:Int):List UInt8:=if z < 0 then 45::aY z.natAbs else aY z.natAbs
theorem ajj{x k:Nat}(h:x < WB ^ k):(aY x).length<=20*k+1:=by
 unfold aY
 split
 ·simp
 ·have:WB ^ k<=10 ^ (20*k):=by rw[Nat.pow_mul];exact Nat.pow_le_pow_left (by rw[bJ];decide) _
  have:=ag8 (zqf h this);omega
theorem aq0{z:Int}{k:Nat}[h:Bd z k]:(zS z).length<=20*k+2:=by
 have:=ajj h.h;unfold zS;split
 ·rw[zx6];omega
 ·omega
instance ayG{l:List Atom}{z:Int}{k:Nat}[h:ZI l z k]:Con prog 523 [.agg l] (k<=1000000000) (.v (str (zS z))):=⟨fun hk=>by
 refine z1 ⟨_,func523,rfl,rfl⟩ fun neg n hz hn=>?_
 subst hz;have hb:=(inferInstance:BdN n k).h;have cP:=aoY (a:= .sat (afE n k)) hb hk;have hl:=ajj hb;have hS:zS (sgn neg n)=if sgn neg n < 0 then 45::aY n else aY n:=by unfold zS;rw[jm]
 have hs:=akh (sgn neg n);refine ah.fq func523 results523 ntmps523 fun _ _ _ _ _=>?_
 by_cases h0:sgn neg n < 0
 ·refine zg ?_;refine akT ?_;rw[hS,if_pos h0];rfl
 ·refine zg ?_;refine akT ?_;rw[hS,if_neg h0]⟩
def rmk(x y:Int):Int×Int:=if y=0 then(0,1)else if y < 0 then(eX (-x) (Int.gcd (-x) (-y)),eX (-y) (Int.gcd (-x) (-y)))else(eX x (Int.gcd x y),eX y (Int.gcd x y))
abbrev xX(q:Int×Int):List Atom:=[.c (.val (.bool (decide (q.1 < 0)))),.c (.sat (bN q.1.natAbs)),.c (.val (.bool (decide (q.2 < 0)))),.c (.sat (bN q.2.natAbs))]
instance Bd.ata(x y:Int)(k m:Nat)[h:Bd x k][h':Bd y m]:Bd (rmk x y).1 (k+m+1):=⟨by
 unfold rmk;repeat' split
 ·exact Bd.mono (Bd.zero).h zE
 ·exact Bd.mono (Bd.eX (-x) _ k).h zE
 ·exact Bd.mono (Bd.eX x _ k).h zE⟩
instance Bd.at0(x y:Int)(k m:Nat)[h:Bd x k][h':Bd y m]:Bd (rmk x y).2 (k+m+1):=⟨by
 unfold rmk;repeat' split
 ·exact Bd.mono (Bd.one).h zE
 ·exact Bd.mono (Bd.eX (-y) _ m).h zE
 ·exact Bd.mono (Bd.eX y _ m).h zE⟩
instance vQ{l:List Atom}{z:Int}{k:Nat}[h:ZI l z k]:Con prog 14 [.agg l] (k<=1000000000) (.agg (xX (z,1))):=⟨fun hk=>by
 refine z1 ⟨_,func14,rfl,rfl⟩ fun neg n hz hn=>?_
 subst hz;refine ah.fq func14 results14 ntmps14 fun _ _ _ _ _=>?_
 refine zg ?_;exact nM aj.xu rfl⟩
instance ayT:Con prog 108 [] True (.agg (xX (0,1))):=⟨fun hk=>by
 refine ah.fq func108 results108 ntmps108 fun _ _ _ _ _=>?_
 refine zg ?_;exact nM aj.xu rfl⟩
instance ayU{l l':List Atom}{x y:Int}{k m:Nat}[h:ZI l x k][h':ZI l' y m]:Con prog 57 [.agg l,.agg l'] (k+m<=1000000000) (.tup [.agg (xX (rmk x y)),.one (.c (.val (.bool (decide (y≠0)))))]):=⟨fun hk=>by
 refine z2 ⟨_,func57,rfl,rfl⟩ fun neg n neg2 n2 hz hz2 hn hn2=>?_
 subst hz;subst hz2;have hs0:=agQ (sgn neg2 n2);have hsn:=akh (sgn neg2 n2);refine ah.fq func57 results57 ntmps57 fun _ _ _ _ _=>?_
 by_cases h0:sgn neg2 n2=0
 ·refine zg ?_;have e:rmk (sgn neg n) (sgn neg2 n2)=(0,1):=by unfold rmk;rw[if_pos h0]
  rw[e];exact tX aj.xu (aj.tmp rfl) (zv _) (AV0.imp.of_eq (cb (by simp[h0])))
 ·by_cases h1:sgn neg2 n2 < 0
  ·refine zg ?_;have e:rmk (sgn neg n) (sgn neg2 n2)=(eX (-sgn neg n) (Int.gcd (-sgn neg n) (-sgn neg2 n2)),eX (-sgn neg2 n2) (Int.gcd (-sgn neg n) (-sgn neg2 n2))):=by unfold rmk;rw[if_neg h0,if_pos h1]
   rw[e];exact tX aj.xu (aj.tmp rfl) (zv _) (AV0.imp.of_eq (cb (by simp[h0])))
  ·refine zg ?_;have e:rmk (sgn neg n) (sgn neg2 n2)=(eX (sgn neg n) (Int.gcd (sgn neg n) (sgn neg2 n2)),eX (sgn neg2 n2) (Int.gcd (sgn neg n) (sgn neg2 n2))):=by unfold rmk;rw[if_neg h0,if_neg h1]
   rw[e];exact tX aj.xu (aj.tmp rfl) (zv _) (AV0.imp.of_eq (cb (by simp[h0])))⟩
theorem q1{f:FuncId}{r:AV}{x0 x1 x2 x3:Atom}{p q:Int}{k m:Nat}[h:ZI [x0,x1] p k][h':ZI [x2,x3] q m](he:∃fn,prog.funcs[f]? =some fn/\(fn.name== "runtime.NumGoroutine")=false/\fn.body.isNone=false)
  (hf:∀neg n neg' n',p=sgn neg n->q=sgn neg' n'->BdN n k->BdN n' m->ah prog f [.agg (zR neg n k++zR neg' n' m)] r):ah prog f [.agg [x0,x1,x2,x3]] r:=by
 obtain⟨neg,n,hz,hm⟩:=h.h;obtain⟨neg',n',hz',hm'⟩:=h'.h;refine ah.fact (φ:=BdN n k/\BdN n' m) he (fun hb=>hf neg n neg' n' hz hz' hb.1 hb.2) fun E S w vs hv=>?_
 match vs,hv with
 |[_],⟨⟨[v0,v1,v2,v3],rfl,h0,h1,h2,h3,_⟩,_⟩=>
  have a1:=hm E S w _ ⟨[v0,v1],rfl,h0,h1,trivial⟩;have a2:=hm' E S w _ ⟨[v2,v3],rfl,h2,h3,trivial⟩;refine⟨⟨⟨[v0,v1,v2,v3],rfl,?_⟩,trivial⟩,⟨zf a1⟩,⟨zf a2⟩⟩;obtain⟨us,e1,b1⟩:=a1;obtain⟨us',e2,b2⟩:=a2
  match us,us',b1,b2 with
  |[_,_],[_,_],⟨c0,c1,_⟩,⟨d0,d1,_⟩=>
   cases e1;cases e2;exact⟨c0,c1,d0,d1,trivial⟩
theorem q2{f:FuncId}{r:AV}{x0 x1 x2 x3 y0 y1 y2 y3:Atom}{p q p' q':Int}{k m k' m':Nat}[h:ZI [x0,x1] p k][h':ZI [x2,x3] q m][g:ZI [y0,y1] p' k'][g':ZI [y2,y3] q' m'](he:∃fn,prog.funcs[f]? =some fn/\(fn.name== "runtime.NumGoroutine")=false/\fn.body.isNone=false)
  (hf:∀neg n neg' n' neg2 n2 neg3 n3,p=sgn neg n->q=sgn neg' n'->p'=sgn neg2 n2->q'=sgn neg3 n3->BdN n k->BdN n' m->BdN n2 k'->BdN n3 m'->ah prog f [.agg (zR neg n k++zR neg' n' m),.agg (zR neg2 n2 k'++zR neg3 n3 m')] r):ah prog f [.agg [x0,x1,x2,x3],.agg [y0,y1,y2,y3]] r:=by
 obtain⟨neg,n,hz,hm⟩:=h.h;obtain⟨neg',n',hz',hm'⟩:=h'.h;obtain⟨neg2,n2,hz2,hm2⟩:=g.h;obtain⟨neg3,n3,hz3,hm3⟩:=g'.h;refine ah.fact (φ:=BdN n k/\BdN n' m/\BdN n2 k'/\BdN n3 m') he (fun hb=>hf neg n neg' n' neg2 n2 neg3 n3 hz hz' hz2 hz3 hb.1 hb.2.1 hb.2.2.1 hb.2.2.2) fun E S w vs hv=>?_
 match vs,hv with
 |[_,_],⟨⟨[v0,v1,v2,v3],rfl,h0,h1,h2,h3,_⟩,⟨[w0,w1,w2,w3],rfl,i0,i1,i2,i3,_⟩,_⟩=>
  have a1:=hm E S w _ ⟨[v0,v1],rfl,h0,h1,trivial⟩;have a2:=hm' E S w _ ⟨[v2,v3],rfl,h2,h3,trivial⟩;have a3:=hm2 E S w _ ⟨[w0,w1],rfl,i0,i1,trivial⟩;have a4:=hm3 E S w _ ⟨[w2,w3],rfl,i2,i3,trivial⟩;refine⟨⟨⟨[v0,v1,v2,v3],rfl,?_⟩,⟨[w0,w1,w2,w3],rfl,?_⟩,trivial⟩,⟨zf a1⟩,⟨zf a2⟩,⟨zf a3⟩,⟨zf a4⟩⟩
  ·obtain⟨us,e1,b1⟩:=a1;obtain⟨us',e2,b2⟩:=a2
   match us,us',b1,b2 with
   |[_,_],[_,_],⟨c0,c1,_⟩,⟨d0,d1,_⟩=>
    cases e1;cases e2;exact⟨c0,c1,d0,d1,trivial⟩
  ·obtain⟨us,e1,b1⟩:=a3;obtain⟨us',e2,b2⟩:=a4
   match us,us',b1,b2 with
   |[_,_],[_,_],⟨c0,c1,_⟩,⟨d0,d1,_⟩=>
    cases e1;cases e2;exact⟨c0,c1,d0,d1,trivial⟩
attribute [irreducible] rmk
section
variable{x0 x1 x2 x3 y0 y1 y2 y3:Atom}{p q r s:Int}{k m k' m':Nat}
abbrev qn(p q:Int):Int×Int:=rmk p q
instance ayS[h:ZI [x0,x1] p k][h':ZI [x2,x3] q m]:Con prog 56 [.agg [x0,x1,x2,x3]] (k+m<=1000000000) (.agg (xX (rmk p q))):=⟨fun hk=>by
 refine q1 ⟨_,func56,rfl,rfl⟩ fun neg n neg2 n2 hz hz2 hn hn2=>?_
 subst hz;subst hz2;refine ah.fq func56 results56 ntmps56 fun _ _ _ _ _=>?_
 refine zg ?_;exact nM aj.xu rfl⟩
instance ayY[h:ZI [x0,x1] p k][h':ZI [x2,x3] q m]:Con prog 171 [.agg [x0,x1,x2,x3]] (k+m<=1000000000) (.v (.int .i64 (bI (p*q)))):=⟨fun hk=>by
 refine q1 ⟨_,func171,rfl,rfl⟩ fun neg n neg2 n2 hz hz2 hn hn2=>?_
 subst hz;subst hz2;have hw:IntKind.i64.wrap (bI (sgn neg n)*bI (sgn neg2 n2))=bI (sgn neg n*sgn neg2 n2):=ajG _ _;refine ah.fq func171 results171 ntmps171 fun _ _ _ _ _=>?_
 refine zg ?_;exact fC rfl⟩
instance arJ[h:ZI [x0,x1] p k][h':ZI [x2,x3] q m]:Con prog 172 [.agg [x0,x1,x2,x3]] (k+m<=1000000000) (.agg (xX (-(rmk p q).1,(rmk p q).2))):=⟨fun hk=>by
 refine q1 ⟨_,func172,rfl,rfl⟩ fun neg n neg2 n2 hz hz2 hn hn2=>?_
 subst hz;subst hz2;refine ah.fq func172 results172 ntmps172 fun _ _ _ _ _=>?_
 refine zg ?_;exact nM aj.xu rfl⟩
def bW(p q r s:Int):Int×Int:=rmk ((rmk p q).1*(rmk r s).2+(rmk r s).1*(rmk p q).2) ((rmk p q).2*(rmk r s).2)
def bX(p q r s:Int):Int×Int:=rmk ((rmk p q).1*(rmk r s).1) ((rmk p q).2*(rmk r s).2)
def bV(p q r s:Int):Int×Int:=rmk ((rmk p q).1*(rmk r s).2) ((rmk p q).2*(rmk r s).1)
instance arl[h:ZI [x0,x1] p k][h':ZI [x2,x3] q m][g:ZI [y0,y1] r k'][g':ZI [y2,y3] s m']:Con prog 40 [.agg [x0,x1,x2,x3],.agg [y0,y1,y2,y3]] (k+m+k'+m'<=10000000) (.agg (xX (bW p q r s))):=⟨fun hk=>by
 refine q2 ⟨_,func40,rfl,rfl⟩ fun neg n neg2 n2 neg3 n3 neg4 n4 hz hz2 hz3 hz4 hn hn2 hn3 hn4=>?_
 subst hz;subst hz2;subst hz3;subst hz4;refine ah.fq func40 results40 ntmps40 fun _ _ _ _ _=>?_
 refine zg ?_;exact nM aj.xu rfl⟩
end
end
section
attribute [local irreducible] aY zS
theorem ayn(z:Int):0 < bI z↔0 < z:=by unfold bI;(repeat' split) <;> omega
theorem zO:AV0.imp (.agg [.c (.val (.bool false)),.c (.val (.slice none 0 0))]) (.agg (zN 0)):=fun E S w v h=>by
 obtain⟨vs,rfl,hall⟩:=h
 match vs,hall with
 |[a,b],⟨h1,h2,_⟩=>
  have h2':b= .slice none 0 0:=h2;subst h2';exact⟨[a,_],rfl,h1,bN.zero,trivial⟩
def bO(p q r s:Int):Int×Int:=bW p q (-(rmk r s).1) (rmk r s).2
section
variable{x0 x1 x2 x3 y0 y1 y2 y3:Atom}{p q r s:Int}{k m k' m':Nat}
instance Bd.aw0(p q r s:Int)(k m k' m':Nat)[Bd p k][Bd q m][Bd r k'][Bd s m']:Bd (bW p q r s).1 (3*(k+m+k'+m')+12):=⟨by unfold bW;exact Bd.mono (Bd.ata _ _ _ _).h zE⟩
instance Bd.awl(p q r s:Int)(k m k' m':Nat)[Bd p k][Bd q m][Bd r k'][Bd s m']:Bd (bW p q r s).2 (3*(k+m+k'+m')+12):=⟨by unfold bW;exact Bd.mono (Bd.at0 _ _ _ _).h zE⟩
instance Bd.qsub1(p q r s:Int)(k m k' m':Nat)[Bd p k][Bd q m][Bd r k'][Bd s m']:Bd (bO p q r s).1 (6*(k+m+k'+m')+20):=⟨by unfold bO;exact Bd.mono (Bd.aw0 _ _ _ _ _ _ _ _).h zE⟩
instance Bd.qsub2(p q r s:Int)(k m k' m':Nat)[Bd p k][Bd q m][Bd r k'][Bd s m']:Bd (bO p q r s).2 (6*(k+m+k'+m')+20):=⟨by unfold bO;exact Bd.mono (Bd.awl _ _ _ _ _ _ _ _).h zE⟩
instance Bd.qmul1(p q r s:Int)(k m k' m':Nat)[Bd p k][Bd q m][Bd r k'][Bd s m']:Bd (bX p q r s).1 (3*(k+m+k'+m')+12):=⟨by unfold bX;exact Bd.mono (Bd.ata _ _ _ _).h zE⟩
instance Bd.qmul2(p q r s:Int)(k m k' m':Nat)[Bd p k][Bd q m][Bd r k'][Bd s m']:Bd (bX p q r s).2 (3*(k+m+k'+m')+12):=⟨by unfold bX;exact Bd.mono (Bd.at0 _ _ _ _).h zE⟩
instance Bd.qquo1(p q r s:Int)(k m k' m':Nat)[Bd p k][Bd q m][Bd r k'][Bd s m']:Bd (bV p q r s).1 (3*(k+m+k'+m')+12):=⟨by unfold bV;exact Bd.mono (Bd.ata _ _ _ _).h zE⟩
instance Bd.qquo2(p q r s:Int)(k m k' m':Nat)[Bd p k][Bd q m][Bd r k'][Bd s m']:Bd (bV p q r s).2 (3*(k+m+k'+m')+12):=⟨by unfold bV;exact Bd.mono (Bd.at0 _ _ _ _).h zE⟩
instance con_rSub[h:ZI [x0,x1] p k][h':ZI [x2,x3] q m][g:ZI [y0,y1] r k'][g':ZI [y2,y3] s m']:Con prog 295 [.agg [x0,x1,x2,x3],.agg [y0,y1,y2,y3]] (k+m+k'+m'<=1000000) (.agg (xX (bO p q r s))):=⟨fun hk=>by
 refine q2 ⟨_,func295,rfl,rfl⟩ fun neg n neg2 n2 neg3 n3 neg4 n4 hz hz2 hz3 hz4 hn hn2 hn3 hn4=>?_
 subst hz;subst hz2;subst hz3;subst hz4;refine ah.fq func295 results295 ntmps295 fun _ _ _ _ _=>?_
 refine zg ?_;exact nM aj.xu rfl⟩
instance asC[h:ZI [x0,x1] p k][h':ZI [x2,x3] q m][g:ZI [y0,y1] r k'][g':ZI [y2,y3] s m']:Con prog 53 [.agg [x0,x1,x2,x3],.agg [y0,y1,y2,y3]] (k+m+k'+m'<=10000000) (.agg (xX (bX p q r s))):=⟨fun hk=>by
 refine q2 ⟨_,func53,rfl,rfl⟩ fun neg n neg2 n2 neg3 n3 neg4 n4 hz hz2 hz3 hz4 hn hn2 hn3 hn4=>?_
 subst hz;subst hz2;subst hz3;subst hz4;refine ah.fq func53 results53 ntmps53 fun _ _ _ _ _=>?_
 refine zg ?_;exact nM aj.xu rfl⟩
instance atj[h:ZI [x0,x1] p k][h':ZI [x2,x3] q m][g:ZI [y0,y1] r k'][g':ZI [y2,y3] s m']:Con prog 15 [.agg [x0,x1,x2,x3],.agg [y0,y1,y2,y3]] (k+m+k'+m'<=10000000) (.tup [.agg (xX (bV p q r s)),.one (.c (.val (.bool (decide ((rmk p q).2*(rmk r s).1≠0)))))]):=⟨fun hk=>by
 refine q2 ⟨_,func15,rfl,rfl⟩ fun neg n neg2 n2 neg3 n3 neg4 n4 hz hz2 hz3 hz4 hn hn2 hn3 hn4=>?_
 subst hz;subst hz2;subst hz3;subst hz4;refine ah.fq func15 results15 ntmps15 fun _ _ _ _ _=>?_
 refine zg ?_;exact tX aj.xu (aj.tmp rfl) (zv _) (zv _)⟩
def cK(p q r s:Int):Int:=bI ((bO p q r s).1*(bO p q r s).2)
instance asb[h:ZI [x0,x1] p k][h':ZI [x2,x3] q m][g:ZI [y0,y1] r k'][g':ZI [y2,y3] s m']:Con prog 206 [.agg [x0,x1,x2,x3],.agg [y0,y1,y2,y3]] (k+m+k'+m'<=1000000) (.v (.int .i64 (cK p q r s))):=⟨fun hk=>by
 refine q2 ⟨_,func206,rfl,rfl⟩ fun neg n neg2 n2 neg3 n3 neg4 n4 hz hz2 hz3 hz4 hn hn2 hn3 hn4=>?_
 subst hz;subst hz2;subst hz3;subst hz4;refine ah.fq func206 results206 ntmps206 fun _ _ _ _ _=>?_
 refine zg ?_;exact fC rfl⟩
def uh(p q:Int):Int:=if(rmk p q).2=1 then(rmk p q).1 else 0
instance xY[h:ZI [x0,x1] p k][h':ZI [x2,x3] q m]:Con prog 52 [.agg [x0,x1,x2,x3]] (k+m<=1000000) (.tup [.agg (zN (uh p q)),.one (.c (.val (.bool (decide ((rmk p q).2=1)))))]):=⟨fun hk=>by
 refine q1 ⟨_,func52,rfl,rfl⟩ fun neg n neg2 n2 hz hz2 hn hn2=>?_
 subst hz;subst hz2;refine ah.fq func52 results52 ntmps52 fun _ _ _ _ _=>?_
 by_cases h1:(rmk (sgn neg n) (sgn neg2 n2)).2=1
 ·refine zg ?_;exact tX aj.gV (aj.tmp rfl) (AV0.imp.of_eq (by unfold uh;rw[if_pos h1])) (AV0.imp.of_eq (cb (decide_eq_true h1).symm))
 ·refine zg ?_;have e:uh (sgn neg n) (sgn neg2 n2)=0:=by unfold uh;rw[if_neg h1]
  rw[e];exact tX aj.gV (aj.tmp rfl) zO (AV0.imp.of_eq (cb (decide_eq_false h1).symm))⟩
def rS(q:Int×Int):List UInt8:=if q.2=1 then zS q.1 else zS q.1++[47]++zS q.2
instance ak6[h:ZI [x0,x1] p k][h':ZI [x2,x3] q m]:Con prog 518 [.agg [x0,x1,x2,x3]] (k+m<=1000000) (.v (str (rS (rmk p q)))):=⟨fun hk=>by
 refine q1 ⟨_,func518,rfl,rfl⟩ fun neg n neg2 n2 hz hz2 hn hn2=>?_
 subst hz;subst hz2;have l1:=aq0 (z:=(rmk (sgn neg n) (sgn neg2 n2)).1);have l2:=aq0 (z:=(rmk (sgn neg n) (sgn neg2 n2)).2);refine ah.fq func518 results518 ntmps518 fun _ _ _ _ _=>?_
 by_cases h1:(rmk (sgn neg n) (sgn neg2 n2)).2=1
 ·refine zg ?_;refine akT ?_;unfold rS;rw[if_pos h1]
 ·refine zg ?_;refine akT ?_;unfold rS;rw[if_neg h1]⟩
end
def isR(p q x y:Int):Prop:=(0 < q/\(Int.gcd p q:Int)=1)/\p*y=x*q
attribute [irreducible] isR
end
section
attribute [local irreducible] aY zS uh bO bX bV cK rS
theorem adI{x y:Int}(hy:y≠0)(h:y ∣ x):eX x y=x.tdiv y:=by
 have hz:rC x y=0:=by unfold rC;first|(rw[if_neg hy];exact Int.tmod_eq_zero_of_dvd h)|exact Int.tmod_eq_zero_of_dvd h
 unfold eX nH;rw[hz];simp[hy]
theorem adE{x y:Int}(hy:y≠0):0 < (rmk x y).2/\Int.gcd (rmk x y).1 (rmk x y).2=1/\(rmk x y).1*y=x*(rmk x y).2:=by
 have key:∀x y:Int,0 < y->0 < eX y (Int.gcd x y)/\Int.gcd (eX x (Int.gcd x y)) (eX y (Int.gcd x y))=1/\eX x (Int.gcd x y)*y=x*eX y (Int.gcd x y):=by
  intro x y hy;have hg:(Int.gcd x y:Int)≠0:=by
   have:=Int.gcd_ne_zero_right (a:=x) (b:=y) zE
   omega
  have hgp:(0:Int) < Int.gcd x y:=zE
  obtain⟨a,ha⟩:=Int.gcd_dvd_left x y;obtain⟨b,hb⟩:=Int.gcd_dvd_right x y;have e1:eX x (Int.gcd x y)=a:=by
   rw[adI hg (Int.gcd_dvd_left x y)]
   conv=>lhs;arg 1;rw[ha]
   exact Int.mul_tdiv_cancel_left _ hg
  have e2:eX y (Int.gcd x y)=b:=by
   rw[adI hg (Int.gcd_dvd_right x y)]
   conv=>lhs;arg 1;rw[hb]
   exact Int.mul_tdiv_cancel_left _ hg
  rw[e1,e2];generalize hG:Int.gcd x y=g at*;have hbp:0 < b:=by
   rw[hb]at hy;exact Int.pos_of_mul_pos_right hy zE
  refine⟨hbp,?_,?_⟩
  ·have h1:Int.gcd ((g:Int)*a) ((g:Int)*b)=g*Int.gcd a b:=by rw[Int.gcd_mul_left];simp
   rw[<-ha,<-hb,hG]at h1;have hgn:0 < g:=zE
   exact Nat.eq_of_mul_eq_mul_left hgn zE
  ·rw[ha,hb];grind
 unfold rmk;rw[if_neg hy];by_cases h:y < 0
 ·rw[if_pos h];have:=key (-x) (-y) zE
  refine⟨this.1,this.2.1,?_⟩;have h3:=this.2.2
  grind
 ·rw[if_neg h];exact key x y zE
theorem acz(x:Int):rmk x 0=(0,1):=by unfold rmk;rfl
abbrev qW(b:Bool)(l:List Nat)(c:Bool)(m:List Nat):List Atom:=[.c (.val (.bool b)),.c (.sat (eT l)),.c (.val (.bool c)),.c (.sat (eT m))]
end
section
attribute [local irreducible] bO bX bV cK bW
def qv(p q:Int):Rat:=(p:Rat) / (q:Rat)
theorem c0{z:Int}(h:z≠0):(z:Rat)≠0:=fun e=>h (Rat.intCast_inj.1 e)
theorem ap9{a b c d:Int}(hb:b≠0)(hd:d≠0)(h:a*d=c*b):qv a b=qv c d:=by
 have h1:=c0 hb;have h2:=c0 hd;have h3:(a:Rat)*d=c*b:=by rw[<-Rat.intCast_mul,<-Rat.intCast_mul,h]
 unfold qv;grind
theorem pY(p q:Int):0 < (rmk p q).2:=by
 by_cases h:q=0
 ·rw[h,acz];decide
 ·exact(adE h).1
theorem abK(p q:Int):Int.gcd (rmk p q).1 (rmk p q).2=1:=by
 by_cases h:q=0
 ·rw[h,acz];decide
 ·exact(adE h).2.1
theorem jA(p q:Int):qv (rmk p q).1 (rmk p q).2=qv p q:=by
 by_cases h:q=0
 ·rw[h,acz];unfold qv;grind
 ·have hs:=adE (x:=p) h;exact ap9 zE h hs.2.2
structure Rd(X:Int×Int)(v:Rat)(K:Nat):Prop where
 v:qv X.1 X.2=v
 d:0 < X.2
 g:Int.gcd X.1 X.2=1
 b1:Bd X.1 K
 b2:Bd X.2 K
theorem Rd.rmk{p q:Int}{k m K:Nat}{v:Rat}(h:Bd p k)(h':Bd q m)(hv:qv p q=v)(hK:k+m+1<=K):Rd (rmk p q) v K:=
 ⟨(jA p q).trans hv,pY p q,abK p q,⟨Bd.mono (Bd.ata p q k m).h hK⟩,⟨Bd.mono (Bd.at0 p q k m).h hK⟩⟩
class Ra(l:List Atom)(v:outParam Rat)(K:outParam Nat):Prop where
 h:∃x0 x1 x2 x3 p q k m,l=[x0,x1,x2,x3]/\ZI [x0,x1] p k/\ZI [x2,x3] q m/\k<=K/\m<=K/\Bd p k/\Bd q m/\qv p q=v
theorem Ra.raw{b c:Bool}{l m:List Nat}{K:Nat}(i1:BdN (nval WB l) l.length)(i2:BdN (nval WB m) m.length)(h1:l.length<=K)(h2:m.length<=K):Ra (qW b l c m) (qv (sgn b (nval WB l)) (sgn c (nval WB m))) K:=
 ⟨_,_,_,_,_,_,_,_,rfl,inferInstance,inferInstance,h1,h2,inferInstance,inferInstance,rfl⟩
section
variable{l l':List Atom}{v v':Rat}{K K':Nat}
theorem aqU{a b c d:Int}:qv (a*d) (b*c)=qv a b / qv c d:=by
 unfold qv;rw[Rat.intCast_mul,Rat.intCast_mul];grind
theorem asS{a b c d:Int}:qv (a*c) (b*d)=qv a b*qv c d:=by
 unfold qv;rw[Rat.intCast_mul,Rat.intCast_mul];grind
theorem ayh{a b c d:Int}(hb:b≠0)(hd:d≠0):qv (a*d+c*b) (b*d)=qv a b+qv c d:=by
 have h1:=c0 hb;have h2:=c0 hd;unfold qv;rw[Rat.intCast_add,Rat.intCast_mul,Rat.intCast_mul,Rat.intCast_mul];grind
theorem apD{a b:Int}:qv (-a) b= -qv a b:=by
 unfold qv;rw[Rat.intCast_neg];grind
theorem aiz(p q r s:Int):qv (bW p q r s).1 (bW p q r s).2=qv p q+qv r s:=by
 have h1:=pY p q;have h2:=pY r s;unfold bW;rw[jA,ayh zE zE,jA,jA]
theorem ar4(p q r s:Int):qv (bX p q r s).1 (bX p q r s).2=qv p q*qv r s:=by
 unfold bX;rw[jA,asS,jA,jA]
theorem arw(p q r s:Int):qv (bV p q r s).1 (bV p q r s).2=qv p q / qv r s:=by
 unfold bV;rw[jA,aqU,jA,jA]
theorem atn(p q r s:Int):qv (bO p q r s).1 (bO p q r s).2=qv p q - qv r s:=by
 unfold bO;rw[aiz,apD,jA];grind
theorem amO(p q r s:Int):∃x y,bW p q r s=rmk x y:=⟨_,_,by unfold bW;rfl⟩
theorem ali(p q r s:Int):∃x y,bX p q r s=rmk x y:=⟨_,_,by unfold bX;rfl⟩
theorem aml(p q r s:Int):∃x y,bV p q r s=rmk x y:=⟨_,_,by unfold bV;rfl⟩
theorem mk_pos{X:Int×Int}(h:∃x y,X=rmk x y):0 < X.2/\Int.gcd X.1 X.2=1:=by
 obtain⟨x,y,rfl⟩:=h;exact⟨pY x y,abK x y⟩
theorem alh{a b:Int}:(bI (a*b)=0↔qv a b=0)/\(bI (a*b) < 0↔qv a b < 0):=by
 have key:∀a b:Int,0 < b->(a*b=0↔qv a b=0)/\(a*b < 0↔qv a b < 0):=by
  intro a b hb;have h1:(0:Rat) < b:=by rw[show (0:Rat)=((0:Int):Rat)from rfl];exact Rat.intCast_lt_intCast.2 hb
  have ea:(a:Rat)=qv a b*b:=by unfold qv;grind
  constructor
  ·rw[Int.mul_eq_zero];constructor
   ·rintro(h|h)
    ·unfold qv;rw[h];grind
    ·omega
   ·intro h;rw[h]at ea;left;exact Rat.intCast_inj.1 (by rw[ea];grind)
  ·have hneg:a*b < 0↔a < 0:=by
    constructor
    ·intro h;exact Decidable.byContradiction fun hn=>by
      have:=Int.mul_nonneg (show 0<=a by omega) (show 0<=b by omega)
      omega
    ·intro h;exact Int.mul_neg_of_neg_of_pos h hb
   have ha:a < 0↔(a:Rat) < 0:=by rw[show (0:Rat)=((0:Int):Rat)from rfl,Rat.intCast_lt_intCast]
   rw[hneg,ha,ea];generalize qv a b=v at*;generalize (b:Rat)=c at*;constructor
   ·intro h;exact Decidable.byContradiction fun hn=>by
     have:=Rat.mul_nonneg (show 0<=v by grind) (show 0<=c by grind)
     grind
   ·intro h;have:=Rat.mul_pos (show 0 < -v by grind) h1
    grind
 have hn:bI (a*b) < 0↔a*b < 0:=akh _;have hz:bI (a*b)=0↔a*b=0:=agQ _;rw[hn,hz];by_cases hb:b=0
 ·subst hb;have:qv a 0=0:=by unfold qv;grind
  rw[this];simp
 ·by_cases hb0:0 < b
  ·exact key a b hb0
  ·have h:=key (-a) (-b) zE
   have e:qv (-a) (-b)=qv a b:=ap9 zE hb (by grind)
   rw[e,show -a* -b=a*b by grind]at h
   exact h
theorem atu{p q r s:Int}:(cK p q r s=0↔qv p q=qv r s)/\(cK p q r s < 0↔qv p q < qv r s)/\(0 < cK p q r s↔qv r s < qv p q):=by
 have h:=alh (a:=(bO p q r s).1) (b:=(bO p q r s).2);rw[atn]at h;unfold cK;generalize bI ((bO p q r s).1*(bO p q r s).2)=z at*;have h1:z=0↔qv p q=qv r s:=by rw[h.1];constructor <;> intro <;> grind
 have h2:z < 0↔qv p q < qv r s:=by rw[h.2];constructor <;> intro <;> grind
 refine⟨h1,h2,?_⟩;have:0 < z↔¬z=0/\¬z < 0:=zE
 rw[this,h1,h2];constructor
 ·intro ⟨a,b⟩;grind
 ·intro a;constructor <;> grind
theorem eAdd(l l':List Atom)[a:Ra l v K][b:Ra l' v' K'](h:K+K'<=1000000):∃X,ah prog 40 [.agg l,.agg l'] (.agg (xX X))/\Rd X (v+v') (6*(K+K')+20):=by
 obtain⟨x0,x1,x2,x3,p,q,k,m,rfl,z1,z2,hk,hm,b1,b2,hv⟩:=a.h;obtain⟨y0,y1,y2,y3,r,s,k',m',rfl,z3,z4,hk',hm',b3,b4,hv'⟩:=b.h;exact⟨_,(arl (h:=z1) (h':=z2) (g:=z3) (g':=z4)).h zE,⟨by rw[aiz,hv,hv'],(mk_pos (amO ..)).1,(mk_pos (amO ..)).2,⟨Bd.mono (Bd.aw0 p q r s k m k' m').h zE⟩,⟨Bd.mono (Bd.awl p q r s k m k' m').h zE⟩⟩⟩
theorem eMul(l l':List Atom)[a:Ra l v K][b:Ra l' v' K'](h:K+K'<=1000000):∃X,ah prog 53 [.agg l,.agg l'] (.agg (xX X))/\Rd X (v*v') (6*(K+K')+20):=by
 obtain⟨x0,x1,x2,x3,p,q,k,m,rfl,z1,z2,hk,hm,b1,b2,hv⟩:=a.h;obtain⟨y0,y1,y2,y3,r,s,k',m',rfl,z3,z4,hk',hm',b3,b4,hv'⟩:=b.h;exact⟨_,(asC (h:=z1) (h':=z2) (g:=z3) (g':=z4)).h zE,⟨by rw[ar4,hv,hv'],(mk_pos (ali ..)).1,(mk_pos (ali ..)).2,⟨Bd.mono (Bd.qmul1 p q r s k m k' m').h zE⟩,⟨Bd.mono (Bd.qmul2 p q r s k m k' m').h zE⟩⟩⟩
theorem eQuo(l l':List Atom)[a:Ra l v K][b:Ra l' v' K'](h:K+K'<=1000000):∃X ok,ah prog 15 [.agg l,.agg l'] (.tup [.agg (xX X),.one (.c (.val (.bool ok)))])/\Rd X (v / v') (6*(K+K')+20)/\(ok=true↔v'≠0):=by
 obtain⟨x0,x1,x2,x3,p,q,k,m,rfl,z1,z2,hk,hm,b1,b2,hv⟩:=a.h;obtain⟨y0,y1,y2,y3,r,s,k',m',rfl,z3,z4,hk',hm',b3,b4,hv'⟩:=b.h;refine⟨_,_,(atj (h:=z1) (h':=z2) (g:=z3) (g':=z4)).h zE,⟨by rw[arw,hv,hv'],(mk_pos (aml ..)).1,(mk_pos (aml ..)).2,⟨Bd.mono (Bd.qquo1 p q r s k m k' m').h zE⟩,⟨Bd.mono (Bd.qquo2 p q r s k m k' m').h zE⟩⟩,?_⟩
 have h1:=pY p q;have h2:=pY r s;rw[decide_eq_true_iff,<-hv',<-jA r s];have e:qv (rmk r s).1 (rmk r s).2=0↔(rmk r s).1=0:=by
  have:=(alh (a:=(rmk r s).1) (b:=(rmk r s).2)).1;rw[<-this,agQ,Int.mul_eq_zero];omega
 rw[Ne,Ne,e,Int.mul_eq_zero];omega
theorem eCmp(l l':List Atom)[a:Ra l v K][b:Ra l' v' K'](h:K+K'<=400000):∃z:Int,ah prog 206 [.agg l,.agg l'] (.v (.int .i64 z))/\(z=0↔v=v')/\(z < 0↔v < v')/\(0 < z↔v' < v):=by
 obtain⟨x0,x1,x2,x3,p,q,k,m,rfl,z1,z2,hk,hm,b1,b2,hv⟩:=a.h;obtain⟨y0,y1,y2,y3,r,s,k',m',rfl,z3,z4,hk',hm',b3,b4,hv'⟩:=b.h;exact⟨_,(asb (h:=z1) (h':=z2) (g:=z3) (g':=z4)).h zE,by rw[<-hv,<-hv'];exact atu⟩
theorem eNeg(l:List Atom)[a:Ra l v K](h:K<=400000):∃X,ah prog 172 [.agg l] (.agg (xX X))/\Rd X (-v) (2*K+1):=by
 obtain⟨x0,x1,x2,x3,p,q,k,m,rfl,z1,z2,hk,hm,b1,b2,hv⟩:=a.h;exact⟨_,(arJ (h:=z1) (h':=z2)).h zE,⟨by show qv (-(rmk p q).1) (rmk p q).2=_;rw[apD,jA,hv],pY p q,by show Int.gcd (-(rmk p q).1) _=1;rw[Int.neg_gcd];exact abK p q,⟨by show (-(rmk p q).1).natAbs < _;rw[Int.natAbs_neg];exact Bd.mono (Bd.ata p q k m).h zE⟩,⟨Bd.mono (Bd.at0 p q k m).h zE⟩⟩⟩
end
end
section
attribute [local irreducible] bO bX bV cK bW qv
instance Bd.afR(x y:Int)(k m:Nat)[hx:Bd x k][hy:Bd y m]:Bd (afR x y) (k+k+1+m+1+1+1):=⟨by
 unfold Proofs.YtjnhnbgpifohjaaGreatDoor.afR
 split
 ·exact(Bd.zfq (-x+ -x+ -y) (-y+ -y) _).h
 ·exact(Bd.zfq (x+x+y) (y+y) _).h⟩
attribute [local irreducible] afR zfq
end
