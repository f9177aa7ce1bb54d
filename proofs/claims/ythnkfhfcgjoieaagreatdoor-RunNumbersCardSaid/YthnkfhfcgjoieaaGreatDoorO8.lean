import Derived.Test.YthnkfhfcgjoieaaGreatDoorO24
import Derived.Test.YthnkfhfcgjoieaaGreatDoorO1
import Derived.Test.YthnkfhfcgjoieaaGreatDoorO28
import Derived.Test.YthnkfhfcgjoieaaGreatDoorO2
import Derived.Test.YthnkfhfcgjoieaaGreatDoorO29
set_option linter.unusedVariables false
set_option linter.unusedSimpArgs false
open Go.Proofs.Tryz
namespace Go.Proofs.YthnkfhfcgjoieaaGreatDoor
open Go.RowKit QM SX
section
def bL(l:List Nat):Rep where
 has S w v:=Sm WB l/\(aQ 1 l.length (l.map fun x:Nat=> .val (.int .u64 (x:Int)))).has S w v
 one h:=(aQ _ _ _).one h.2
 step h ho hs:=⟨h.1,(aQ _ _ _).step h.2 ho hs⟩
theorem bL.rn{l:List Nat}{S:Nat->Prop}{w:World}{v:Value}(h:(bL l).has S w v):RN w v l:=by
 obtain⟨hs,h⟩:=h;obtain⟨oa,cap,h1,h2,h3,h4,h5,h6⟩:=bY.1 h;refine⟨oa,cap,h1,h2,h3,h4,hs,fun i hi=>?_⟩
 obtain⟨b,o,u,e1,e2,e3,e4⟩:=h6 i (.val (.int .u64 ((gd l i:Nat):Int))) (by simp[gd,zx7,hi])
 exact⟨b,o,e1,by rw[e3,show u=_ from e4]⟩
def bU(n:Nat):Rep where
 has S w v:=∃l,Nrm l/\nval WB l=n/\(l=[]->v= .slice none 0 0)/\(bL l).has S w v
 one h:=by obtain⟨l,_,_,_,h⟩:=h;exact(bL l).one h
 step h ho hs:=by obtain⟨l,h1,h2,h3,h⟩:=h;exact⟨l,h1,h2,h3,(bL l).step h ho hs⟩
theorem bU.acd{n base:Nat}{S:Nat->Prop}{w:World}{v:Value}(h:ON base w v n)(hS:∀k,S k->k < base):(bU n).has S w v:=by
 obtain⟨l,h1,h2,h3,h4,h5⟩:=h;refine⟨l,h3,h4,h5,h2,?_⟩;rcases h1.2 with⟨rfl,h0⟩|⟨g,cap,cur,rfl,hb,hg,hn,hm,hcs,htk⟩
 ·have hl:l=[]:=zx5 h0;subst hl;exact bY.2 ⟨none,0,rfl,zq6 _,by simp[maxLen],fun _=>rfl,by simp,fun i c hc=>by simp at hc⟩
 ·refine bY.2 ⟨some ⟨g,0,none⟩,cap,rfl,hn,hm,fun e=>(by cases e),by simp,fun i c hc=>?_⟩
  have hi:i < l.length:=by have:=(zxg.1 hc).1;simpa using this
  refine⟨g,0,.int .u64 ((gd l i:Nat):Int),rfl,fun h=>by have:=hS g h;omega,?_,?_⟩
  ·rw[zv7,h1.cellAt i zE]
   simp[wv,zqa,zyh hi,gd,zx7]
  ·simp[zqa,zyh hi]at hc
   subst hc;simp[CA.has,gd,zx7,hi]
theorem bU.zero{S:Nat->Prop}{w:World}:(bU 0).has S w (.slice none 0 0):=
 ⟨[],Nrm.nil,rfl,fun _=>rfl,Sm.nil,bY.2 ⟨none,0,rfl,zq6 _,by simp[maxLen],fun _=>rfl,by simp,fun i c hc=>by simp at hc⟩⟩
def abW(B:Nat):Nat->Nat->List Nat
 |0,_=>[]
 |_+1,0=>[]
 |f+1,n+1=>((n+1) % B)::abW B f ((n+1) / B)
theorem tF{B:Nat}(hB:1 < B):∀(f n:Nat),n<=f->Sm B (abW B f n)/\nval B (abW B f n)=n/\Nrm (abW B f n)
 |0,n,h=>by
  have:n=0:=zE
  subst this;exact⟨Sm.nil,rfl,Nrm.nil⟩
 |f+1,0,_=>⟨Sm.nil,rfl,Nrm.nil⟩
 |f+1,n+1,h=>by
  have hlt:(n+1) / B < n+1:=Nat.div_lt_self zE hB
  obtain⟨h1,h2,h3⟩:=tF hB f ((n+1) / B) zE
  have hv:nval B (abW B (f+1) (n+1))=n+1:=by
   show (n+1) % B+B*nval B (abW B f ((n+1) / B))=n+1;rw[h2];exact Nat.mod_add_div _ _
  refine⟨h1.cons (zyi _ zE),hv,.inr ?_⟩
  have hc:abW B (f+1) (n+1)=(n+1) % B::abW B f ((n+1) / B):=rfl;rw[hc];generalize abW B f ((n+1) / B)=l at*;rcases h3 with h3|h3
  ·subst h3;have h5:(n+1) / B=0:=h2.symm;have:(n+1) % B=n+1:=by have:=Nat.mod_add_div (n+1) B;rw[h5]at this;simpa using this
   simp[this]
  ·have h6:l.length≠0:=by
    intro h0;rw[zx5 h0]at h3;simp at h3
   obtain⟨m,hm⟩:∃m,l.length=m+1:=⟨l.length - 1,zE⟩
   rw[hm]at h3;simp only[zx6,hm,Nat.add_sub_cancel,zx7,List.getElem?_cons_succ]at*
   exact h3
def wds(n:Nat):List Nat:=abW WB n n
theorem abg(n:Nat):Sm WB (wds n):=(tF oo n n (zq6 n)).1
theorem nU(n:Nat):nval WB (wds n)=n:=(tF oo n n (zq6 n)).2.1
theorem zQ(n:Nat):Nrm (wds n):=(tF oo n n (zq6 n)).2.2
theorem qX{l:List Nat}(hs:Sm WB l)(hn:Nrm l):l=wds (nval WB l):=amH aZ hs (abg _) hn (zQ _) (nU _).symm
theorem mJ{n k:Nat}(h:n < WB ^ k):(wds n).length<=k:=(zQ n).rC aZ (by rw[nU];exact h)
theorem rE(n:Nat):(wds n).length=0↔n=0:=by
 constructor
 ·intro h;have:=nU n;rw[zx5 h]at this;exact this.symm
 ·intro h;subst h;rfl
instance(l:List Nat):jF (bL l) 1 l.length (l.map fun x:Nat=> .val (.int .u64 (x:Int))):=⟨fun _ _ _ h=>h.2⟩
instance(n:Nat):jF (bU n) 1 (wds n).length ((wds n).map fun x:Nat=> .val (.int .u64 (x:Int))):=⟨fun _ _ _ h=>by
 obtain⟨l,h1,h2,_,h4⟩:=h;have:=qX h4.1 h1;rw[h2]at this;rw[<-this];exact h4.2⟩
class Bd(z:Int)(k:outParam Nat):Prop where
 h:z.natAbs < WB ^ k
def aeo(n k:Nat):Rep where
 has S w v:=∃l,nval WB l=n/\l.length<=k/\(bL l).has S w v
 one h:=by obtain⟨l,_,_,h⟩:=h;exact(bL l).one h
 step h ho hs:=by obtain⟨l,h1,h2,h⟩:=h;exact⟨l,h1,h2,(bL l).step h ho hs⟩
class NI(a:CA)(n:outParam Nat)(k:outParam Nat):Prop where
 p:∀S w v,a.has S w v->(aeo n k).has S w v
theorem NI.h{a:CA}{n k:Nat}(x:NI a n k):∀S w v,a.has S w v->∃l,RN w v l/\nval WB l=n/\l.length<=k:=fun S w v h=>by
 obtain⟨l,h1,h2,h3⟩:=x.p S w v h;exact⟨l,bL.rn h3,h1,h2⟩
instance NI.nat(n k:Nat):NI (.sat (aeo n k)) n k:=⟨fun _ _ _ h=>h⟩
instance NI.raw(l:List Nat):NI (.sat (bL l)) (nval WB l) l.length:=⟨fun S w v h=>⟨l,rfl,zq6 _,h⟩⟩
instance NI.nil:NI (.val (.slice none 0 0)) 0 0:=⟨fun S w v h=>by
 rw[show v=_ from h]
 exact⟨[],rfl,zq6 _,Sm.nil,bY.2 ⟨none,0,rfl,zq6 _,by simp[maxLen],fun _=>rfl,by simp,fun i c hc=>by simp at hc⟩⟩⟩
theorem NI.adu{n k:Nat}(hk:n < WB ^ k):NI (.sat (bU n)) n k:=⟨fun S w v h=>by
 obtain⟨l,h1,h2,_,h4⟩:=h;exact⟨l,h2,h1.rC aZ (by rw[h2];exact hk),h4⟩⟩
class BdN(n:Nat)(k:outParam Nat):Prop where
 h:n < WB ^ k
instance NI.nrm(n k:Nat)[h:BdN n k]:NI (.sat (bU n)) n k:=NI.adu h.h
instance BdN.abs(z:Int)(k:Nat)[h:Bd z k]:BdN z.natAbs k:=⟨h.h⟩
theorem gD(k:Nat):1<=WB ^ k:=Nat.one_le_pow k WB aZ
theorem Bd.mono{z:Int}{k m:Nat}(h:z.natAbs < WB ^ k)(hm:k<=m):z.natAbs < WB ^ m:=zqf h (zx2 aZ hm)
theorem agS(k m:Nat):WB ^ k+WB ^ m<=WB ^ (k+m)+1:=by
 have h1:=gD k;have h2:=gD m;rw[zw5];generalize WB ^ k=a at*;generalize WB ^ m=b at*;obtain⟨a,rfl⟩:∃a',a=a'+1:=⟨a - 1,zE⟩
 obtain⟨b,rfl⟩:∃b',b=b'+1:=⟨b - 1,zE⟩
 rw[zy5,Nat.mul_add];have:0<=a*b:=zq8 _;omega
theorem ad4{x y:Int}{k m:Nat}(hx:x.natAbs < WB ^ k)(hy:y.natAbs < WB ^ m):(x+y).natAbs < WB ^ (k+m+1):=by
 have h1:=agS k m;have h2:WB ^ (k+m)*2<=WB ^ (k+m+1):=by rw[zyf];exact zx8 _ zc
 have h3:=gD (k+m);omega
instance Bd.add(x y:Int)(k m:Nat)[hx:Bd x k][hy:Bd y m]:Bd (x+y) (k+m+1):=⟨ad4 hx.h hy.h⟩
instance Bd.sub(x y:Int)(k m:Nat)[hx:Bd x k][hy:Bd y m]:Bd (x - y) (k+m+1):=⟨by rw[Int.sub_eq_add_neg];exact ad4 hx.h (by rw[Int.natAbs_neg];exact hy.h)⟩
instance Bd.neg(x:Int)(k:Nat)[hx:Bd x k]:Bd (-x) k:=⟨by rw[Int.natAbs_neg];exact hx.h⟩
instance Bd.mul(x y:Int)(k m:Nat)[hx:Bd x k][hy:Bd y m]:Bd (x*y) (k+m):=⟨by
 rw[zve,zw5];exact Nat.mul_lt_mul_of_lt_of_le hx.h (Nat.le_of_lt hy.h) (gD m)⟩
theorem aal{x y:Nat}{k m:Nat}(hx:x < WB ^ k)(hy:y < WB ^ m):x+y < WB ^ (k+m+1):=by
 have:=ad4 (x:=(x:Int)) (y:=(y:Int)) (k:=k) (m:=m) (by simpa using hx) (by simpa using hy)
 omega
instance BdN.add(x y k m:Nat)[hx:BdN x k][hy:BdN y m]:BdN (x+y) (k+m+1):=⟨aal hx.h hy.h⟩
instance BdN.mul(x y k m:Nat)[hx:BdN x k][hy:BdN y m]:BdN (x*y) (k+m):=⟨by
 rw[zw5];exact Nat.mul_lt_mul_of_lt_of_le hx.h (Nat.le_of_lt hy.h) (gD m)⟩
instance BdN.sub(x y k:Nat)[hx:BdN x k]:BdN (x - y) k:=⟨zxb (Nat.sub_le _ _) hx.h⟩
instance BdN.div(x y k:Nat)[hx:BdN x k]:BdN (x / y) k:=⟨zxb (Nat.div_le_self _ _) hx.h⟩
instance BdN.mod(x y k:Nat)[hx:BdN x k]:BdN (x % y) k:=⟨zxb (Nat.mod_le _ _) hx.h⟩
instance BdN.ite(c:Prop)[Decidable c](x k:Nat)[hx:BdN x k]:BdN (if c then 0 else x) k:=⟨by split;exact zqf zc (gD k);exact hx.h⟩
instance BdN.gcd(x y k m:Nat)[hx:BdN x k][hy:BdN y m]:BdN (Nat.gcd x y) (k+m):=⟨by
 rcases zye x with h0|h0
 ·subst h0;rw[Nat.gcd_zero_left];exact zqf hy.h (zx2 aZ zE)
 ·exact zxb (Nat.gcd_le_left y h0) (zqf hx.h (zx2 aZ zE))⟩
instance Bd.nat(n k:Nat)[h:BdN n k]:Bd (n:Int) k:=⟨by simpa using h.h⟩
instance Bd.zero:Bd 0 0:=⟨by simp⟩
instance Bd.one:Bd 1 1:=⟨by simp[WB]⟩
theorem avt(x:Int)(h1: -9223372036854775808<=x)(h2:x<=9223372036854775807):x.natAbs < WB ^ 1:=by rw[zxh,dn];omega
section
variable{a b:CA}{x y k m:Nat}
theorem nat2{f:FuncId}{r:Nat}[ha:NI a x k][hb:NI b y m](he:∃fn,prog.funcs[f]? =some fn/\(fn.name== "runtime.NumGoroutine")=false/\fn.body.isNone=false)
  (h:∀w va vb la lb,RN w va la->RN w vb lb->nval WB la=x->nval WB lb=y->la.length<=k->lb.length<=m->Calls prog f #[va,vb] w fun e w'=>(∃v,e= .returned v/\ON w.heap.size w' v r)/\Ext w w'):
  ah prog f [.it (.one (.c a)),.it (.one (.c b))] (.r (bU r)):=
 ah.jh he rfl fun E S w vs hl hv=>by
  match vs,hv with
  |[va,vb],⟨h1,h2,_⟩=>
   obtain⟨la,ra,ea,ka⟩:=ha.h S w va h1;obtain⟨lb,rb,eb,kb⟩:=hb.h S w vb h2;refine(h w va vb la lb ra rb ea eb ka kb).mono ?_;rintro e w' ⟨⟨v,rfl,ho⟩,hx⟩;exact⟨v,rfl,bU.acd ho hl,Off.of_below hx⟩
theorem nat1{f:FuncId}{r:Nat}[ha:NI a x k](he:∃fn,prog.funcs[f]? =some fn/\(fn.name== "runtime.NumGoroutine")=false/\fn.body.isNone=false)
  (h:∀w va la,RN w va la->nval WB la=x->la.length<=k->Calls prog f #[va] w fun e w'=>(∃v,e= .returned v/\ON w.heap.size w' v r)/\Ext w w'):
  ah prog f [.it (.one (.c a))] (.r (bU r)):=
 ah.jh he rfl fun E S w vs hl hv=>by
  match vs,hv with
  |[va],⟨h1,_⟩=>
   obtain⟨la,ra,ea,ka⟩:=ha.h S w va h1;refine(h w va la ra ea ka).mono ?_;rintro e w' ⟨⟨v,rfl,ho⟩,hx⟩;exact⟨v,rfl,bU.acd ho hl,Off.of_below hx⟩
theorem atF[ha:NI a x k](hk:k<=1099511627775):ah prog 61 [.it (.one (.c a))] (.r (bU x)):=
 nat1 ⟨_,func61,rfl,rfl⟩ fun w va la h1 h2 h3=>by subst h2;exact ig h1 zE
theorem nAdd[ha:NI a x k][hb:NI b y m](hk:k+m<=1099511627775):ah prog 79 [.it (.one (.c a)),.it (.one (.c b))] (.r (bU (x+y))):=
 nat2 ⟨_,func79,rfl,rfl⟩ fun w va vb la lb h1 h2 h3 h4 h5 h6=>by subst h3 h4;exact wm h1 h2 zE zE
theorem mMul[ha:NI a x k][hb:NI b y m](hk:k+m<=274877906944):ah prog 57 [.it (.one (.c a)),.it (.one (.c b))] (.r (bU (x*y))):=
 nat2 ⟨_,func57,rfl,rfl⟩ fun w va vb la lb h1 h2 h3 h4 h5 h6=>by subst h3 h4;exact arV h1 h2 zE zE
theorem dGcd[ha:NI a x k][hb:NI b y m](hk:k+m<=1099511627770):ah prog 168 [.it (.one (.c a)),.it (.one (.c b))] (.r (bU (Nat.gcd x y))):=
 nat2 ⟨_,func168,rfl,rfl⟩ fun w va vb la lb h1 h2 h3 h4 h5 h6=>by subst h3 h4;exact arl h1 h2 hk zE zE
theorem nOf(x:Nat)(hx:x < WB):ah prog 38 [.v (.int .u64 (x:Int))] (.r (bU x)):=
 ah.jh ⟨_,func38,rfl,rfl⟩ rfl fun E S w vs hl hv=>by
  match vs,hv with
  |[va],⟨h1,_⟩=>
   have h1':va= .int .u64 (x:Int):=h1;subst h1';refine(amV x hx w).mono ?_;rintro e w' ⟨⟨v,rfl,ho⟩,hx⟩;exact⟨v,rfl,bU.acd ho hl,Off.of_below hx⟩
theorem nCmp[ha:NI a x k][hb:NI b y m](hk:k+m<=1099511627775):ah prog 166 [.it (.one (.c a)),.it (.one (.c b))] (.v (.int .i64 (kJ x y))):=
 ah.jh ⟨_,func166,rfl,rfl⟩ rfl fun E S w vs hl hv=>by
  match vs,hv with
  |[va,vb],⟨h1,h2,_⟩=>
   obtain⟨la,ra,ea,ka⟩:=ha.h S w va h1;obtain⟨lb,rb,eb,kb⟩:=hb.h S w vb h2;subst ea eb;refine(aak ra rb zE zE).mono ?_
   rintro e w' ⟨rfl,hx⟩;exact⟨_,rfl,rfl,Off.of_below hx⟩
theorem agf[ha:NI a x k](hk:k<=1099511627775):ah prog 35 [.it (.one (.c a))] (.v (.int .i64 (bitLen x:Int))):=
 ah.jh ⟨_,func35,rfl,rfl⟩ rfl fun E S w vs hl hv=>by
  match vs,hv with
  |[va],⟨h1,_⟩=>
   obtain⟨la,ra,ea,ka⟩:=ha.h S w va h1;subst ea;refine(anX ra zE).mono ?_
   rintro e w' ⟨rfl,rfl⟩;exact⟨_,rfl,rfl,Off.refl _ _⟩
theorem aoZ[ha:NI a x k](hk:k<=1099511627775):ah prog 45 [.it (.one (.c a))] (.tup [.one (.c (.val (.int .u64 ((if x < WB then x else 0:Nat):Int)))),.one (.c (.val (.bool (decide (x < WB)))))]):=
 ah.jh ⟨_,func45,rfl,rfl⟩ rfl fun E S w vs hl hv=>by
  match vs,hv with
  |[va],⟨h1,_⟩=>
   obtain⟨la,ra,ea,ka⟩:=ha.h S w va h1;subst ea;refine(apN ra zE).mono ?_
   rintro e w' ⟨rfl,rfl⟩;exact⟨_,rfl,⟨[_,_],rfl,rfl,rfl,trivial⟩,Off.refl _ _⟩
theorem nSub[ha:NI a x k][hb:NI b y m](hk:k+m<=1099511627775):ah prog 80 [.it (.one (.c a)),.it (.one (.c b))] (.tup [.one (.c (.sat (bU (x - y)))),.one (.c (.val (.bool (decide (y<=x)))))]):=
 ah.jh ⟨_,func80,rfl,rfl⟩ rfl fun E S w vs hl hv=>by
  match vs,hv with
  |[va,vb],⟨h1,h2,_⟩=>
   obtain⟨la,ra,ea,ka⟩:=ha.h S w va h1;obtain⟨lb,rb,eb,kb⟩:=hb.h S w vb h2;subst ea eb;rcases zyd (nval WB la) (nval WB lb)with hlt|hge
   ·refine(aoO ra rb zE zE hlt).mono ?_
    rintro e w' ⟨rfl,hx⟩;refine⟨_,rfl,⟨[_,_],rfl,?_,?_,trivial⟩,Off.of_below hx⟩
    ·show (bU _).has _ _ _;rw[Nat.sub_eq_zero_of_le zE];exact bU.zero
    ·show _=_;rw[decide_eq_false zE]
   ·refine(aov ra rb zE zE hge).mono ?_
    rintro e w' ⟨⟨v,rfl,ho⟩,hx⟩;refine⟨_,rfl,⟨[_,_],rfl,bU.acd ho hl,?_,trivial⟩,Off.of_below hx⟩;show _=_;rw[decide_eq_true hge]
theorem aef[ha:NI a x k][hb:NI b y m](hk:k+m<=1099511627770):ah prog 83 [.it (.one (.c a)),.it (.one (.c b))] (.tup [.one (.c (.sat (bU (x / y)))),.one (.c (.sat (bU (if y=0 then 0 else x % y)))),.one (.c (.val (.bool (decide (y≠0)))))]):=
 ah.jh ⟨_,func83,rfl,rfl⟩ rfl fun E S w vs hl hv=>by
  match vs,hv with
  |[va,vb],⟨h1,h2,_⟩=>
   obtain⟨la,ra,ea,ka⟩:=ha.h S w va h1;obtain⟨lb,rb,eb,kb⟩:=hb.h S w vb h2;subst ea eb;by_cases h0:nval WB lb=0
   ·refine(agc ra rb zE zE h0).mono ?_
    rintro e w' ⟨rfl,hx⟩;rw[h0];exact⟨_,rfl,⟨[_,_,_],rfl,by show (bU _).has _ _ _;rw[Nat.div_zero];exact bU.zero,bU.zero,rfl,trivial⟩,Off.of_below hx⟩
   ·refine(aaA ra rb zE zE (Nat.pos_of_ne_zero h0)).mono ?_
    rintro e w' ⟨⟨vq,vr,rfl,hq,hr⟩,hx⟩;refine⟨_,rfl,⟨[_,_,_],rfl,bU.acd hq hl,?_,?_,trivial⟩,Off.of_below hx⟩
    ·rw[if_neg h0];exact bU.acd hr hl
    ·show _=_;rw[decide_eq_true h0]
end
theorem nC{l:List Nat}{S:Nat->Prop}{w:World}{v:Value}:(bL l).has S w v↔Sm WB l/\(aQ 1 l.length (l.map fun x:Nat=> .val (.int .u64 (x:Int)))).has S w v:=Iff.rfl
theorem xE{n k:Nat}{S:Nat->Prop}{w:World}{v:Value}:(aeo n k).has S w v↔∃l,nval WB l=n/\l.length<=k/\(bL l).has S w v:=Iff.rfl
theorem aaH{n:Nat}{S:Nat->Prop}{w:World}{v:Value}:(bU n).has S w v↔∃l,Nrm l/\nval WB l=n/\(l=[]->v= .slice none 0 0)/\(bL l).has S w v:=Iff.rfl
attribute [irreducible] aeo bL bU wds
end
section
attribute [local irreducible] IntKind.wrap bitLen kJ nval Go1 Reg WP aJ aN bF aA ak aj aT Sat
def sgn(neg:Bool)(n:Nat):Int:=if neg then -(n:Int)else(n:Int)
theorem adW(z:Int):sgn (decide (z < 0)) z.natAbs=z:=by unfold sgn;split <;> simp_all <;> omega
theorem gT(neg:Bool)(n:Nat):(sgn neg n).natAbs=n:=by unfold sgn;split <;> omega
abbrev zN(z:Int):List Atom:=[.c (.val (.bool (decide (z < 0)))),.c (.sat (bU z.natAbs))]
abbrev zR(neg:Bool)(n k:Nat):List Atom:=[.c (.val (.bool neg)),.c (.sat (aeo n k))]
class ZI(l:List Atom)(z:outParam Int)(k:outParam Nat):Prop where
 h:∃neg n,z=sgn neg n/\∀E S w v,(AV.agg l).has E S w v->(AV.agg (zR neg n k)).has E S w v
theorem ZI.mk'{neg:Bool}{a:CA}{n k:Nat}(h:NI a n k):ZI [.c (.val (.bool neg)),.c a] (sgn neg n) k:=⟨neg,n,rfl,fun E S w v hv=>by
 obtain⟨vs,hv,hall⟩:=hv
 match vs,hall with
 |[x,y],⟨h1,h2,_⟩=>exact⟨[x,y],hv,h1,h.p S w y h2,trivial⟩⟩
instance ZI.nat(neg:Bool)(n k:Nat):ZI [.c (.val (.bool neg)),.c (.sat (aeo n k))] (sgn neg n) k:=ZI.mk' inferInstance
instance ZI.nrm(z:Int)(k:Nat)[h:Bd z k]:ZI [.c (.val (.bool (decide (z < 0)))),.c (.sat (bU z.natAbs))] z k:=by
 have:=ZI.mk' (neg:=decide (z < 0)) (NI.adu h.h)
 rwa [adW]at this
instance ZI.raw(neg:Bool)(l:List Nat):ZI [.c (.val (.bool neg)),.c (.sat (bL l))] (sgn neg (nval WB l)) l.length:=ZI.mk' inferInstance
instance ZI.zero:ZI [.c (.val (.bool false)),.c (.val (.slice none 0 0))] 0 0:=ZI.mk' (neg:=false) (n:=0) inferInstance
theorem aqN{n k:Nat}{S:Nat->Prop}{w:World}{v:Value}(h:(aeo n k).has S w v):n < WB ^ k:=by
 obtain⟨l,h1,h2,h3⟩:=xE.1 h;rw[<-h1];exact zy (bL.rn h3).sm h2
theorem wO{neg:Bool}{n k:Nat}{E:Env}{S:Nat->Prop}{w:World}{v:Value}(h:(AV.agg (zR neg n k)).has E S w v):n < WB ^ k:=by
 obtain⟨vs,_,hall⟩:=h
 match vs,hall with
 |[_,_],⟨_,h2,_⟩=>exact aqN h2
theorem z1{f:FuncId}{r:AV}{l:List Atom}{z:Int}{k:Nat}[h:ZI l z k](he:∃fn,prog.funcs[f]? =some fn/\(fn.name== "runtime.NumGoroutine")=false/\fn.body.isNone=false)
  (hf:∀neg n,z=sgn neg n->BdN n k->ah prog f [.agg (zR neg n k)] r):ah prog f [.agg l] r:=by
 obtain⟨neg,n,hz,hm⟩:=h.h;refine ah.fact he (fun hb=>hf neg n hz hb) fun E S w vs hv=>?_
 match vs,hv with
 |[x],⟨h1,_⟩=>exact⟨⟨hm E S w x h1,trivial⟩,⟨wO (hm E S w x h1)⟩⟩
theorem z2{f:FuncId}{r:AV}{l l':List Atom}{z z':Int}{k k':Nat}[h:ZI l z k][h':ZI l' z' k'](he:∃fn,prog.funcs[f]? =some fn/\(fn.name== "runtime.NumGoroutine")=false/\fn.body.isNone=false)
  (hf:∀neg n neg' n',z=sgn neg n->z'=sgn neg' n'->BdN n k->BdN n' k'->ah prog f [.agg (zR neg n k),.agg (zR neg' n' k')] r):ah prog f [.agg l,.agg l'] r:=by
 obtain⟨neg,n,hz,hm⟩:=h.h;obtain⟨neg',n',hz',hm'⟩:=h'.h;refine ah.fact (φ:=BdN n k/\BdN n' k') he (fun hb=>hf neg n neg' n' hz hz' hb.1 hb.2) fun E S w vs hv=>?_
 match vs,hv with
 |[x,y],⟨h1,h2,_⟩=>exact⟨⟨hm E S w x h1,hm' E S w y h2,trivial⟩,⟨wO (hm E S w x h1)⟩,⟨wO (hm' E S w y h2)⟩⟩
instance Bd.sgn(neg:Bool)(n k:Nat)[h:BdN n k]:Bd (sgn neg n) k:=⟨by rw[gT];exact h.h⟩
theorem auJ(neg:Bool)(n:Nat):zN (sgn neg n)=[.c (.val (.bool (neg&&decide (0 < n)))),.c (.sat (bU n))]:=by
 have h1:decide (sgn neg n < 0)=(neg&&decide (0 < n)):=by
  unfold sgn;cases neg <;> simp
 unfold zN;rw[gT,h1]
theorem pq{a:CA}{x k:Nat}[ha:NI a x k](neg:Bool)(hk:k<=1099511627775):ah prog 37 [.it (.one (.c a)),.v (.bool neg)] (.agg (zN (sgn neg x))):=by
 rw[auJ];refine ah.args (args':=[.r (aeo x k),.v (.bool neg)]) ?_ (fun E S w vs hv=>?_)
 rotate_left
 ·match vs,hv with
  |[u,v],⟨h1,h2,_⟩=>exact⟨ha.p S w u h1,h2,trivial⟩
 refine ah.fn func37 results37 ntmps37 rfl rfl rfl zd rfl fun _ _ _ _ _=>?_
 cases neg
 ·repeat(first|refine zg ?_|(refine SX.Go1.is ?_;refine SX.Go1.dw ?_;first
     |refine SX.Go1.call rfl (atF hk) rfl rfl ?_))
  exact aA.eq1 ak.dP rfl
 ·repeat(first|refine zg ?_|(refine SX.Go1.is ?_;refine SX.Go1.dw ?_;first
     |refine SX.Go1.call rfl (atF hk) rfl rfl ?_))
  refine aA.eq1 ak.dP ?_;have h:decide (0 < ((wds x).length:Int))=decide (0 < x):=by
   have:=rE x;rw[decide_eq_decide];omega
  show AV0.agg [Atom.c (CA.val (.bool (decide (0 < ((wds x).length:Int))))),_]=_;rw[h];rfl
def aS(z:Int):Int:=if z=0 then 0 else if z < 0 then -1 else 1
theorem nQ{n:Nat}:bitLen n=0↔n=0:=by
 unfold bitLen;split <;> simp_all
theorem jQ{l:List Atom}{z:Int}{k:Nat}[h:ZI l z k](hk:k<=1099511627775):ah prog 24 [.agg l] (.v (.int .i64 (aS z))):=by
 refine z1 ⟨_,func24,rfl,rfl⟩ fun neg n hz hn=>?_
 subst hz;refine ah.fn func24 results24 ntmps24 rfl rfl rfl zd rfl fun _ _ _ _ _=>?_
 have hb:=nQ (n:=n);repeat(first|refine zg ?_|(refine SX.Go1.is ?_;refine SX.Go1.dw ?_;first
    |refine SX.Go1.call rfl (agf hk) rfl rfl ?_))
 refine WP.cond rfl (fun hc=>?_) (fun hc=>?_)
 ·repeat(first|refine zg ?_)
  refine aA.eq1 (ak.tmp rfl) ?_;have:n=0:=by simp at hc;omega
  subst this;cases neg <;> rfl
 ·repeat(first|refine zg ?_)
  have hn:0 < n:=by simp at hc;omega
  cases neg
  ·repeat(first|refine zg ?_)
   refine aA.eq1 (ak.tmp rfl) ?_;have:aS (sgn false n)=1:=by unfold aS sgn;simp;omega
   rw[this]
  ·repeat(first|refine zg ?_)
   refine aA.eq1 (ak.tmp rfl) ?_;have:aS (sgn true n)= -1:=by unfold aS sgn;simp;omega
   rw[this]
theorem asn(neg:Bool)(n:Nat):sgn (!neg) n= -sgn neg n:=by unfold sgn;cases neg <;> simp
theorem alI{l:List Atom}{z:Int}{k:Nat}[h:ZI l z k](hk:k<=1099511627775):ah prog 26 [.agg l] (.agg (zN (-z))):=by
 refine z1 ⟨_,func26,rfl,rfl⟩ fun neg n hz hn=>?_
 subst hz;rw[<-asn];refine ah.fn func26 results26 ntmps26 rfl rfl rfl zd rfl fun _ _ _ _ _=>?_
 repeat(first|refine zg ?_|(refine SX.Go1.is ?_;refine SX.Go1.dw ?_;first
    |refine SX.Go1.call rfl (pq _ hk) rfl rfl ?_))
 exact aA.eq1 ak.dP rfl
theorem zAbs{l:List Atom}{z:Int}{k:Nat}[h:ZI l z k](hk:k<=1099511627775):ah prog 27 [.agg l] (.agg (zN (z.natAbs:Int))):=by
 refine z1 ⟨_,func27,rfl,rfl⟩ fun neg n hz hn=>?_
 subst hz;rw[gT];refine ah.fn func27 results27 ntmps27 rfl rfl rfl zd rfl fun _ _ _ _ _=>?_
 repeat(first|refine zg ?_|(refine SX.Go1.is ?_;refine SX.Go1.dw ?_;first
    |refine SX.Go1.call rfl (pq false hk) rfl rfl ?_))
 exact aA.eq1 ak.dP rfl
end
section
attribute [local irreducible] IntKind.wrap bitLen kJ nval Go1 Reg WP aJ aN bF aA ak aj aT Sat
attribute [local irreducible] sgn aS
theorem anv(z:Int)(h0:0<=z)(h1:z < 18446744073709551616):ah prog 38 [.v (.int .u64 z)] (.r (bU z.natAbs)):=by
 have:=nOf z.natAbs (by rw[dn];omega)
 rwa [show ((z.natAbs:Nat):Int)=z by omega]at this
theorem zOf(z:Int)(h1: -9223372036854775808<=z)(h2:z<=9223372036854775807):ah prog 11 [.v (.int .i64 z)] (.agg (zN z)):=by
 have hb:NI (.sat (bU z.natAbs)) z.natAbs 1:=NI.adu (avt z h1 h2);refine ah.fn func11 results11 ntmps11 rfl rfl rfl zd rfl fun _ _ _ _ _=>?_
 repeat(first|refine zg ?_)
 refine WP.cond rfl (fun hc=>?_) (fun hc=>?_)
 ·have hz:z < 0:=by simpa using hc
  have hw:IntKind.u64.wrap (0 - IntKind.u64.wrap z)=(z.natAbs:Int):=by
   simp only[IntKind.wrap,IntKind.bits,IntKind.signed];simp;omega
  have hs:sgn true z.natAbs=z:=by unfold sgn;simp;omega
  have hcc:=nOf (z.natAbs) (by rw[dn];omega)
  repeat(first|refine zg ?_|(refine SX.Go1.is ?_;refine SX.Go1.dw ?_;first
     |refine SX.Go1.call rfl (hcc) rfl rfl ?_
     |refine SX.Go1.call rfl (pq true zE) rfl rfl ?_))
  rw[hs];exact aA.eq1 ak.dP rfl
 ·have hz:0<=z:=by simpa using hc
  have hw:IntKind.u64.wrap z=(z.natAbs:Int):=by
   simp only[IntKind.wrap,IntKind.bits,IntKind.signed];simp;omega
  have hs:sgn false z.natAbs=z:=by unfold sgn;simp;omega
  have hcc:=nOf (z.natAbs) (by rw[dn];omega)
  repeat(first|refine zg ?_|(refine SX.Go1.is ?_;refine SX.Go1.dw ?_;first
     |refine SX.Go1.call rfl (hcc) rfl rfl ?_
     |refine SX.Go1.call rfl (anv _ hz zE) rfl rfl ?_
     |refine SX.Go1.call rfl (pq false zE) rfl rfl ?_))
  rw[hs];exact aA.eq1 ak.dP rfl
theorem aez(neg:Bool)(n m:Nat):sgn neg (n+m)=sgn neg n+sgn neg m:=by unfold sgn;split <;> omega
theorem ahq(neg:Bool){n m:Nat}(h:m<=n):sgn neg (n - m)=sgn neg n+sgn (!neg) m:=by unfold sgn;cases neg <;> simp <;> omega
theorem ahe(neg:Bool){n m:Nat}(h:n<=m):sgn (!neg) (m - n)=sgn neg n+sgn (!neg) m:=by unfold sgn;cases neg <;> simp <;> omega
theorem ahc{l l':List Atom}{x y:Int}{k m:Nat}[h:ZI l x k][h':ZI l' y m](hk:k+m<=1099511627774):ah prog 53 [.agg l,.agg l'] (.agg (zN (x+y))):=by
 refine z2 ⟨_,func53,rfl,rfl⟩ fun neg n neg2 n2 hz hz2 hn hn2=>?_
 subst hz hz2;refine ah.fn func53 results53 ntmps53 rfl rfl rfl zd rfl fun _ _ _ _ _=>?_
 repeat(first|refine zg ?_)
 refine WP.cond rfl (fun hc=>?_) (fun hc=>?_)
 ·have hq:neg=neg2:=by simpa using hc
  subst hq;repeat(first|refine zg ?_|(refine SX.Go1.is ?_;refine SX.Go1.dw ?_;first
     |refine SX.Go1.call rfl (nAdd zE) rfl rfl ?_
     |refine SX.Go1.call rfl (pq _ zE) rfl rfl ?_))
  rw[<-aez];exact aA.eq1 ak.dP rfl
 ·have hq:neg2=!neg:=by cases neg <;> cases neg2 <;> simp_all
  subst hq;repeat(first|refine zg ?_|(refine SX.Go1.is ?_;refine SX.Go1.dw ?_;first
     |refine SX.Go1.call rfl (nSub zE) rfl rfl ?_))
  refine WP.cond rfl (fun hc2=>?_) (fun hc2=>?_)
  ·have hle:n2<=n:=by simpa using hc2
   repeat(first|refine zg ?_|(refine SX.Go1.is ?_;refine SX.Go1.dw ?_;first
      |refine SX.Go1.call rfl (pq _ zE) rfl rfl ?_))
   rw[<-ahq neg hle];exact aA.eq1 ak.dP rfl
  ·have hle:n<=n2:=by simp at hc2;omega
   repeat(first|refine zg ?_|(refine SX.Go1.is ?_;refine SX.Go1.dw ?_;first
      |refine SX.Go1.call rfl (nSub zE) rfl rfl ?_
      |refine SX.Go1.call rfl (pq _ zE) rfl rfl ?_))
   rw[<-ahe neg hle];exact aA.eq1 ak.dP rfl
theorem alJ{l l':List Atom}{x y:Int}{k m:Nat}[h:ZI l x k][h':ZI l' y m](hk:k+m<=1099511627774):ah prog 31 [.agg l,.agg l'] (.agg (zN (x - y))):=by
 refine z2 ⟨_,func31,rfl,rfl⟩ fun neg n neg2 n2 hz hz2 hn hn2=>?_
 subst hz hz2;rw[Int.sub_eq_add_neg];refine ah.fn func31 results31 ntmps31 rfl rfl rfl zd rfl fun _ _ _ _ _=>?_
 repeat(first|refine zg ?_|(refine SX.Go1.is ?_;refine SX.Go1.dw ?_;first
    |refine SX.Go1.call rfl (alI zE) rfl rfl ?_
    |refine SX.Go1.call rfl (ahc zE) rfl rfl ?_))
 exact aA.eq1 ak.dP rfl
theorem arE(a b:Bool)(n m:Nat):sgn (!(a==b)) (n*m)=sgn a n*sgn b m:=by unfold sgn;cases a <;> cases b <;> simp[Int.neg_mul,Int.mul_neg]
theorem zMul{l l':List Atom}{x y:Int}{k m:Nat}[h:ZI l x k][h':ZI l' y m](hk:k+m<=274877906944):ah prog 32 [.agg l,.agg l'] (.agg (zN (x*y))):=by
 refine z2 ⟨_,func32,rfl,rfl⟩ fun neg n neg2 n2 hz hz2 hn hn2=>?_
 subst hz hz2;rw[<-arE];refine ah.fn func32 results32 ntmps32 rfl rfl rfl zd rfl fun _ _ _ _ _=>?_
 repeat(first|refine zg ?_|(refine SX.Go1.is ?_;refine SX.Go1.dw ?_;first
    |refine SX.Go1.call rfl (mMul zE) rfl rfl ?_
    |refine SX.Go1.call rfl (pq _ zE) rfl rfl ?_))
 exact aA.eq1 ak.dP rfl
def oq(x y:Int):Int:=if x < y then -1 else if x=y then 0 else 1
theorem ak6(n m:Nat):oq (sgn true n) (sgn true m)=kJ m n:=by
 unfold oq sgn kJ;simp;repeat' split <;> omega
theorem aq9(n m:Nat):oq (sgn false n) (sgn false m)=kJ n m:=by
 unfold oq sgn kJ;simp;repeat' split <;> omega
theorem zCmp{l l':List Atom}{x y:Int}{k m:Nat}[h:ZI l x k][h':ZI l' y m](hk:k+m<=1099511627774):ah prog 89 [.agg l,.agg l'] (.v (.int .i64 (oq x y))):=by
 refine z2 ⟨_,func89,rfl,rfl⟩ fun neg n neg2 n2 hz hz2 hn hn2=>?_
 subst hz hz2;refine ah.fn func89 results89 ntmps89 rfl rfl rfl zd rfl fun _ _ _ _ _=>?_
 repeat(first|refine zg ?_|(refine SX.Go1.is ?_;refine SX.Go1.dw ?_;first
    |refine SX.Go1.call rfl (jQ zE) rfl rfl ?_))
 have hx:aS (sgn neg n) < 0↔sgn neg n < 0:=by unfold aS;repeat' split <;> omega
 have hx0:0 < aS (sgn neg n)↔0 < sgn neg n:=by unfold aS;repeat' split <;> omega
 have hy:aS (sgn neg2 n2) < 0↔sgn neg2 n2 < 0:=by unfold aS;repeat' split <;> omega
 have hy0:0 < aS (sgn neg2 n2)↔0 < sgn neg2 n2:=by unfold aS;repeat' split <;> omega
 have hxr: -1<=aS (sgn neg n)/\aS (sgn neg n)<=1:=by unfold aS;repeat' split <;> omega
 have hyr: -1<=aS (sgn neg2 n2)/\aS (sgn neg2 n2)<=1:=by unfold aS;repeat' split <;> omega
 refine WP.cond rfl (fun hc=>?_) (fun hc=>?_)
 ·repeat(first|refine zg ?_)
  refine aA.eq1 (ak.tmp rfl) ?_;have:oq (sgn neg n) (sgn neg2 n2)= -1:=by unfold oq;rw[if_pos (by simp at hc;omega)]
  rw[this]
 ·repeat(first|refine zg ?_)
  refine WP.cond rfl (fun hc2=>?_) (fun hc2=>?_)
  ·repeat(first|refine zg ?_)
   refine aA.eq1 (ak.tmp rfl) ?_;have:oq (sgn neg n) (sgn neg2 n2)=1:=by unfold oq;rw[if_neg (by simp at hc2;omega),if_neg (by simp at hc2;omega)]
   rw[this]
  ·repeat(first|refine zg ?_)
   refine WP.cond rfl (fun hc3=>?_) (fun hc3=>?_)
   ·have e1:sgn neg n=sgn true n:=by simp at hc hc2 hc3;unfold sgn at*;cases neg <;> simp at* <;> omega
    have e2:sgn neg2 n2=sgn true n2:=by simp at hc hc2 hc3;unfold sgn at*;cases neg2 <;> simp at* <;> omega
    repeat(first|refine zg ?_|(refine SX.Go1.is ?_;refine SX.Go1.dw ?_;first
       |refine SX.Go1.call rfl (nCmp zE) rfl rfl ?_))
    rw[e1,e2,ak6];exact aA.eq1 (ak.tmp rfl) rfl
   ·have e1:sgn neg n=sgn false n:=by simp at hc hc2 hc3;unfold sgn at*;cases neg <;> simp at* <;> omega
    have e2:sgn neg2 n2=sgn false n2:=by simp at hc hc2 hc3;unfold sgn at*;cases neg2 <;> simp at* <;> omega
    repeat(first|refine zg ?_|(refine SX.Go1.is ?_;refine SX.Go1.dw ?_;first
       |refine SX.Go1.call rfl (nCmp zE) rfl rfl ?_))
    rw[e1,e2,aq9];exact aA.eq1 (ak.tmp rfl) rfl
theorem akC(x y:Int):decide (oq x y=0)=decide (x=y):=by
 unfold oq;rw[decide_eq_decide];repeat' split <;> omega
theorem zSame{l l':List Atom}{x y:Int}{k m:Nat}[h:ZI l x k][h':ZI l' y m](hk:k+m<=1099511627774):ah prog 58 [.agg l,.agg l'] (.v (.bool (decide (x=y)))):=by
 refine z2 ⟨_,func58,rfl,rfl⟩ fun neg n neg2 n2 hz hz2 hn hn2=>?_
 subst hz hz2;rw[<-akC];refine ah.fn func58 results58 ntmps58 rfl rfl rfl zd rfl fun _ _ _ _ _=>?_
 repeat(first|refine zg ?_|(refine SX.Go1.is ?_;refine SX.Go1.dw ?_;first
    |refine SX.Go1.call rfl (zCmp zE) rfl rfl ?_))
 exact aA.eq1 (ak.tmp rfl) rfl
theorem zBits{l:List Atom}{z:Int}{k:Nat}[h:ZI l z k](hk:k<=1099511627775):ah prog 305 [.agg l] (.v (.int .i64 (bitLen z.natAbs:Int))):=by
 refine z1 ⟨_,func305,rfl,rfl⟩ fun neg n hz hn=>?_
 subst hz;rw[gT];refine ah.fn func305 results305 ntmps305 rfl rfl rfl zd rfl fun _ _ _ _ _=>?_
 repeat(first|refine zg ?_|(refine SX.Go1.is ?_;refine SX.Go1.dw ?_;first
    |refine SX.Go1.call rfl (agf zE) rfl rfl ?_))
 exact aA.eq1 (ak.tmp rfl) rfl
def kL(z:Int):Bool:=decide (-9223372036854775808<=z)&&decide (z<=9223372036854775807)
def qH(z:Int):Int:=if kL z then z else 0
theorem aqw{l:List Atom}{z:Int}{k:Nat}[h:ZI l z k](hk:k<=1099511627775):ah prog 13 [.agg l] (.tup [.one (.c (.val (.int .i64 (qH z)))),.one (.c (.val (.bool (kL z))))]):=by
 refine z1 ⟨_,func13,rfl,rfl⟩ fun neg n hz hn=>?_
 subst hz;refine ah.fn func13 results13 ntmps13 rfl rfl rfl zd rfl fun _ _ _ _ _=>?_
 repeat(first|refine zg ?_|(refine SX.Go1.is ?_;refine SX.Go1.dw ?_;first
    |refine SX.Go1.call rfl (aoZ zE) rfl rfl ?_
    |refine SX.Go1.call rfl (jQ zE) rfl rfl ?_))
 have hsg:decide (aS (sgn neg n) < 0)=decide (sgn neg n < 0):=by
  rw[decide_eq_decide];unfold aS;repeat' split <;> omega
 have hab:=gT neg n;have hW:=dn;generalize sgn neg n=z at*;generalize hd:decide (aS z < 0)=s at*;generalize hX:(if n < WB then n else 0)=X at*
 refine WP.cond rfl (fun hc=>?_) (fun hc=>?_)
 ·have hb:kL z=false:=by unfold kL;simp at hc ⊢;omega
  repeat(first|refine zg ?_)
  refine aA.eq2 (ak.tmp rfl) (ak.tmp rfl) ?_ ?_
  ·unfold qH;rw[hb];rfl
  ·rw[hb]
 ·have hlt:n < WB:=by simpa using hc
  rw[if_pos hlt]at hX;subst hX;cases s with
  |true=>
   have hz:z < 0:=by simpa using hsg.symm
   repeat(first|refine zg ?_)
   refine WP.cond rfl (fun hc=>?_) (fun hc=>?_)
   ·have hb:kL z=false:=by unfold kL;simp at hc ⊢;omega
    repeat(first|refine zg ?_)
    refine aA.eq2 (ak.tmp rfl) (ak.tmp rfl) ?_ ?_
    ·unfold qH;rw[hb];rfl
    ·rw[hb]
   ·have hb:kL z=true:=by unfold kL;simp at hc ⊢;omega
    repeat(first|refine zg ?_)
    refine aA.eq2 (ak.tmp rfl) (ak.tmp rfl) ?_ ?_
    ·have e:qH z=z:=by unfold qH;rw[hb];rfl
     have e2:IntKind.i64.wrap (0 - IntKind.i64.wrap (n:Int))=z:=by simp at hc;simp only[IntKind.wrap_i64];omega
     rw[e,e2]
    ·rw[hb]
  |false=>
   have hz:0<=z:=by simpa using hsg.symm
   repeat(first|refine zg ?_)
   refine WP.cond rfl (fun hc=>?_) (fun hc=>?_)
   ·have hb:kL z=false:=by unfold kL;simp at hc ⊢;omega
    repeat(first|refine zg ?_)
    refine aA.eq2 (ak.tmp rfl) (ak.tmp rfl) ?_ ?_
    ·unfold qH;rw[hb];rfl
    ·rw[hb]
   ·have hb:kL z=true:=by unfold kL;simp at hc ⊢;omega
    repeat(first|refine zg ?_)
    refine aA.eq2 (ak.tmp rfl) (ak.tmp rfl) ?_ ?_
    ·have e:qH z=z:=by unfold qH;rw[hb];rfl
     have e2:IntKind.i64.wrap (n:Int)=z:=by simp at hc;simp only[IntKind.wrap_i64];omega
     rw[e,e2]
    ·rw[hb]
end
section
attribute [local irreducible] IntKind.wrap bitLen kJ nval Go1 Reg WP aJ aN bF aA ak aj aT Sat
def jC(x y:Int):Int:=if y=0 then 0 else x.tmod y
theorem arJ(a b:Bool)(n m:Nat):sgn (!(a==b)) (n / m)=(sgn a n).tdiv (sgn b m):=by
 unfold sgn;cases a <;> cases b <;> simp[Int.neg_tdiv,Int.tdiv_neg]
theorem ru{b:Bool}{m:Nat}:sgn b m=0↔m=0:=by unfold sgn;cases b <;> simp
theorem arT(a b:Bool)(n m:Nat):sgn a (if m=0 then 0 else n % m)=jC (sgn a n) (sgn b m):=by
 unfold jC;by_cases h:m=0
 ·rw[if_pos h,if_pos (ru.2 h)];cases a <;> rfl
 ·rw[if_neg h,if_neg (fun e=>h (ru.1 e))]
  unfold sgn;cases a <;> cases b <;> simp[Int.neg_tmod,Int.tmod_neg,Int.tmod_eq_emod_of_nonneg (Int.natCast_nonneg n)]
instance Bd.tdiv(x y:Int)(k:Nat)[h:Bd x k]:Bd (x.tdiv y) k:=⟨by rw[Int.natAbs_tdiv];exact zxb (Nat.div_le_self _ _) h.h⟩
instance Bd.jC(x y:Int)(k:Nat)[h:Bd x k]:Bd (jC x y) k:=⟨by
 unfold Proofs.YthnkfhfcgjoieaaGreatDoor.jC
 split
 ·exact zqf zc (gD k)
 ·rw[Int.natAbs_tmod];exact zxb (Nat.mod_le _ _) h.h⟩
attribute [local irreducible] sgn aS jC
theorem ahP{l l':List Atom}{x y:Int}{k m:Nat}[h:ZI l x k][h':ZI l' y m](hk:k+m<=1099511627770):ah prog 56 [.agg l,.agg l'] (.tup [.agg (zN (x.tdiv y)),.agg (zN (jC x y)),.one (.c (.val (.bool (decide (y≠0)))))]):=by
 refine z2 ⟨_,func56,rfl,rfl⟩ fun neg n neg2 n2 hz hz2 hn hn2=>?_
 subst hz hz2;rw[<-arJ,<-arT,show decide (sgn neg2 n2≠0)=decide (n2≠0)by rw[decide_eq_decide,ne_eq,ne_eq,ru]]
 refine ah.fn func56 results56 ntmps56 rfl rfl rfl zd rfl fun _ _ _ _ _=>?_
 repeat(first|refine zg ?_|(refine SX.Go1.is ?_;refine SX.Go1.dw ?_;first
    |refine SX.Go1.call rfl (aef zE) rfl rfl ?_
    |refine SX.Go1.call rfl (pq _ zE) rfl rfl ?_))
 exact aA.eq3 ak.dP ak.dP (ak.tmp rfl) rfl rfl rfl
theorem zOne:ah prog 55 [] (.agg (zN 1)):=by
 refine ah.fn func55 results55 ntmps55 rfl rfl rfl zp rfl fun _ _ _ _ _=>?_
 repeat(first|refine zg ?_|(refine SX.Go1.is ?_;refine SX.Go1.dw ?_;first
    |refine SX.Go1.call rfl (zOf 1 zE zE) rfl rfl ?_))
 exact aA.eq1 ak.dP rfl
def zfq(x y:Int):Int:=if y=0 then 0 else x.fdiv y
def zfr(x y:Int):Int:=if y=0 then 0 else x.fmod y
theorem alQ(a b:Int):decide (IntKind.i64.wrap (aS a*aS b) < 0)=decide (a*b < 0):=by
 rw[decide_eq_decide];unfold aS;rcases Int.lt_trichotomy a 0 with ha|ha|ha <;> rcases Int.lt_trichotomy b 0 with hb|hb|hb
 all_goals first
  |(subst ha;simp[IntKind.wrap_i64];done)
  |(subst hb;simp[IntKind.wrap_i64];done)
  |skip
 ·have:=Int.mul_pos_of_neg_of_neg ha hb;rw[if_neg zE,if_pos ha,if_neg zE,if_pos hb];simp[IntKind.wrap_i64];omega
 ·have:=Int.mul_neg_of_neg_of_pos ha hb;rw[if_neg zE,if_pos ha,if_neg zE,if_neg zE];simp[IntKind.wrap_i64];omega
 ·have:=Int.mul_neg_of_pos_of_neg ha hb;rw[if_neg zE,if_neg zE,if_neg zE,if_pos hb];simp[IntKind.wrap_i64];omega
 ·have:=Int.mul_pos ha hb;rw[if_neg zE,if_neg zE,if_neg zE,if_neg zE];simp[IntKind.wrap_i64];omega
theorem aaZ{x y:Int}(hy:y≠0)(h:x.tmod y*y < 0):x.tdiv y - 1=x.fdiv y/\x.tmod y+y=x.fmod y:=by
 have h1:=Int.tmod_add_mul_tdiv x y;have h2:=Int.fmod_add_mul_fdiv x y;have hq:x.tdiv y - 1=x.fdiv y:=by
  have h0:¬y ∣ x:=fun hd=>by rw[Int.tmod_eq_zero_of_dvd hd]at h;simp at h
  rw[Int.tdiv_eq_ediv,Int.fdiv_eq_ediv];have hs:(x.tmod y < 0/\0 < y)\/(0 < x.tmod y/\y < 0):=by
   rcases Int.lt_trichotomy (x.tmod y) 0 with ha|ha|ha
   ·refine .inl ⟨ha,?_⟩;rcases Int.lt_trichotomy y 0 with hb|hb|hb
    ·have:=Int.mul_pos_of_neg_of_neg ha hb;omega
    ·exact absurd hb hy
    ·exact hb
   ·rw[ha]at h;simp at h
   ·refine .inr ⟨ha,?_⟩;rcases Int.lt_trichotomy y 0 with hb|hb|hb
    ·exact hb
    ·exact absurd hb hy
    ·have:=Int.mul_pos ha hb;omega
  rcases hs with⟨a,b⟩|⟨a,b⟩
  ·have hx:x < 0:=by
    rcases Int.lt_or_le x 0 with hx|hx
    ·exact hx
    ·have:=Int.tmod_nonneg y hx;omega
   rw[if_neg (by simp[h0];omega),if_pos (by left;omega)]
   rw[Int.sign_eq_one_of_pos b];omega
  ·have hx:0 < x:=by
    rcases Int.lt_or_le 0 x with hx|hx
    ·exact hx
    ·have:=Int.tmod_nonneg y (show 0<= -x by omega);rw[Int.neg_tmod]at this;omega
   rw[if_pos (by left;omega),if_neg (by simp[h0];omega)];omega
 refine⟨hq,?_⟩;rw[<-hq,Int.mul_sub]at h2;omega
theorem abF{x y:Int}(hy:y≠0)(h:¬x.tmod y*y < 0):x.tdiv y=x.fdiv y/\x.tmod y=x.fmod y:=by
 have h1:=Int.tmod_add_mul_tdiv x y;have h2:=Int.fmod_add_mul_fdiv x y;have hq:x.tdiv y=x.fdiv y:=by
  rw[Int.tdiv_eq_ediv,Int.fdiv_eq_ediv];by_cases hd:y ∣ x
  ·rw[if_pos (.inr hd),if_pos (.inr hd)];omega
  ·have h0:x.tmod y≠0:=fun e=>hd (Int.dvd_of_tmod_eq_zero e)
   rcases Int.lt_trichotomy y 0 with hb|hb|hb
   ·have:x.tmod y < 0:=by
     rcases Int.lt_trichotomy (x.tmod y) 0 with ha|ha|ha
     ·exact ha
     ·exact absurd ha h0
     ·have:=Int.mul_neg_of_pos_of_neg ha hb;omega
    have hx:x < 0:=by
     rcases Int.lt_or_le x 0 with hx|hx
     ·exact hx
     ·have:=Int.tmod_nonneg y hx;omega
    rw[if_neg (by simp[hd];omega),if_neg (by simp[hd];omega),Int.sign_eq_neg_one_of_neg hb];omega
   ·exact absurd hb hy
   ·have:0 < x.tmod y:=by
     rcases Int.lt_trichotomy (x.tmod y) 0 with ha|ha|ha
     ·have:=Int.mul_neg_of_neg_of_pos ha hb;omega
     ·exact absurd ha h0
     ·exact ha
    have hx:0<=x:=by
     rcases Int.lt_or_le x 0 with hx|hx
     ·have:=Int.tmod_nonneg y (show 0<= -x by omega);rw[Int.neg_tmod]at this;omega
     ·exact hx
    rw[if_pos (.inl hx),if_pos (.inl zE)];omega
 refine⟨hq,?_⟩;rw[<-hq]at h2;omega
theorem ahF{l l':List Atom}{x y:Int}{k m:Nat}[h:ZI l x k][h':ZI l' y m](hk:k+m<=1099511627760):ah prog 48 [.agg l,.agg l'] (.tup [.agg (zN (zfq x y)),.agg (zN (zfr x y)),.one (.c (.val (.bool (decide (y≠0)))))]):=by
 refine z2 ⟨_,func48,rfl,rfl⟩ fun neg n neg2 n2 hz hz2 hn hn2=>?_
 refine ah.fn func48 results48 ntmps48 rfl rfl rfl zd rfl fun _ _ _ _ _=>?_
 have hz2':=hz2;have hbx:Bd x k:=by rw[hz];infer_instance
 have hby:Bd y m:=by rw[hz2];infer_instance
 by_cases hy:y=0
 ·have hok:decide (y≠0)=false:=by simp[hy]
  rw[hz2]at hok;subst hz hz2;repeat(first|refine zg ?_|(refine SX.Go1.is ?_;refine SX.Go1.dw ?_;first
     |refine SX.Go1.call rfl (ahP zE) rfl rfl ?_))
  refine aA.eq3 ak.dP ak.dP (ak.tmp rfl) ?_ ?_ rfl
  ·have:zfq (sgn neg n) (sgn neg2 n2)=(sgn neg n).tdiv (sgn neg2 n2):=by unfold zfq;rw[if_pos hy,hy,Int.tdiv_zero]
   rw[this]
  ·have:zfr (sgn neg n) (sgn neg2 n2)=jC (sgn neg n) (sgn neg2 n2):=by unfold zfr jC;rw[if_pos hy,if_pos hy]
   rw[this]
 ·have hok:decide (y≠0)=true:=by simp[hy]
  rw[hz2]at hok;subst hz hz2;have hr:jC (sgn neg n) (sgn neg2 n2)=(sgn neg n).tmod (sgn neg2 n2):=by unfold jC;rw[if_neg hy]
  repeat(first|refine zg ?_|(refine SX.Go1.is ?_;refine SX.Go1.dw ?_;first
     |refine SX.Go1.call rfl (ahP zE) rfl rfl ?_
     |refine SX.Go1.call rfl (jQ zE) rfl rfl ?_))
  rw[alQ,hr];have bq:Bd ((sgn neg n).tdiv (sgn neg2 n2)) k:=inferInstance;have br:Bd ((sgn neg n).tmod (sgn neg2 n2)) k:=by rw[<-hr];infer_instance
  refine WP.cond rfl (fun hc=>?_) (fun hc=>?_)
  ·obtain⟨e1,e2⟩:=aaZ hy (by simpa using hc)
   repeat(first|refine zg ?_|(refine SX.Go1.is ?_;refine SX.Go1.dw ?_;first
      |refine SX.Go1.call rfl (zOne) rfl rfl ?_
      |refine SX.Go1.call rfl (alJ zE) rfl rfl ?_
      |refine SX.Go1.call rfl (ahc zE) rfl rfl ?_))
   refine aA.eq3 ak.dP ak.dP (ak.tmp rfl) ?_ ?_ rfl
   ·unfold zfq;rw[if_neg hy,e1]
   ·unfold zfr;rw[if_neg hy,e2]
  ·obtain⟨e1,e2⟩:=abF hy (by simpa using hc)
   repeat(first|refine zg ?_)
   refine aA.eq3 ak.dP ak.dP (ak.tmp rfl) ?_ ?_ rfl
   ·unfold zfq;rw[if_neg hy,e1]
   ·unfold zfr;rw[if_neg hy,e2]
instance Bd.zfq(x y:Int)(k:Nat)[h:Bd x k]:Bd (zfq x y) (k+1+1):=⟨by
 unfold Proofs.YthnkfhfcgjoieaaGreatDoor.zfq
 split
 ·exact zqf zc (gD _)
 ·by_cases h0:x.tmod y*y < 0
  ·rw[<-(aaZ (by assumption) h0).1];exact(Bd.sub (x.tdiv y) 1 k 1).h
  ·rw[<-(abF (by assumption) h0).1];exact Bd.mono (Bd.tdiv x y k).h zE⟩
instance Bd.zfr(x y:Int)(k m:Nat)[h:Bd x k][h':Bd y m]:Bd (zfr x y) (k+m+1):=⟨by
 unfold Proofs.YthnkfhfcgjoieaaGreatDoor.zfr
 split
 ·exact zqf zc (gD _)
 ·have hb:Bd (x.tmod y) k:=⟨by rw[Int.natAbs_tmod];exact zxb (Nat.mod_le _ _) h.h⟩
  by_cases h0:x.tmod y*y < 0
  ·rw[<-(aaZ (by assumption) h0).2];exact(Bd.add (x.tmod y) y k m).h
  ·rw[<-(abF (by assumption) h0).2];exact Bd.mono hb.h zE⟩
attribute [local irreducible] zfq zfr
def zeq(x y:Int):Int:=if y=0 then 0 else x / y
def zer(x y:Int):Int:=if y=0 then 0 else x % y
theorem afL{x y:Int}(hy:y≠0)(h:0<=x.tmod y):x.tdiv y=x / y/\x.tmod y=x % y:=by
 have h1:=Int.tmod_add_mul_tdiv x y;have h2:=Int.emod_add_mul_ediv x y;have hq:x.tdiv y=x / y:=by
  rw[Int.tdiv_eq_ediv];by_cases hd:y ∣ x
  ·rw[if_pos (.inr hd)];omega
  ·have h0:x.tmod y≠0:=fun e=>hd (Int.dvd_of_tmod_eq_zero e)
   have hx:0<=x:=by
    rcases Int.lt_or_le x 0 with hx|hx
    ·have:=Int.tmod_nonneg y (show 0<= -x by omega);rw[Int.neg_tmod]at this;omega
    ·exact hx
   rw[if_pos (.inl hx)];omega
 refine⟨hq,?_⟩;rw[<-hq]at h2;omega
theorem afW{x y:Int}(hy:y≠0)(h:x.tmod y < 0):(0 < y->x.tdiv y - 1=x / y/\x.tmod y+y=x % y)/\(y < 0->x.tdiv y+1=x / y/\x.tmod y - y=x % y):=by
 have h1:=Int.tmod_add_mul_tdiv x y;have h2:=Int.emod_add_mul_ediv x y;have hd:¬y ∣ x:=fun hd=>by rw[Int.tmod_eq_zero_of_dvd hd]at h;omega
 have hx:x < 0:=by
  rcases Int.lt_or_le x 0 with hx|hx
  ·exact hx
  ·have:=Int.tmod_nonneg y hx;omega
 have hq:x.tdiv y=x / y+y.sign:=by rw[Int.tdiv_eq_ediv,if_neg (by simp[hd];omega)]
 constructor
 ·intro hp;rw[Int.sign_eq_one_of_pos hp]at hq;have e:x.tdiv y - 1=x / y:=zE
  refine⟨e,?_⟩;rw[<-e,Int.mul_sub]at h2;omega
 ·intro hp;rw[Int.sign_eq_neg_one_of_neg hp]at hq;have e:x.tdiv y+1=x / y:=zE
  refine⟨e,?_⟩;rw[<-e,Int.mul_add]at h2;omega
theorem akO(z:Int):decide (0 < aS z)=decide (0 < z):=by
 rw[decide_eq_decide];unfold aS;repeat' split <;> omega
theorem adT(z:Int):decide (0<=aS z)=decide (0<=z):=by
 rw[decide_eq_decide];unfold aS;repeat' split <;> omega
theorem yg(z:Int):decide (aS z < 0)=decide (z < 0):=by
 rw[decide_eq_decide];unfold aS;repeat' split <;> omega
theorem pU(z:Int):decide (aS z=0)=decide (z=0):=by
 rw[decide_eq_decide];unfold aS;repeat' split <;> omega
theorem aiX{l l':List Atom}{x y:Int}{k m:Nat}[h:ZI l x k][h':ZI l' y m](hk:k+m<=1099511627760):ah prog 30 [.agg l,.agg l'] (.tup [.agg (zN (zeq x y)),.agg (zN (zer x y)),.one (.c (.val (.bool (decide (y≠0)))))]):=by
 refine z2 ⟨_,func30,rfl,rfl⟩ fun neg n neg2 n2 hz hz2 hn hn2=>?_
 refine ah.fn func30 results30 ntmps30 rfl rfl rfl zd rfl fun _ _ _ _ _=>?_
 have hbx:Bd x k:=by rw[hz];infer_instance
 have hby:Bd y m:=by rw[hz2];infer_instance
 by_cases hy:y=0
 ·have hok:decide (y≠0)=false:=by simp[hy]
  have hok2:(!decide (y≠0))=true:=by simp[hy]
  rw[hz2]at hok hok2;subst hz hz2;repeat(first|refine zg ?_|(refine SX.Go1.is ?_;refine SX.Go1.dw ?_;first
     |refine SX.Go1.call rfl (ahP zE) rfl rfl ?_))
  refine aA.eq3 ak.dP ak.dP (ak.tmp rfl) ?_ ?_ rfl
  ·have:zeq (sgn neg n) (sgn neg2 n2)=(sgn neg n).tdiv (sgn neg2 n2):=by unfold zeq;rw[if_pos hy,hy,Int.tdiv_zero]
   rw[this]
  ·have:zer (sgn neg n) (sgn neg2 n2)=jC (sgn neg n) (sgn neg2 n2):=by unfold zer jC;rw[if_pos hy,if_pos hy]
   rw[this]
 ·have hok:decide (y≠0)=true:=by simp[hy]
  have hok2:(!decide (y≠0))=false:=by simp[hy]
  rw[hz2]at hok hok2;subst hz hz2;have hr:jC (sgn neg n) (sgn neg2 n2)=(sgn neg n).tmod (sgn neg2 n2):=by unfold jC;rw[if_neg hy]
  have bq:Bd ((sgn neg n).tdiv (sgn neg2 n2)) k:=inferInstance;have br:Bd ((sgn neg n).tmod (sgn neg2 n2)) k:=by rw[<-hr];infer_instance
  repeat(first|refine zg ?_|(refine SX.Go1.is ?_;refine SX.Go1.dw ?_;first
     |refine SX.Go1.call rfl (ahP zE) rfl rfl ?_
     |refine SX.Go1.call rfl (jQ zE) rfl rfl ?_))
  rw[adT,hr];refine WP.cond rfl (fun hc=>?_) (fun hc=>?_)
  ·obtain⟨e1,e2⟩:=afL hy (by simpa using hc)
   repeat(first|refine zg ?_)
   refine aA.eq3 ak.dP ak.dP (ak.tmp rfl) ?_ ?_ rfl
   ·unfold zeq;rw[if_neg hy,e1]
   ·unfold zer;rw[if_neg hy,e2]
  ·obtain⟨e1,e2⟩:=afW hy (by simpa using hc)
   repeat(first|refine zg ?_|(refine SX.Go1.is ?_;refine SX.Go1.dw ?_;first
      |refine SX.Go1.call rfl (jQ zE) rfl rfl ?_))
   rw[akO];refine WP.cond rfl (fun hc2=>?_) (fun hc2=>?_)
   ·obtain⟨e1,e2⟩:=e1 (by simpa using hc2)
    repeat(first|refine zg ?_|(refine SX.Go1.is ?_;refine SX.Go1.dw ?_;first
       |refine SX.Go1.call rfl (zOne) rfl rfl ?_
       |refine SX.Go1.call rfl (alJ zE) rfl rfl ?_
       |refine SX.Go1.call rfl (ahc zE) rfl rfl ?_))
    refine aA.eq3 ak.dP ak.dP (ak.tmp rfl) ?_ ?_ ?_
    ·unfold zeq;rw[if_neg hy,e1]
    ·unfold zer;rw[if_neg hy,e2]
    ·rw[hok]
   ·obtain⟨e1,e2⟩:=e2 (by simp at hc2;omega)
    repeat(first|refine zg ?_|(refine SX.Go1.is ?_;refine SX.Go1.dw ?_;first
       |refine SX.Go1.call rfl (zOne) rfl rfl ?_
       |refine SX.Go1.call rfl (alJ zE) rfl rfl ?_
       |refine SX.Go1.call rfl (ahc zE) rfl rfl ?_))
    refine aA.eq3 ak.dP ak.dP (ak.tmp rfl) ?_ ?_ ?_
    ·unfold zeq;rw[if_neg hy,e1]
    ·unfold zer;rw[if_neg hy,e2]
    ·rw[hok]
end
section
attribute [local irreducible] IntKind.wrap bitLen kJ nval Go1 Reg WP aJ aN bF aA ak aj aT Sat
attribute [local irreducible] sgn aS jC zfq zfr
def mE(x y:Int):Int:=if y < 0 then zfq (-x+ -x+ -y) (-y+ -y)else zfq (x+x+y) (y+y)
theorem avn{l l':List Atom}{x y:Int}{k m:Nat}[h:ZI l x k][h':ZI l' y m](hk:k+m<=68719476736):ah prog 49 [.agg l,.agg l'] (.tup [.agg (zN (mE x y)),.one (.c (.val (.bool (decide (y≠0)))))]):=by
 refine z2 ⟨_,func49,rfl,rfl⟩ fun neg n neg2 n2 hz hz2 hn hn2=>?_
 refine ah.fn func49 results49 ntmps49 rfl rfl rfl zd rfl fun _ _ _ _ _=>?_
 subst hz hz2;repeat(first|refine zg ?_|(refine SX.Go1.is ?_;refine SX.Go1.dw ?_;first
    |refine SX.Go1.call rfl (jQ zE) rfl rfl ?_))
 rw[yg];refine WP.cond rfl (fun hc=>?_) (fun hc=>?_)
 ·have hy:sgn neg2 n2 < 0:=by simpa using hc
  repeat(first|refine zg ?_|(refine SX.Go1.is ?_;refine SX.Go1.dw ?_;first
     |refine SX.Go1.call rfl (alI zE) rfl rfl ?_
     |refine SX.Go1.call rfl (ahc zE) rfl rfl ?_
     |refine SX.Go1.call rfl (ahF zE) rfl rfl ?_))
  refine aA.eq2 ak.dP (ak.tmp rfl) ?_ ?_
  ·unfold mE;rw[if_pos hy]
  ·have:decide (-sgn neg2 n2+ -sgn neg2 n2≠0)=decide (sgn neg2 n2≠0):=by rw[decide_eq_decide];omega
   rw[this]
 ·have hy:¬sgn neg2 n2 < 0:=by simpa using hc
  repeat(first|refine zg ?_|(refine SX.Go1.is ?_;refine SX.Go1.dw ?_;first
     |refine SX.Go1.call rfl (alI zE) rfl rfl ?_
     |refine SX.Go1.call rfl (ahc zE) rfl rfl ?_
     |refine SX.Go1.call rfl (ahF zE) rfl rfl ?_))
  refine aA.eq2 ak.dP (ak.tmp rfl) ?_ ?_
  ·unfold mE;rw[if_neg hy]
  ·have:decide (sgn neg2 n2+sgn neg2 n2≠0)=decide (sgn neg2 n2≠0):=by rw[decide_eq_decide];omega
   rw[this]
theorem zN0:AV0.imp (.agg [.c (.val (.bool false)),.c (.val (.slice none 0 0))]) (.agg (zN 0)):=by
 rintro E S w v ⟨vs,hv,hall⟩
 match vs,hall with
 |[a,b],⟨h1,h2,_⟩=>
  refine⟨[a,b],hv,h1,?_,trivial⟩;rw[show b=_ from h2]
  exact bU.zero
def jO(x y:Int):Bool:=decide (y≠0)&&decide (jC x y=0)
def eZ(x y:Int):Int:=if jO x y then x.tdiv y else 0
instance Bd.eZ(x y:Int)(k:Nat)[h:Bd x k]:Bd (eZ x y) k:=⟨by
 unfold Proofs.YthnkfhfcgjoieaaGreatDoor.eZ
 split
 ·exact(Bd.tdiv x y k).h
 ·exact zqf zc (gD _)⟩
theorem anq{l l':List Atom}{x y:Int}{k m:Nat}[h:ZI l x k][h':ZI l' y m](hk:k+m<=1099511627760):ah prog 29 [.agg l,.agg l'] (.tup [.agg (zN (eZ x y)),.one (.c (.val (.bool (jO x y))))]):=by
 refine z2 ⟨_,func29,rfl,rfl⟩ fun neg n neg2 n2 hz hz2 hn hn2=>?_
 refine ah.fn func29 results29 ntmps29 rfl rfl rfl zd rfl fun _ _ _ _ _=>?_
 by_cases hy:y=0
 ·have hok:decide (y≠0)=false:=by simp[hy]
  have hok2:(!decide (y≠0))=true:=by simp[hy]
  have he:jO x y=false:=by unfold jO;rw[hok];rfl
  have hq:eZ x y=0:=by unfold eZ;rw[he];rfl
  rw[he,hq];rw[hz2]at hok hok2;subst hz hz2;repeat(first|refine zg ?_|(refine SX.Go1.is ?_;refine SX.Go1.dw ?_;first
     |refine SX.Go1.call rfl (ahP zE) rfl rfl ?_))
  exact aA.mk2 (ak.imp ak.dP zN0) (ak.tmp rfl)
 ·have hok:decide (y≠0)=true:=by simp[hy]
  have hok2:(!decide (y≠0))=false:=by simp[hy]
  rw[hz2]at hok hok2;subst hz hz2;repeat(first|refine zg ?_|(refine SX.Go1.is ?_;refine SX.Go1.dw ?_;first
     |refine SX.Go1.call rfl (ahP zE) rfl rfl ?_
     |refine SX.Go1.call rfl (jQ zE) rfl rfl ?_))
  have hne:decide (aS (jC (sgn neg n) (sgn neg2 n2))≠0)=decide (jC (sgn neg n) (sgn neg2 n2)≠0):=by
   have:=pU (jC (sgn neg n) (sgn neg2 n2));rw[decide_eq_decide]at*;omega
  rw[hne];refine WP.cond rfl (fun hc=>?_) (fun hc=>?_)
  ·have hz0:jC (sgn neg n) (sgn neg2 n2)≠0:=by simpa using hc
   have he:jO (sgn neg n) (sgn neg2 n2)=false:=by unfold jO;simp[hz0]
   have hq:eZ (sgn neg n) (sgn neg2 n2)=0:=by unfold eZ;rw[he];rfl
   rw[he,hq];repeat(first|refine zg ?_)
   exact aA.mk2 (ak.imp ak.dP zN0) (ak.tmp rfl)
  ·have hz0:jC (sgn neg n) (sgn neg2 n2)=0:=by simpa using hc
   have he:jO (sgn neg n) (sgn neg2 n2)=true:=by unfold jO;rw[hok];simp[hz0]
   have hq:eZ (sgn neg n) (sgn neg2 n2)=(sgn neg n).tdiv (sgn neg2 n2):=by unfold eZ;rw[he];rfl
   rw[he,hq];repeat(first|refine zg ?_)
   exact aA.mk2 ak.dP (ak.tmp rfl)
theorem amd(n:Nat):sgn false n=(n:Int):=by unfold sgn;simp
theorem zGcd{l l':List Atom}{x y:Int}{k m:Nat}[h:ZI l x k][h':ZI l' y m](hk:k+m<=1099511627760):ah prog 82 [.agg l,.agg l'] (.agg (zN (Int.gcd x y:Int))):=by
 refine z2 ⟨_,func82,rfl,rfl⟩ fun neg n neg2 n2 hz hz2 hn hn2=>?_
 subst hz hz2;rw[show (Int.gcd (sgn neg n) (sgn neg2 n2):Int)=sgn false (Nat.gcd n n2)by rw[amd];unfold Int.gcd;rw[gT,gT]]
 refine ah.fn func82 results82 ntmps82 rfl rfl rfl zd rfl fun _ _ _ _ _=>?_
 repeat(first|refine zg ?_|(refine SX.Go1.is ?_;refine SX.Go1.dw ?_;first
    |refine SX.Go1.call rfl (dGcd zE) rfl rfl ?_
    |refine SX.Go1.call rfl (pq _ zE) rfl rfl ?_))
 exact aA.eq1 ak.dP rfl
instance BdN.igcd(x y:Int)(k m:Nat)[hx:Bd x k][hy:Bd y m]:BdN (Int.gcd x y) (k+m):=⟨(BdN.gcd x.natAbs y.natAbs k m).h⟩
end
section
attribute [local irreducible] IntKind.wrap bitLen kJ nval Go1 Reg WP aJ aN bF aA ak aj aT Sat
theorem aqX{a:CA}{x k:Nat}[ha:NI a x k](hk:k+k<=274877906944):ah prog 564 [.it (.one (.c a))] (.r (bU (x*x))):=by
 refine ah.fn func564 results564 ntmps564 rfl rfl rfl zd rfl fun _ _ _ _ _=>?_
 repeat(first|refine zg ?_|(refine SX.Go1.is ?_;refine SX.Go1.dw ?_;first
    |refine SX.Go1.call rfl (mMul zE) rfl rfl ?_))
 exact aA.eq1 (ak.tmp rfl) rfl
def acT(x:Nat)(n:Int):Bool:=decide (0<=n)&&(decide (bitLen x=0)||decide (n<=((1048576 / bitLen x:Nat):Int)))
def ahA(x:Nat)(n:Int):Nat:=if acT x n=true then x ^ n.toNat else 0
theorem auP{x e N b K W:Nat}(hW:1 < W)(hx:x < 2 ^ b)(he:e<=N)(hN:N*b<=64*K)(hK:0 < K)(hw:W=2 ^ 64):x ^ e < W ^ K:=by
 subst hw;rw[<-Nat.pow_mul];cases e with
 |zero=>rw[Nat.pow_zero];exact Nat.one_lt_two_pow zE
 |succ e=>
  refine zqf (Nat.pow_lt_pow_left hx zE) ?_
  rw[<-Nat.pow_mul];exact zx2 zE (zxf (by rw[zxj];exact zx1 b he) hN)
@[irreducible] def pwK:Nat:=16384
theorem pwK_eq:pwK=16384:=by unfold pwK;rfl
theorem atS{x e N:Nat}(he:e<=N)(hN:N*bitLen x<=1048576):BdN (x ^ e) pwK:=⟨auP (K:=pwK) oo (bitLen_spec x).1 he (by rw[pwK_eq];omega) (by rw[pwK_eq];omega) ko⟩
attribute [local irreducible] acT ahA
theorem ajW(x:Nat)(n:Int):ahA x n < WB ^ pwK:=by
 unfold ahA
 split
 ·rename_i h;unfold acT at h;simp only[zx4,Bool.or_eq_true,decide_eq_true_eq]at h;refine(atS (N:=n.toNat) (zq6 _) ?_).h;rcases h.2 with hb|hb
  ·rw[hb];omega
  ·have h5:n.toNat<=1048576 / bitLen x:=zE
   exact zxf (zx1 _ h5) (Nat.div_mul_le_self ..)
 ·exact zqf zc (gD pwK)
instance BdN.ahA(x:Nat)(n:Int):BdN (ahA x n) pwK:=⟨ajW x n⟩
def ade(z:Int)(n:Int):Int:=if acT z.natAbs n=true then z ^ n.toNat else 0
theorem arp(neg:Bool)(x:Nat)(n:Int):sgn (neg&&decide (n.tmod 2≠0)) (ahA x n)=ade (sgn neg x) n:=by
 unfold ahA ade;rw[gT]
 split
 ·rename_i h;have h0:0<=n:=by unfold acT at h;simp at h;exact h.1
  have ht:n.tmod 2=((n.toNat % 2:Nat):Int):=by rw[Int.tmod_eq_emod_of_nonneg h0];omega
  unfold sgn;cases neg
  ·simp
  ·rcases Nat.mod_two_eq_zero_or_one n.toNat with e|e
   ·rw[ht,e];simp;rw[show (-(x:Int)) ^ n.toNat=(x:Int) ^ n.toNat from ?_]
    obtain⟨m,hm⟩:∃m,n.toNat=2*m:=⟨n.toNat / 2,zE⟩
    rw[hm,Int.pow_mul,Int.pow_mul];congr 1;simp[Int.pow_succ,Int.neg_mul_neg]
   ·rw[ht,e];simp;obtain⟨m,hm⟩:∃m,n.toNat=2*m+1:=⟨n.toNat / 2,zE⟩
    rw[hm,Int.pow_succ,Int.pow_succ,Int.pow_mul,Int.pow_mul,show (-(x:Int)) ^ 2=(x:Int) ^ 2 by simp[Int.pow_succ,Int.neg_mul_neg],Int.mul_neg]
 ·unfold sgn;simp
instance Bd.ade(z:Int)(n:Int):Bd (ade z n) pwK:=⟨by
 have h:=arp (decide (z < 0)) z.natAbs n;rw[adW]at h;rw[<-h,gT];exact ajW _ _⟩
attribute [local irreducible] sgn ade
end
section
def jN:Nat->Nat->List UInt8
 |0,_=>[]
 |n+1,x=>jN n (x / 10)++[UInt8.ofNat (48+x % 10)]
theorem xk:∀n x,(jN n x).length=n
 |0,_=>rfl
 |n+1,x=>by rw[jN,zqi,xk n];rfl
theorem agv:∀(m n x:Nat),jN (n+m) x=jN n (x / 10 ^ m)++jN m (x % 10 ^ m)
 |0,n,x=>by simp[jN]
 |m+1,n,x=>by
  have e1:x / 10 ^ (m+1)=x / 10 / 10 ^ m:=by rw[Nat.div_div_eq_div_mul,zyf,zxj]
  have e2:x % 10 ^ (m+1) / 10=x / 10 % 10 ^ m:=by rw[zyf,zxj,Nat.mod_mul_right_div_self]
  have e3:x % 10 ^ (m+1) % 10=x % 10:=by rw[zyf,zxj,Nat.mod_mul_right_mod]
  rw[<-Nat.add_assoc,jN,agv m n,jN,e1,e2,e3,zqj]
def dig(x:Nat):List UInt8:=if h:x=0 then []else dig (x / 10)++[UInt8.ofNat (48+x % 10)]
decreasing_by omega
theorem kG:dig 0=[]:=by rw[dig];rfl
theorem oQ{x:Nat}(h:x≠0):dig x=dig (x / 10)++[UInt8.ofNat (48+x % 10)]:=by rw[dig,dif_neg h]
theorem aci:∀n,(jN n 0).all (· ==48)=true
 |0=>rfl
 |n+1=>by rw[jN,List.all_append,show 0 / 10=0 from rfl,aci n];decide
theorem uo{p:UInt8->Bool}:∀{l:List UInt8},l.all p=true->∀m,(l++m).dropWhile p=m.dropWhile p
 |[],_,m=>rfl
 |a::l,h,m=>by
  rw[List.all_cons,zx4]at h;rw[List.cons_append,List.dropWhile_cons,if_pos h.1];exact uo h.2 m
theorem vS{p:UInt8->Bool}:∀{l:List UInt8} (m:List UInt8),l.dropWhile p≠[]->(l++m).dropWhile p=l.dropWhile p++m
 |[],m,h=>absurd rfl h
 |a::l,m,h=>by
  rw[List.cons_append,List.dropWhile_cons,List.dropWhile_cons]at*;cases hp:p a
  ·simp
  ·simp only[hp,if_true]at h ⊢;exact vS m h
theorem ais{x:Nat}(h:x≠0):dig x≠[]:=by rw[oQ h];simp
theorem aqY{d:Nat}(h0:d≠0)(h1:d < 10):(UInt8.ofNat (48+d)==48)=false:=by
 rw[beq_eq_false_iff_ne];intro e;have:=congrArg UInt8.toNat e;rw[UInt8.toNat_ofNat']at this;have h48:(48:UInt8).toNat=48:=rfl;omega
theorem yx:∀(n x:Nat),x < 10 ^ n->(jN n x).dropWhile (· ==48)=dig x
 |0,x,h=>by
  have:x=0:=by simpa using h
  subst this;rw[kG];rfl
 |n+1,x,h=>by
  have hx:x / 10 < 10 ^ n:=by rw[zyf]at h;omega
  have ih:=yx n (x / 10) hx;rw[jN];by_cases h0:x / 10=0
  ·rw[h0,uo (aci n)];by_cases hx0:x=0
   ·subst hx0;rw[kG];decide
   ·rw[oQ hx0,h0,kG,List.dropWhile_cons,aqY zE zE];rfl
  ·rw[vS _ (by rw[ih];exact ais h0),ih,<-oQ zE]
def nD:Nat->Nat
 |0=>18
 |j+1=>nD j+nD j
def pw(j:Nat):Nat:=10 ^ nD j
theorem akt:pw 0=1000000000000000000:=rfl
theorem adX(j:Nat):pw (j+1)=pw j*pw j:=by unfold pw;rw[nD,zw5]
theorem anK(j:Nat):0 < pw j:=Nat.pow_pos zc
theorem acp:∀j,j+18<=nD j
 |0=>zq6 _
 |j+1=>by have:=acp j;rw[nD];omega
instance BdN.pw(j:Nat):BdN (pw j) (nD j):=⟨by
 show 10 ^ nD j < WB ^ nD j;exact Nat.pow_lt_pow_left (by rw[dn];decide) (by have:=acp j;omega)⟩
theorem zW(j:Nat):nD j<=bitLen (pw j):=by
 have h:=(bitLen_spec (pw j)).1;have h2:2 ^ nD j<=pw j:=Nat.pow_le_pow_left zc _
 exact Nat.le_of_lt ((Nat.pow_lt_pow_iff_right zc).1 (zxb h2 h))
theorem aep{x k:Nat}(h:x < WB ^ k):bitLen x<=64*k:=by
 have hs:=(bitLen_spec x).2;by_cases h0:x=0
 ·subst h0;exact zq8 _
 ·have h1:=hs h0;have e:WB ^ k=2 ^ (64*k):=by rw[Nat.pow_mul];rfl
  rw[e]at h;have:=(Nat.pow_lt_pow_iff_right (a:=2) zc).1 (zxb h1 h)
  omega
def pwM(x:Nat):Nat->Nat->Nat
 |0,j=>j
 |f+1,j=>if 2*bitLen (pw j)<=bitLen x+1 then pwM x f (j+1)else j
def pwm(x:Nat):Nat:=pwM x (bitLen x+2) 0
theorem amn{x j:Nat}(h:¬2*bitLen (pw j)<=bitLen x+1):x < pw (j+1):=by
 have h1:=(bitLen_spec x).1;have h2:=(bitLen_spec (pw j)).2 (Nat.ne_of_gt (anK j));have h3:=zW j;have h4:=acp j;rw[adX];refine zqf h1 (zxf ?_ (zxd h2 h2));rw[<-zw5];exact zx2 zc zE
def aW(x:Nat):List UInt8:=if x=0 then [48]else dig x
theorem ad7{x n:Nat}(h:x < 10 ^ n):(dig x).length<=n:=by
 rw[<-yx n x h];exact zxf (List.dropWhile_sublist _).length_le (Nat.le_of_eq (xk n x))
end
attribute [local irreducible] IntKind.wrap Go1 Reg WP aJ aN bF bD aM aA ak aj aT Sat
section
attribute [local irreducible] jN pw nD pwM pwm aW
section
variable{a b:CA}{x y k m:Nat}
instance tT[ha:NI a x k]:Con prog 35 [.it (.one (.c a))] (k<=1099511627775) (.v (.int .i64 (bitLen x:Int))):=⟨fun h=>agf h⟩
instance ath[ha:NI a x k]:Con prog 564 [.it (.one (.c a))] (k+k<=274877906944) (.r (bU (x*x))):=⟨fun h=>aqX h⟩
end
theorem auN(x:Nat):jN 0 x=[]:=by unfold jN;rfl
theorem atL(n x:Nat):jN (n+1) x=jN n (x / 10)++[UInt8.ofNat (48+x % 10)]:=by rw[jN]
theorem pureS{f:FuncId}{args:List Value}{r:Value}(he:∃fn,prog.funcs[f]? =some fn/\(fn.name== "runtime.NumGoroutine")=false/\fn.body.isNone=false)(h:∀w,Calls prog f args.toArray w fun e w'=>e= .returned r/\w'=w):ah prog f (args.map AV.v) (.v r):=
 ah.jh he rfl fun E S w vs hl hv=>by
  have hvs:vs=args:=by
   clear h
   induction args generalizing vs with
   |nil=>cases vs with|nil=>rfl|cons _ _=>exact hv.elim
   |cons a l ih=>cases vs with|nil=>exact hv.elim|cons b m=>rw[ih m hv.2,show b=a from hv.1]
  subst hvs;exact(h w).mono fun e w' ⟨h1,h2⟩=>⟨r,h1,rfl,by subst h2;exact Off.refl _ _⟩
theorem aun(d:Nat):((UInt8.ofNat (48+d % 10)).toNat:Int)=((48+d % 10:Nat):Int):=by
 rw[UInt8.toNat_ofNat'];omega
theorem apv(x:Nat)(hx:x < WB):oL prog 563 [.v (.int .u64 (x:Int))] 5 1 18 ((jN 18 x).flatMap lF):=by
 rw[dn]at hx;refine oL.fnF func563 results563 ntmps563 rfl rfl rfl zd fun _ _ _ _ _=>?_
 refine zg ?_;refine W.aqc (fun(k y:Nat) (tl:List UInt8)=>k+tl.length=18/\y < 18446744073709551616/\jN k y++tl=jN 18 x) (fun k y tl=>[(0,.v (.int .u64 (y:Int))),(3,.own 100),(4,.v (.int .i64 ((k:Int) - 1)))])
  (fun k y tl=>[(100,.row 5 1 18 ((List.replicate k 0++tl).flatMap lF))]) (fun k _ _=>k) 18 x [] ⟨rfl,hx,by simp⟩ (fun k y tl ⟨hk,hy,hd⟩=>?_)
 cases k with
 |zero=>
  have e:(List.replicate 0 0++tl).flatMap lF=(jN 18 x).flatMap lF:=by rw[<-hd,auN];rfl
  refine zg ?_;exact retO
 |succ k=>
  rw[show ((k+1:Nat):Int) - 1=(k:Int)by omega]
  have e:spl ((List.replicate (k+1) 0++tl).flatMap lF) (k*1) [.val (.int .u8 ((48+y % 10:Nat):Int))]=(List.replicate k 0++(UInt8.ofNat (48+y % 10)::tl)).flatMap lF:=by
   rw[<-aun,show [CA.val (.int .u8 ((UInt8.ofNat (48+y % 10)).toNat:Int))]=lF (UInt8.ofNat (48+y % 10))from rfl,rD _ _ _ (by simp;omega),List.replicate_succ']
   congr 1
   rw[zqj,List.set_append_right _ _ zp]
   simp
  refine zg ?_
  -- ??
  exact W.ane k (y / 10) (UInt8.ofNat (48+y % 10)::tl) ⟨by simp at hk ⊢;omega,zE,by rw[<-hd,atL];simp⟩ zE
def adt(n:Nat):List CA:=[.sat (bU n)]
instance:eY adt 1:=⟨fun _=>rfl⟩
def pws(j:Nat):List Nat:=(List.range j).map pw
theorem aei(j:Nat):(pws j).length=j:=by simp[pws]
theorem ajj{i j:Nat}(h:i < j):(pws j)[i]? =some (pw i):=by simp[pws,h]
theorem am8{i j:Nat}(h:i<=j):(pws j).take i=pws i:=by
 unfold pws;rw[<-List.map_take,List.take_range,zv9 h]
theorem anw(j:Nat):pws (j+1)=pws j++[pw j]:=by simp[pws,List.range_succ]
theorem aoN:pw 0=1000000000000000000:=akt
theorem ahK{a:CA}{x k:Nat}[ha:NI a x k](hx:x < WB ^ k)(hk:k<=1000000000):ah prog 553 [.it (.one (.c a))] (.r (aB 1 adt (pws (pwm x+1)))):=by
 have cO:ah prog 38 [.v (.int .u64 1000000000000000000)] (.r (bU (pw 0))):=by rw[akt];exact nOf 1000000000000000000 (by rw[dn];decide)
 have hb:=aep hx;have mark:uY 5:=⟨⟩;have e0:[CA.sat (bU (pw 0))]=(pws (0+1)).flatMap adt:=rfl;refine ah.fq func553 results553 ntmps553 fun _ _ _ _ _=>?_
 refine zg ?_;have hpm:pwM x (bitLen x+2) 0=pwm x:=by unfold pwm;rfl
 refine W.nZ (fun(j f:Nat)=>(j=0\/nD j<=bitLen x+1)/\pwM x f j=pwm x/\f+j=bitLen x+2) (fun j f=>[(0,.it (.one (.c a))),(3,.own 100)]) (fun j f=>[(100,.row 23 1 (j+1) ((pws (j+1)).flatMap adt))]) (fun j f=>f) 0 (bitLen x+2) ⟨.inl rfl,hpm,rfl⟩ (fun j f ⟨h1,h2,h3⟩=>?_)
 have hn:nD j<=64000000001:=by
  rcases h1 with rfl|h1
  ·have:nD 0=18:=by unfold nD;rfl
   omega
  ·omega
 have hg:(pws (j+1))[j+1 - 1]? =some (pw j):=ajj zE
 have hbp:=zW j;have hbj:=acp j;have hbu:=aep (BdN.pw j).h;by_cases hq:2*bitLen (pw j)<=bitLen x+1
 ·cases f with
  |zero=>exact absurd hq zE
  |succ f=>
   have e1:(pws (j+1)).flatMap adt++[CA.sat (bU (pw j*pw j))]=(pws (j+1+1)).flatMap adt:=by
    rw[anw (j+1),zvc,adX];rfl
   have h2':pwM x f (j+1)=pwm x:=by rw[<-h2];conv=>rhs;unfold pwM;rw[if_pos hq]
   have hs:nD (j+1)=nD j+nD j:=by conv=>lhs;unfold nD
   refine zg ?_;exact W.nM (j+1) f ⟨.inr zE,h2',zE⟩ zE
 ·have hjm:j=pwm x:=by
   rw[<-h2];cases f with
   |zero=>unfold pwM;rfl
   |succ f=>conv=>rhs;unfold pwM;rw[if_neg hq]
  refine zg ?_;refine aM.frz 100 ?_;refine agu ?_;rw[<-hjm];show AV0.imp _ (.one (.c (.sat (aQ 1 (pws (j+1)).length ((pws (j+1)).flatMap adt)))));rw[aei];exact zv _
theorem uK:∀(j:Nat) {a:CA} {x k:Nat} [ha:NI a x k] (L:List Nat),L=pws j->x < pw j->nD j<=200000000000->k<=500000000000->
  oL prog 552 [.it (.one (.c a)),.r (aB 1 adt L)] 5 1 (nD j) ((jN (nD j) x).flatMap lF)
 |0,a,x,k,ha,L,hL,hx,hn,hk=>by
  have e18:nD 0=18:=by unfold nD;rfl
  have hxw:x < WB:=by rw[aoN]at hx;rw[dn];omega
  have cW:=aoZ (a:=a) (x:=x) (k:=k) zE
  rw[if_pos hxw]at cW;have cw:=apv x hxw;have hl0:L.length=0:=by rw[hL,aei]
  rw[e18];refine oL.fnF func552 results552 ntmps552 rfl rfl rfl zd fun w0 T B E0 hB=>?_
  refine zg ?_;exact retO
 |j+1,a,x,k,ha,L,hL,hx,hn,hk=>by
  have hs:nD (j+1)=nD j+nD j:=by conv=>lhs;unfold nD
  have hj:=acp j;have hl1:L.length=j+1:=by rw[hL,aei]
  have hg:L[L.length - 1]? =some (pw j):=by rw[hl1,hL];exact ajj zE
  have ht:L.take (L.length - 1)=pws j:=by rw[hl1,hL];exact am8 zE
  have hp:=anK j;rw[adX]at hx;have hq:x / pw j < pw j:=Nat.div_lt_of_lt_mul hx;have hr:x % pw j < pw j:=zyi _ hp;have cD:=aef (a:=a) (x:=x) (k:=k) (b:= .sat (bU (pw j))) (y:=pw j) (m:=nD j) zE
  rw[if_neg zE]at cD
  haveI b1:BdN (x / pw j) (nD j):=⟨Nat.lt_trans hq (BdN.pw j).h⟩
  haveI b2:BdN (x % pw j) (nD j):=⟨Nat.lt_trans hr (BdN.pw j).h⟩
  have c1:=uK j (a:= .sat (bU (x / pw j))) (k:=nD j) (L.take (L.length - 1)) ht hq zE zE
  have c2:=(uK j (a:= .sat (bU (x % pw j))) (k:=nD j) (L.take (L.length - 1)) ht hr zE zE).pure
  have e1:(jN (nD j) (x / pw j)).flatMap lF++(jN (nD j) (x % pw j)).flatMap lF=(jN (nD j+nD j) x).flatMap lF:=by
   rw[agv,zvc,show 10 ^ nD j=pw j by unfold pw;rfl]
  rw[hs];refine oL.fnF func552 results552 ntmps552 rfl rfl rfl zd fun w0 T B E0 hB=>?_
  refine zg ?_;exact retO
theorem aey(l:List UInt8):ah prog 551 [.v (str l),.v (str [48])] (.v (str (l.dropWhile (· ==48)))):=
 pureS (args:=[str l,str [48]]) ⟨_,func551,rfl,rfl⟩ fun w=>(strings_TrimLeft_one ⟨⟨l⟩⟩ 48 zc w).mono fun e w' ⟨h1,h2⟩=>⟨h1,h2⟩
theorem aoo(x:Nat):x < pw (pwm x+1):=by
 have key:∀(f j:Nat),f+j=bitLen x+2->¬2*bitLen (pw (pwM x f j))<=bitLen x+1:=by
  intro f
  induction f with
  |zero=>
   intro j hj;have h1:=zW j;have h2:=acp j;unfold pwM;omega
  |succ f ih=>
   intro j hj;unfold pwM
   split
   ·exact ih (j+1) zE
   ·assumption
 have:=key (bitLen x+2) 0 rfl;exact amn (by unfold pwm;exact this)
theorem atT{x k:Nat}(hx:x < WB ^ k)(hk:k<=1000000000):nD (pwm x+1)<=200000000000:=by
 have hb:=aep hx;have key:∀(f j:Nat),(j=0\/nD j<=bitLen x+1)->nD (pwM x f j)<=64000000001:=by
  intro f
  induction f with
  |zero=>
   intro j hj;unfold pwM;rcases hj with rfl|hj
   ·have:nD 0=18:=by unfold nD;rfl
    omega
   ·omega
  |succ f ih=>
   intro j hj;unfold pwM
   split
   ·rename_i h;have h1:=zW j;exact ih (j+1) (.inr (by
                  conv=>lhs;unfold nD
                  omega))
   ·rcases hj with rfl|hj
    ·have:nD 0=18:=by unfold nD;rfl
     omega
    ·omega
 have h1:=key (bitLen x+2) 0 (.inl rfl);have h2:nD (pwm x+1)=nD (pwm x)+nD (pwm x):=by conv=>lhs;unfold nD
 have h3:nD (pwm x)<=64000000001:=by unfold pwm;exact h1
 omega
theorem al4{a:CA}{x k:Nat}[ha:NI a x k](hx:x < WB ^ k)(hk:k<=1000000000):ah prog 541 [.it (.one (.c a))] (.v (str (aW x))):=by
 have cP:=ahK (a:=a) hx hk;have cD:=(uK (pwm x+1) (a:=a) (k:=k) (pws (pwm x+1)) rfl (aoo x) (atT hx hk) zE).pure
 have el:nD (pwm x+1)=(jN (nD (pwm x+1)) x).length:=(xk _ _).symm;have cD':ah prog 552 [.it (.one (.c a)),.r (aB 1 adt (pws (pwm x+1)))] (.r (aB 1 lF (jN (nD (pwm x+1)) x))):=by
  show ah _ _ _ (.r (aQ 1 (jN (nD (pwm x+1)) x).length _));rw[xk];exact cD
 clear cD;have cT:=aey (jN (nD (pwm x+1)) x);have hd:=yx (nD (pwm x+1)) x (by have:=aoo x;unfold pw at this;exact this)
 rw[hd]at cT;have hS:aW x=if x=0 then [48]else dig x:=by unfold aW;rfl
 refine ah.fq func541 results541 ntmps541 fun _ _ _ _ _=>?_
 by_cases h0:x=0
 ·have hz:decide (dig x=[])=true:=by subst h0;rw[kG];rfl
  refine zg ?_;refine agY ?_;rw[hS,if_pos h0]
 ·have hz:decide (dig x=[])=false:=decide_eq_false (ais h0);refine zg ?_;refine agY ?_;rw[hS,if_neg h0]
end
section
section
variable{l l':List Atom}{a:CA}{x y:Int}{n k m:Nat}
instance sU[h:ZI l x k]:Con prog 24 [.agg l] (k<=1099511627775) (.v (.int .i64 (aS x))):=⟨fun h=>jQ h⟩
instance con_zNeg[h:ZI l x k]:Con prog 26 [.agg l] (k<=1099511627775) (.agg (zN (-x))):=⟨fun h=>alI h⟩
instance wL:Con prog 11 [.v (.int .i64 x)] (-9223372036854775808<=x/\x<=9223372036854775807) (.agg (zN x)):=⟨fun h=>zOf x h.1 h.2⟩
instance aqk[h:ZI l x k][h':ZI l' y m]:Con prog 53 [.agg l,.agg l'] (k+m<=1099511627774) (.agg (zN (x+y))):=⟨fun h=>ahc h⟩
instance afl[h:ZI l x k][h':ZI l' y m]:Con prog 31 [.agg l,.agg l'] (k+m<=1099511627774) (.agg (zN (x - y))):=⟨fun h=>alJ h⟩
instance rG[h:ZI l x k][h':ZI l' y m]:Con prog 32 [.agg l,.agg l'] (k+m<=274877906944) (.agg (zN (x*y))):=⟨fun h=>zMul h⟩
instance aoh[h:ZI l x k][h':ZI l' y m]:Con prog 89 [.agg l,.agg l'] (k+m<=1099511627774) (.v (.int .i64 (oq x y))):=⟨fun h=>zCmp h⟩
instance akM[h:ZI l x k][h':ZI l' y m]:Con prog 58 [.agg l,.agg l'] (k+m<=1099511627774) (.v (.bool (decide (x=y)))):=⟨fun h=>zSame h⟩
instance fF[h:ZI l x k]:Con prog 305 [.agg l] (k<=1099511627775) (.v (.int .i64 (bitLen x.natAbs:Int))):=⟨fun h=>zBits h⟩
instance avp[h:ZI l x k][h':ZI l' y m]:Con prog 48 [.agg l,.agg l'] (k+m<=1099511627760) (.tup [.agg (zN (zfq x y)),.agg (zN (zfr x y)),.one (.c (.val (.bool (decide (y≠0)))))]):=⟨fun h=>ahF h⟩
instance avr[h:ZI l x k][h':ZI l' y m]:Con prog 49 [.agg l,.agg l'] (k+m<=68719476736) (.tup [.agg (zN (mE x y)),.one (.c (.val (.bool (decide (y≠0)))))]):=⟨fun h=>avn h⟩
instance ab4[h:ZI l x k][h':ZI l' y m]:Con prog 29 [.agg l,.agg l'] (k+m<=1099511627760) (.tup [.agg (zN (eZ x y)),.one (.c (.val (.bool (jO x y))))]):=⟨fun h=>anq h⟩
instance aoU[h:ZI l x k][h':ZI l' y m]:Con prog 82 [.agg l,.agg l'] (k+m<=1099511627760) (.agg (zN (Int.gcd x y:Int))):=⟨fun h=>zGcd h⟩
instance acX[h:NI a n k](neg:Bool):Con prog 37 [.it (.one (.c a)),.v (.bool neg)] (k<=1099511627775) (.agg (zN (sgn neg n))):=⟨fun h=>pq neg h⟩
end
theorem adE(z:Int):aS z=0↔z=0:=by unfold aS;(repeat' split) <;> omega
theorem ah8(z:Int):aS z < 0↔z < 0:=by unfold aS;(repeat' split) <;> omega
theorem agP(a b:Int):IntKind.i64.wrap (aS a*aS b)=aS (a*b):=by
 have h:aS a*aS b=aS (a*b):=by
  unfold aS;by_cases ha:a=0
  ·simp[ha]
  ·by_cases hb:b=0
   ·simp[hb]
   ·have hab:a*b≠0:=Int.mul_ne_zero ha hb;rw[if_neg ha,if_neg hb,if_neg hab];by_cases h1:a < 0
    ·by_cases h2:b < 0
     ·have:=Int.mul_pos_of_neg_of_neg h1 h2;rw[if_pos h1,if_pos h2,if_neg zE];rfl
     ·have:=Int.mul_neg_of_neg_of_pos h1 (show 0 < b by omega)
      rw[if_pos h1,if_neg h2,if_pos zE];rfl
    ·by_cases h2:b < 0
     ·have:=Int.mul_neg_of_pos_of_neg (show 0 < a by omega) h2
      rw[if_neg h1,if_pos h2,if_pos zE];rfl
     ·have:=Int.mul_pos (show 0 < a by omega) (show 0 < b by omega)
      rw[if_neg h1,if_neg h2,if_neg zE];rfl
 rw[h];have h1: -1<=aS (a*b)/\aS (a*b)<=1:=by unfold aS;(repeat' split) <;> omega
 exact lK zE zE
def zS(z:Int):List UInt8:=if z < 0 then 45::aW z.natAbs else aW z.natAbs
theorem afN{x k:Nat}(h:x < WB ^ k):(aW x).length<=20*k+1:=by
 unfold aW
 split
 ·simp
 ·have:WB ^ k<=10 ^ (20*k):=by rw[Nat.pow_mul];exact Nat.pow_le_pow_left (by rw[dn];decide) _
  have:=ad7 (zqf h this);omega
theorem apx{z:Int}{k:Nat}[h:Bd z k]:(zS z).length<=20*k+2:=by
 have:=afN h.h;unfold zS;split
 ·rw[zx6];omega
 ·omega
instance ava{l:List Atom}{z:Int}{k:Nat}[h:ZI l z k]:Con prog 507 [.agg l] (k<=1000000000) (.v (str (zS z))):=⟨fun hk=>by
 refine z1 ⟨_,func507,rfl,rfl⟩ fun neg n hz hn=>?_
 subst hz;have hb:=(inferInstance:BdN n k).h;have cP:=al4 (a:= .sat (aeo n k)) hb hk;have hl:=afN hb;have hS:zS (sgn neg n)=if sgn neg n < 0 then 45::aW n else aW n:=by unfold zS;rw[gT]
 have hs:=ah8 (sgn neg n);refine ah.fq func507 results507 ntmps507 fun _ _ _ _ _=>?_
 by_cases h0:sgn neg n < 0
 ·refine zg ?_;refine agY ?_;rw[hS,if_pos h0];rfl
 ·refine zg ?_;refine agY ?_;rw[hS,if_neg h0]⟩
def rmk(x y:Int):Int×Int:=if y=0 then(0,1)else if y < 0 then(eZ (-x) (Int.gcd (-x) (-y)),eZ (-y) (Int.gcd (-x) (-y)))else(eZ x (Int.gcd x y),eZ y (Int.gcd x y))
abbrev uQ(q:Int×Int):List Atom:=[.c (.val (.bool (decide (q.1 < 0)))),.c (.sat (bU q.1.natAbs)),.c (.val (.bool (decide (q.2 < 0)))),.c (.sat (bU q.2.natAbs))]
instance Bd.anl(x y:Int)(k m:Nat)[h:Bd x k][h':Bd y m]:Bd (rmk x y).1 (k+m+1):=⟨by
 unfold rmk;repeat' split
 ·exact Bd.mono (Bd.zero).h zE
 ·exact Bd.mono (Bd.eZ (-x) _ k).h zE
 ·exact Bd.mono (Bd.eZ x _ k).h zE⟩
instance Bd.aqt(x y:Int)(k m:Nat)[h:Bd x k][h':Bd y m]:Bd (rmk x y).2 (k+m+1):=⟨by
 unfold rmk;repeat' split
 ·exact Bd.mono (Bd.one).h zE
 ·exact Bd.mono (Bd.eZ (-y) _ m).h zE
 ·exact Bd.mono (Bd.eZ y _ m).h zE⟩
instance tu{l:List Atom}{z:Int}{k:Nat}[h:ZI l z k]:Con prog 23 [.agg l] (k<=1000000000) (.agg (uQ (z,1))):=⟨fun hk=>by
 refine z1 ⟨_,func23,rfl,rfl⟩ fun neg n hz hn=>?_
 subst hz;refine ah.fq func23 results23 ntmps23 fun _ _ _ _ _=>?_
 refine zg ?_;exact nP ak.rV rfl⟩
instance av2:Con prog 81 [] True (.agg (uQ (0,1))):=⟨fun hk=>by
 refine ah.fq func81 results81 ntmps81 fun _ _ _ _ _=>?_
 refine zg ?_;exact nP ak.rV rfl⟩
instance av4{l l':List Atom}{x y:Int}{k m:Nat}[h:ZI l x k][h':ZI l' y m]:Con prog 54 [.agg l,.agg l'] (k+m<=1000000000) (.tup [.agg (uQ (rmk x y)),.one (.c (.val (.bool (decide (y≠0)))))]):=⟨fun hk=>by
 refine z2 ⟨_,func54,rfl,rfl⟩ fun neg n neg2 n2 hz hz2 hn hn2=>?_
 subst hz;subst hz2;have hs0:=adE (sgn neg2 n2);have hsn:=ah8 (sgn neg2 n2);refine ah.fq func54 results54 ntmps54 fun _ _ _ _ _=>?_
 by_cases h0:sgn neg2 n2=0
 ·refine zg ?_;have e:rmk (sgn neg n) (sgn neg2 n2)=(0,1):=by unfold rmk;rw[if_pos h0]
  rw[e];exact qN ak.rV (ak.tmp rfl) (zv _) (AV0.imp.of_eq (cb (by simp[h0])))
 ·by_cases h1:sgn neg2 n2 < 0
  ·refine zg ?_;have e:rmk (sgn neg n) (sgn neg2 n2)=(eZ (-sgn neg n) (Int.gcd (-sgn neg n) (-sgn neg2 n2)),eZ (-sgn neg2 n2) (Int.gcd (-sgn neg n) (-sgn neg2 n2))):=by unfold rmk;rw[if_neg h0,if_pos h1]
   rw[e];exact qN ak.rV (ak.tmp rfl) (zv _) (AV0.imp.of_eq (cb (by simp[h0])))
  ·refine zg ?_;have e:rmk (sgn neg n) (sgn neg2 n2)=(eZ (sgn neg n) (Int.gcd (sgn neg n) (sgn neg2 n2)),eZ (sgn neg2 n2) (Int.gcd (sgn neg n) (sgn neg2 n2))):=by unfold rmk;rw[if_neg h0,if_neg h1]
   rw[e];exact qN ak.rV (ak.tmp rfl) (zv _) (AV0.imp.of_eq (cb (by simp[h0])))⟩
theorem q1{f:FuncId}{r:AV}{x0 x1 x2 x3:Atom}{p q:Int}{k m:Nat}[h:ZI [x0,x1] p k][h':ZI [x2,x3] q m](he:∃fn,prog.funcs[f]? =some fn/\(fn.name== "runtime.NumGoroutine")=false/\fn.body.isNone=false)
  (hf:∀neg n neg' n',p=sgn neg n->q=sgn neg' n'->BdN n k->BdN n' m->ah prog f [.agg (zR neg n k++zR neg' n' m)] r):ah prog f [.agg [x0,x1,x2,x3]] r:=by
 obtain⟨neg,n,hz,hm⟩:=h.h;obtain⟨neg',n',hz',hm'⟩:=h'.h;refine ah.fact (φ:=BdN n k/\BdN n' m) he (fun hb=>hf neg n neg' n' hz hz' hb.1 hb.2) fun E S w vs hv=>?_
 match vs,hv with
 |[_],⟨⟨[v0,v1,v2,v3],rfl,h0,h1,h2,h3,_⟩,_⟩=>
  have a1:=hm E S w _ ⟨[v0,v1],rfl,h0,h1,trivial⟩;have a2:=hm' E S w _ ⟨[v2,v3],rfl,h2,h3,trivial⟩;refine⟨⟨⟨[v0,v1,v2,v3],rfl,?_⟩,trivial⟩,⟨wO a1⟩,⟨wO a2⟩⟩;obtain⟨us,e1,b1⟩:=a1;obtain⟨us',e2,b2⟩:=a2
  match us,us',b1,b2 with
  |[_,_],[_,_],⟨c0,c1,_⟩,⟨d0,d1,_⟩=>
   cases e1;cases e2;exact⟨c0,c1,d0,d1,trivial⟩
theorem q2{f:FuncId}{r:AV}{x0 x1 x2 x3 y0 y1 y2 y3:Atom}{p q p' q':Int}{k m k' m':Nat}[h:ZI [x0,x1] p k][h':ZI [x2,x3] q m][g:ZI [y0,y1] p' k'][g':ZI [y2,y3] q' m'](he:∃fn,prog.funcs[f]? =some fn/\(fn.name== "runtime.NumGoroutine")=false/\fn.body.isNone=false)
  (hf:∀neg n neg' n' neg2 n2 neg3 n3,p=sgn neg n->q=sgn neg' n'->p'=sgn neg2 n2->q'=sgn neg3 n3->BdN n k->BdN n' m->BdN n2 k'->BdN n3 m'->ah prog f [.agg (zR neg n k++zR neg' n' m),.agg (zR neg2 n2 k'++zR neg3 n3 m')] r):ah prog f [.agg [x0,x1,x2,x3],.agg [y0,y1,y2,y3]] r:=by
 obtain⟨neg,n,hz,hm⟩:=h.h;obtain⟨neg',n',hz',hm'⟩:=h'.h;obtain⟨neg2,n2,hz2,hm2⟩:=g.h;obtain⟨neg3,n3,hz3,hm3⟩:=g'.h;refine ah.fact (φ:=BdN n k/\BdN n' m/\BdN n2 k'/\BdN n3 m') he (fun hb=>hf neg n neg' n' neg2 n2 neg3 n3 hz hz' hz2 hz3 hb.1 hb.2.1 hb.2.2.1 hb.2.2.2) fun E S w vs hv=>?_
 match vs,hv with
 |[_,_],⟨⟨[v0,v1,v2,v3],rfl,h0,h1,h2,h3,_⟩,⟨[w0,w1,w2,w3],rfl,i0,i1,i2,i3,_⟩,_⟩=>
  have a1:=hm E S w _ ⟨[v0,v1],rfl,h0,h1,trivial⟩;have a2:=hm' E S w _ ⟨[v2,v3],rfl,h2,h3,trivial⟩;have a3:=hm2 E S w _ ⟨[w0,w1],rfl,i0,i1,trivial⟩;have a4:=hm3 E S w _ ⟨[w2,w3],rfl,i2,i3,trivial⟩;refine⟨⟨⟨[v0,v1,v2,v3],rfl,?_⟩,⟨[w0,w1,w2,w3],rfl,?_⟩,trivial⟩,⟨wO a1⟩,⟨wO a2⟩,⟨wO a3⟩,⟨wO a4⟩⟩
  ·obtain⟨us,e1,b1⟩:=a1;obtain⟨us',e2,b2⟩:=a2
   match us,us',b1,b2 with
   |[_,_],[_,_],⟨c0,c1,_⟩,⟨d0,d1,_⟩=>
    cases e1;cases e2;exact⟨c0,c1,d0,d1,trivial⟩
  ·obtain⟨us,e1,b1⟩:=a3;obtain⟨us',e2,b2⟩:=a4
   match us,us',b1,b2 with
   |[_,_],[_,_],⟨c0,c1,_⟩,⟨d0,d1,_⟩=>
    cases e1;cases e2;exact⟨c0,c1,d0,d1,trivial⟩
attribute [irreducible] rmk
section
variable{x0 x1 x2 x3 y0 y1 y2 y3:Atom}{p q r s:Int}{k m k' m':Nat}
abbrev qn(p q:Int):Int×Int:=rmk p q
instance av1[h:ZI [x0,x1] p k][h':ZI [x2,x3] q m]:Con prog 25 [.agg [x0,x1,x2,x3]] (k+m<=1000000000) (.agg (uQ (rmk p q))):=⟨fun hk=>by
 refine q1 ⟨_,func25,rfl,rfl⟩ fun neg n neg2 n2 hz hz2 hn hn2=>?_
 subst hz;subst hz2;refine ah.fq func25 results25 ntmps25 fun _ _ _ _ _=>?_
 refine zg ?_;exact nP ak.rV rfl⟩
instance al8[h:ZI [x0,x1] p k][h':ZI [x2,x3] q m]:Con prog 7 [.agg [x0,x1,x2,x3]] (k+m<=1000000000) (.v (.int .i64 (aS (p*q)))):=⟨fun hk=>by
 refine q1 ⟨_,func7,rfl,rfl⟩ fun neg n neg2 n2 hz hz2 hn hn2=>?_
 subst hz;subst hz2;have hw:IntKind.i64.wrap (aS (sgn neg n)*aS (sgn neg2 n2))=aS (sgn neg n*sgn neg2 n2):=agP _ _;refine ah.fq func7 results7 ntmps7 fun _ _ _ _ _=>?_
 refine zg ?_;exact iw rfl⟩
instance apP[h:ZI [x0,x1] p k][h':ZI [x2,x3] q m]:Con prog 8 [.agg [x0,x1,x2,x3]] (k+m<=1000000000) (.agg (uQ (-(rmk p q).1,(rmk p q).2))):=⟨fun hk=>by
 refine q1 ⟨_,func8,rfl,rfl⟩ fun neg n neg2 n2 hz hz2 hn hn2=>?_
 subst hz;subst hz2;refine ah.fq func8 results8 ntmps8 fun _ _ _ _ _=>?_
 refine zg ?_;exact nP ak.rV rfl⟩
def bN(p q r s:Int):Int×Int:=rmk ((rmk p q).1*(rmk r s).2+(rmk r s).1*(rmk p q).2) ((rmk p q).2*(rmk r s).2)
def bO(p q r s:Int):Int×Int:=rmk ((rmk p q).1*(rmk r s).1) ((rmk p q).2*(rmk r s).2)
def bM(p q r s:Int):Int×Int:=rmk ((rmk p q).1*(rmk r s).2) ((rmk p q).2*(rmk r s).1)
instance anF[h:ZI [x0,x1] p k][h':ZI [x2,x3] q m][g:ZI [y0,y1] r k'][g':ZI [y2,y3] s m']:Con prog 22 [.agg [x0,x1,x2,x3],.agg [y0,y1,y2,y3]] (k+m+k'+m'<=10000000) (.agg (uQ (bN p q r s))):=⟨fun hk=>by
 refine q2 ⟨_,func22,rfl,rfl⟩ fun neg n neg2 n2 neg3 n3 neg4 n4 hz hz2 hz3 hz4 hn hn2 hn3 hn4=>?_
 subst hz;subst hz2;subst hz3;subst hz4;refine ah.fq func22 results22 ntmps22 fun _ _ _ _ _=>?_
 refine zg ?_;exact nP ak.rV rfl⟩
end
end
section
attribute [local irreducible] aW zS
theorem auE(z:Int):0 < aS z↔0 < z:=by unfold aS;(repeat' split) <;> omega
theorem vJ:AV0.imp (.agg [.c (.val (.bool false)),.c (.val (.slice none 0 0))]) (.agg (zN 0)):=fun E S w v h=>by
 obtain⟨vs,rfl,hall⟩:=h
 match vs,hall with
 |[a,b],⟨h1,h2,_⟩=>
  have h2':b= .slice none 0 0:=h2;subst h2';exact⟨[a,_],rfl,h1,bU.zero,trivial⟩
def bK(p q r s:Int):Int×Int:=bN p q (-(rmk r s).1) (rmk r s).2
section
variable{x0 x1 x2 x3 y0 y1 y2 y3:Atom}{p q r s:Int}{k m k' m':Nat}
instance Bd.asZ(p q r s:Int)(k m k' m':Nat)[Bd p k][Bd q m][Bd r k'][Bd s m']:Bd (bN p q r s).1 (3*(k+m+k'+m')+12):=⟨by unfold bN;exact Bd.mono (Bd.anl _ _ _ _).h zE⟩
instance Bd.atf(p q r s:Int)(k m k' m':Nat)[Bd p k][Bd q m][Bd r k'][Bd s m']:Bd (bN p q r s).2 (3*(k+m+k'+m')+12):=⟨by unfold bN;exact Bd.mono (Bd.aqt _ _ _ _).h zE⟩
instance Bd.qsub1(p q r s:Int)(k m k' m':Nat)[Bd p k][Bd q m][Bd r k'][Bd s m']:Bd (bK p q r s).1 (6*(k+m+k'+m')+20):=⟨by unfold bK;exact Bd.mono (Bd.asZ _ _ _ _ _ _ _ _).h zE⟩
instance Bd.qsub2(p q r s:Int)(k m k' m':Nat)[Bd p k][Bd q m][Bd r k'][Bd s m']:Bd (bK p q r s).2 (6*(k+m+k'+m')+20):=⟨by unfold bK;exact Bd.mono (Bd.atf _ _ _ _ _ _ _ _).h zE⟩
instance Bd.qmul1(p q r s:Int)(k m k' m':Nat)[Bd p k][Bd q m][Bd r k'][Bd s m']:Bd (bO p q r s).1 (3*(k+m+k'+m')+12):=⟨by unfold bO;exact Bd.mono (Bd.anl _ _ _ _).h zE⟩
instance Bd.qmul2(p q r s:Int)(k m k' m':Nat)[Bd p k][Bd q m][Bd r k'][Bd s m']:Bd (bO p q r s).2 (3*(k+m+k'+m')+12):=⟨by unfold bO;exact Bd.mono (Bd.aqt _ _ _ _).h zE⟩
instance Bd.qquo1(p q r s:Int)(k m k' m':Nat)[Bd p k][Bd q m][Bd r k'][Bd s m']:Bd (bM p q r s).1 (3*(k+m+k'+m')+12):=⟨by unfold bM;exact Bd.mono (Bd.anl _ _ _ _).h zE⟩
instance Bd.qquo2(p q r s:Int)(k m k' m':Nat)[Bd p k][Bd q m][Bd r k'][Bd s m']:Bd (bM p q r s).2 (3*(k+m+k'+m')+12):=⟨by unfold bM;exact Bd.mono (Bd.aqt _ _ _ _).h zE⟩
instance con_rSub[h:ZI [x0,x1] p k][h':ZI [x2,x3] q m][g:ZI [y0,y1] r k'][g':ZI [y2,y3] s m']:Con prog 270 [.agg [x0,x1,x2,x3],.agg [y0,y1,y2,y3]] (k+m+k'+m'<=1000000) (.agg (uQ (bK p q r s))):=⟨fun hk=>by
 refine q2 ⟨_,func270,rfl,rfl⟩ fun neg n neg2 n2 neg3 n3 neg4 n4 hz hz2 hz3 hz4 hn hn2 hn3 hn4=>?_
 subst hz;subst hz2;subst hz3;subst hz4;refine ah.fq func270 results270 ntmps270 fun _ _ _ _ _=>?_
 refine zg ?_;exact nP ak.rV rfl⟩
instance aqx[h:ZI [x0,x1] p k][h':ZI [x2,x3] q m][g:ZI [y0,y1] r k'][g':ZI [y2,y3] s m']:Con prog 353 [.agg [x0,x1,x2,x3],.agg [y0,y1,y2,y3]] (k+m+k'+m'<=10000000) (.agg (uQ (bO p q r s))):=⟨fun hk=>by
 refine q2 ⟨_,func353,rfl,rfl⟩ fun neg n neg2 n2 neg3 n3 neg4 n4 hz hz2 hz3 hz4 hn hn2 hn3 hn4=>?_
 subst hz;subst hz2;subst hz3;subst hz4;refine ah.fq func353 results353 ntmps353 fun _ _ _ _ _=>?_
 refine zg ?_;exact nP ak.rV rfl⟩
instance aoW[h:ZI [x0,x1] p k][h':ZI [x2,x3] q m][g:ZI [y0,y1] r k'][g':ZI [y2,y3] s m']:Con prog 233 [.agg [x0,x1,x2,x3],.agg [y0,y1,y2,y3]] (k+m+k'+m'<=10000000) (.tup [.agg (uQ (bM p q r s)),.one (.c (.val (.bool (decide ((rmk p q).2*(rmk r s).1≠0)))))]):=⟨fun hk=>by
 refine q2 ⟨_,func233,rfl,rfl⟩ fun neg n neg2 n2 neg3 n3 neg4 n4 hz hz2 hz3 hz4 hn hn2 hn3 hn4=>?_
 subst hz;subst hz2;subst hz3;subst hz4;refine ah.fq func233 results233 ntmps233 fun _ _ _ _ _=>?_
 refine zg ?_;exact qN ak.rV (ak.tmp rfl) (zv _) (zv _)⟩
def bS(p q r s:Int):Int:=aS ((bK p q r s).1*(bK p q r s).2)
instance ana[h:ZI [x0,x1] p k][h':ZI [x2,x3] q m][g:ZI [y0,y1] r k'][g':ZI [y2,y3] s m']:Con prog 152 [.agg [x0,x1,x2,x3],.agg [y0,y1,y2,y3]] (k+m+k'+m'<=1000000) (.v (.int .i64 (bS p q r s))):=⟨fun hk=>by
 refine q2 ⟨_,func152,rfl,rfl⟩ fun neg n neg2 n2 neg3 n3 neg4 n4 hz hz2 hz3 hz4 hn hn2 hn3 hn4=>?_
 subst hz;subst hz2;subst hz3;subst hz4;refine ah.fq func152 results152 ntmps152 fun _ _ _ _ _=>?_
 refine zg ?_;exact iw rfl⟩
instance aix[h:ZI [x0,x1] p k][h':ZI [x2,x3] q m]:Con prog 16 [.agg [x0,x1,x2,x3]] (k+m<=1000000) (.agg (zN (zfq (rmk p q).1 (rmk p q).2))):=⟨fun hk=>by
 refine q1 ⟨_,func16,rfl,rfl⟩ fun neg n neg2 n2 hz hz2 hn hn2=>?_
 subst hz;subst hz2;refine ah.fq func16 results16 ntmps16 fun _ _ _ _ _=>?_
 refine zg ?_;exact nP ak.dP rfl⟩
instance aiw[h:ZI [x0,x1] p k][h':ZI [x2,x3] q m]:Con prog 17 [.agg [x0,x1,x2,x3]] (k+m<=1000000) (.agg (zN (mE (rmk p q).1 (rmk p q).2))):=⟨fun hk=>by
 refine q1 ⟨_,func17,rfl,rfl⟩ fun neg n neg2 n2 hz hz2 hn hn2=>?_
 subst hz;subst hz2;refine ah.fq func17 results17 ntmps17 fun _ _ _ _ _=>?_
 refine zg ?_;exact nP ak.dP rfl⟩
def rX(p q:Int):Int:=if(rmk p q).2=1 then(rmk p q).1 else 0
instance uM[h:ZI [x0,x1] p k][h':ZI [x2,x3] q m]:Con prog 227 [.agg [x0,x1,x2,x3]] (k+m<=1000000) (.tup [.agg (zN (rX p q)),.one (.c (.val (.bool (decide ((rmk p q).2=1)))))]):=⟨fun hk=>by
 refine q1 ⟨_,func227,rfl,rfl⟩ fun neg n neg2 n2 hz hz2 hn hn2=>?_
 subst hz;subst hz2;refine ah.fq func227 results227 ntmps227 fun _ _ _ _ _=>?_
 by_cases h1:(rmk (sgn neg n) (sgn neg2 n2)).2=1
 ·refine zg ?_;exact qN ak.dP (ak.tmp rfl) (AV0.imp.of_eq (by unfold rX;rw[if_pos h1])) (AV0.imp.of_eq (cb (decide_eq_true h1).symm))
 ·refine zg ?_;have e:rX (sgn neg n) (sgn neg2 n2)=0:=by unfold rX;rw[if_neg h1]
  rw[e];exact qN ak.dP (ak.tmp rfl) vJ (AV0.imp.of_eq (cb (decide_eq_false h1).symm))⟩
def rS(q:Int×Int):List UInt8:=if q.2=1 then zS q.1 else zS q.1++[47]++zS q.2
instance agF[h:ZI [x0,x1] p k][h':ZI [x2,x3] q m]:Con prog 502 [.agg [x0,x1,x2,x3]] (k+m<=1000000) (.v (str (rS (rmk p q)))):=⟨fun hk=>by
 refine q1 ⟨_,func502,rfl,rfl⟩ fun neg n neg2 n2 hz hz2 hn hn2=>?_
 subst hz;subst hz2;have l1:=apx (z:=(rmk (sgn neg n) (sgn neg2 n2)).1);have l2:=apx (z:=(rmk (sgn neg n) (sgn neg2 n2)).2);refine ah.fq func502 results502 ntmps502 fun _ _ _ _ _=>?_
 by_cases h1:(rmk (sgn neg n) (sgn neg2 n2)).2=1
 ·refine zg ?_;refine agY ?_;unfold rS;rw[if_pos h1]
 ·refine zg ?_;refine agY ?_;unfold rS;rw[if_neg h1]⟩
end
def isR(p q x y:Int):Prop:=(0 < q/\(Int.gcd p q:Int)=1)/\p*y=x*q
attribute [irreducible] isR
end
section
attribute [local irreducible] aW zS rX bK bO bM bS rS
theorem sF{x y:Int}(hy:y≠0)(h:y ∣ x):eZ x y=x.tdiv y:=by
 have hz:jC x y=0:=by unfold jC;first|(rw[if_neg hy];exact Int.tmod_eq_zero_of_dvd h)|exact Int.tmod_eq_zero_of_dvd h
 unfold eZ jO;rw[hz];simp[hy]
theorem abp{x y:Int}(hy:y≠0):0 < (rmk x y).2/\Int.gcd (rmk x y).1 (rmk x y).2=1/\(rmk x y).1*y=x*(rmk x y).2:=by
 have key:∀x y:Int,0 < y->0 < eZ y (Int.gcd x y)/\Int.gcd (eZ x (Int.gcd x y)) (eZ y (Int.gcd x y))=1/\eZ x (Int.gcd x y)*y=x*eZ y (Int.gcd x y):=by
  intro x y hy;have hg:(Int.gcd x y:Int)≠0:=by
   have:=Int.gcd_ne_zero_right (a:=x) (b:=y) zE
   omega
  have hgp:(0:Int) < Int.gcd x y:=zE
  obtain⟨a,ha⟩:=Int.gcd_dvd_left x y;obtain⟨b,hb⟩:=Int.gcd_dvd_right x y;have e1:eZ x (Int.gcd x y)=a:=by
   rw[sF hg (Int.gcd_dvd_left x y)]
   conv=>lhs;arg 1;rw[ha]
   exact Int.mul_tdiv_cancel_left _ hg
  have e2:eZ y (Int.gcd x y)=b:=by
   rw[sF hg (Int.gcd_dvd_right x y)]
   conv=>lhs;arg 1;rw[hb]
   exact Int.mul_tdiv_cancel_left _ hg
  rw[e1,e2];generalize hG:Int.gcd x y=g at*;have hbp:0 < b:=by
   rw[hb]at hy;exact Int.pos_of_mul_pos_right hy zE
  refine⟨hbp,?_,?_⟩
  ·have h1:Int.gcd ((g:Int)*a) ((g:Int)*b)=g*Int.gcd a b:=by rw[Int.gcd_mul_left];simp
   rw[<-ha,<-hb,hG]at h1;have hgn:0 < g:=zE
   exact Nat.eq_of_mul_eq_mul_left hgn zE
  ·rw[ha,hb];grind
 unfold rmk;rw[if_neg hy];by_cases h:y < 0
 ·rw[if_pos h];have:=key (-x) (-y) zE
  refine⟨this.1,this.2.1,?_⟩;have h3:=this.2.2
  grind
 ·rw[if_neg h];exact key x y zE
theorem aaK(x:Int):rmk x 0=(0,1):=by unfold rmk;rfl
abbrev qW(b:Bool)(l:List Nat)(c:Bool)(m:List Nat):List Atom:=[.c (.val (.bool b)),.c (.sat (bL l)),.c (.val (.bool c)),.c (.sat (bL m))]
end
