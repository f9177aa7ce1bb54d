import Derived.Test.YtcamgbgfelmbaaaGreatDoorO17
import Derived.Test.YtcamgbgfelmbaaaGreatDoorO0
import Derived.Test.YtcamgbgfelmbaaaGreatDoorO21
import Derived.Test.YtcamgbgfelmbaaaGreatDoorO1
import Derived.Test.YtcamgbgfelmbaaaGreatDoorO22
import Derived.Test.YtcamgbgfelmbaaaGreatDoorO2
set_option linter.all false
open Go.Proofs.Tryz
namespace Go.Proofs.YtcamgbgfelmbaaaGreatDoor
open Go.RowKit QM SX
variable{x0 x1 x2 x3:SX.Atom}{c d p q s x y z:Int}{l l':List SX.Atom}{js:List Nat}{K L N e k k':Nat}{S:Nat->Prop}{u v:Rat}{w:Go.World}
section
def dV(l:List Nat):Rep where
 has S w v:=Sm WB l/\(aP 1 l.length (l.map fun x:Nat=> .val (.int .u64 (x:Int)))).has S w v
 one h:=(aP _ _ _).one h.2
 step h ho hs:=⟨h.1,(aP _ _ _).step h.2 ho hs⟩
def dV.rn{l:List Nat}{v:Value}(h:(dV l).has S w v):RN w v l:=by
 obtain⟨hs,h⟩:=h;obtain⟨oa,am,h1,h2,h3,h4,h5,h6⟩:=bQ.1 h;refine⟨oa,am,h1,h2,h3,h4,hs,fun i hi=>?_⟩
 obtain⟨b,o,u,e1,e2,e3,e4⟩:=h6 i (.val (.int .u64 ((gd l i:Nat):Int))) (by simp[gd,zx7,hi])
 exact⟨b,o,e1,by rw[e3,show u=_ from e4]⟩
def bI(n:Nat):Rep where
 has S w v:=∃l,Nrm l/\nval WB l=n/\(l=[]->v= .slice none 0 0)/\(dV l).has S w v
 one h:=by obtain⟨l,_,_,_,h⟩:=h;exact(dV l).one h
 step h ho hs:=by obtain⟨l,h1,h2,h3,h⟩:=h;exact⟨l,h1,h2,h3,(dV l).step h ho hs⟩
def bI.afs{n base:Nat}{v:Value}(h:ON base w v n)(hS:∀k,S k->k < base):(bI n).has S w v:=by
 obtain⟨l,h1,h2,h3,h4,h5⟩:=h;refine⟨l,h3,h4,h5,h2,?_⟩;rcases h1.2 with⟨rfl,h0⟩|⟨g,am,cur,rfl,hb,hg,hn,hm,hcs,htk⟩
 ·have hl:l=[]:=zx5 h0;subst hl;exact bQ.2 ⟨none,0,rfl,zq6 _,by simp[maxLen],fun _=>rfl,by simp,fun i c hc=>by simp at hc⟩
 ·refine bQ.2 ⟨some ⟨g,0,none⟩,am,rfl,hn,hm,fun e=>(by cases e),by simp,fun i c hc=>?_⟩
  have hi:i < l.length:=by have:=(zxg.1 hc).1;simpa using this
  refine⟨g,0,.int .u64 ((gd l i:Nat):Int),rfl,fun h=>by have:=hS g h;omega,?_,?_⟩
  ·rw[zv7,h1.cellAt i zE]
   simp[wv,zqa,zyh hi,gd,zx7]
  ·simp[zqa,zyh hi]at hc
   subst hc;simp[CA.has,gd,zx7,hi]
def bI.zero:(bI 0).has S w (.slice none 0 0):=
 ⟨[],Nrm.nil,rfl,fun _=>rfl,Sm.nil,bQ.2 ⟨none,0,rfl,zq6 _,by simp[maxLen],fun _=>rfl,by simp,fun i c hc=>by simp at hc⟩⟩
def aer(B:Nat):Nat->Nat->List Nat
 |0,_=>[]
 |_+1,0=>[]
 |f+1,n+1=>((n+1) % B)::aer B f ((n+1) / B)
def uZ{B:Nat}(hB:1 < B):∀(f n:Nat),n<=f->Sm B (aer B f n)/\nval B (aer B f n)=n/\Nrm (aer B f n)
 |0,n,h=>by
  have:n=0:=zE
  subst this;exact⟨Sm.nil,rfl,Nrm.nil⟩
 |f+1,0,_=>⟨Sm.nil,rfl,Nrm.nil⟩
 |f+1,n+1,h=>by
  have hlt:(n+1) / B < n+1:=Nat.div_lt_self zE hB
  obtain⟨h1,h2,h3⟩:=uZ hB f ((n+1) / B) zE
  have hv:nval B (aer B (f+1) (n+1))=n+1:=by
   show (n+1) % B+B*nval B (aer B f ((n+1) / B))=n+1;rw[h2];exact Nat.mod_add_div _ _
  refine⟨h1.cons (zyi _ zE),hv,.inr ?_⟩
  have hc:aer B (f+1) (n+1)=(n+1) % B::aer B f ((n+1) / B):=rfl;rw[hc];generalize aer B f ((n+1) / B)=l at*;rcases h3 with h3|h3
  ·subst h3;have h5:(n+1) / B=0:=h2.symm;have:(n+1) % B=n+1:=by have:=Nat.mod_add_div (n+1) B;rw[h5]at this;simpa using this
   simp[this]
  ·have h6:l.length≠0:=by
    intro h0;rw[zx5 h0]at h3;simp at h3
   obtain⟨m,hm⟩:∃m,l.length=m+1:=⟨l.length - 1,zE⟩
   rw[hm]at h3;simp only[zx6,hm,Nat.add_sub_cancel,zx7,List.getElem?_cons_succ]at*
   exact h3
def wds(n:Nat):List Nat:=aer WB n n
def agK(n:Nat):Sm WB (wds n):=(uZ uq n n (zq6 n)).1
def rC(n:Nat):nval WB (wds n)=n:=(uZ uq n n (zq6 n)).2.1
def abp(n:Nat):Nrm (wds n):=(uZ uq n n (zq6 n)).2.2
def yY{l:List Nat}(hs:Sm WB l)(hn:Nrm l):l=wds (nval WB l):=apV aX hs (agK _) hn (abp _) (rC _).symm
def nI{n:Nat}(h:n < WB ^ k):(wds n).length<=k:=(abp n).uE aX (by rw[rC];exact h)
def tQ(n:Nat):(wds n).length=0↔n=0:=by
 constructor
 ·intro h;have:=rC n;rw[zx5 h]at this;exact this.symm
 ·intro h;subst h;rfl
instance(l:List Nat):jL (dV l) 1 l.length (l.map fun x:Nat=> .val (.int .u64 (x:Int))):=⟨fun _ _ _ h=>h.2⟩
instance(n:Nat):jL (bI n) 1 (wds n).length ((wds n).map fun x:Nat=> .val (.int .u64 (x:Int))):=⟨fun _ _ _ h=>by
 obtain⟨l,h1,h2,_,h4⟩:=h;have:=yY h4.1 h1;rw[h2]at this;rw[<-this];exact h4.2⟩
class Bd(z:Int)(k:outParam Nat):Prop where
 h:z.natAbs < WB ^ k
def agd(n k:Nat):Rep where
 has S w v:=∃l,nval WB l=n/\l.length<=k/\(dV l).has S w v
 one h:=by obtain⟨l,_,_,h⟩:=h;exact(dV l).one h
 step h ho hs:=by obtain⟨l,h1,h2,h⟩:=h;exact⟨l,h1,h2,(dV l).step h ho hs⟩
class NI(a:CA)(n:outParam Nat)(k:outParam Nat):Prop where
 p:∀S w v,a.has S w v->(agd n k).has S w v
def NI.h{a:CA}{n k:Nat}(x:NI a n k):∀S w v,a.has S w v->∃l,RN w v l/\nval WB l=n/\l.length<=k:=fun S w v h=>by
 obtain⟨l,h1,h2,h3⟩:=x.p S w v h;exact⟨l,dV.rn h3,h1,h2⟩
instance NI.nat(n k:Nat):NI (.sat (agd n k)) n k:=⟨fun _ _ _ h=>h⟩
instance NI.raw(l:List Nat):NI (.sat (dV l)) (nval WB l) l.length:=⟨fun S w v h=>⟨l,rfl,zq6 _,h⟩⟩
instance NI.nil:NI (.val (.slice none 0 0)) 0 0:=⟨fun S w v h=>by
 rw[show v=_ from h]
 exact⟨[],rfl,zq6 _,Sm.nil,bQ.2 ⟨none,0,rfl,zq6 _,by simp[maxLen],fun _=>rfl,by simp,fun i c hc=>by simp at hc⟩⟩⟩
theorem NI.aaV{n:Nat}(hk:n < WB ^ k):NI (.sat (bI n)) n k:=⟨fun S w v h=>by
 obtain⟨l,h1,h2,_,h4⟩:=h;exact⟨l,h2,h1.uE aX (by rw[h2];exact hk),h4⟩⟩
class BdN(n:Nat)(k:outParam Nat):Prop where
 h:n < WB ^ k
instance NI.nrm(n k:Nat)[h:BdN n k]:NI (.sat (bI n)) n k:=NI.aaV h.h
instance BdN.abs(z:Int)(k:Nat)[h:Bd z k]:BdN z.natAbs k:=⟨h.h⟩
def gG(k:Nat):1<=WB ^ k:=Nat.one_le_pow k WB aX
def Bd.mono{m:Nat}(h:z.natAbs < WB ^ k)(hm:k<=m):z.natAbs < WB ^ m:=zqf h (zx2 aX hm)
def akF(k m:Nat):WB ^ k+WB ^ m<=WB ^ (k+m)+1:=by
 have h1:=gG k;have h2:=gG m;rw[zw5];generalize WB ^ k=a at*;generalize WB ^ m=b at*;obtain⟨a,rfl⟩:∃a',a=a'+1:=⟨a - 1,zE⟩
 obtain⟨b,rfl⟩:∃b',b=b'+1:=⟨b - 1,zE⟩
 rw[zy5,Nat.mul_add];have:0<=a*b:=zq8 _;omega
def agA{m:Nat}(hx:x.natAbs < WB ^ k)(hy:y.natAbs < WB ^ m):(x+y).natAbs < WB ^ (k+m+1):=by
 have h1:=akF k m;have h2:WB ^ (k+m)*2<=WB ^ (k+m+1):=by rw[zyf];exact zx8 _ zc
 have h3:=gG (k+m);omega
instance Bd.add(x y:Int)(k m:Nat)[hx:Bd x k][hy:Bd y m]:Bd (x+y) (k+m+1):=⟨agA hx.h hy.h⟩
instance Bd.sub(x y:Int)(k m:Nat)[hx:Bd x k][hy:Bd y m]:Bd (x - y) (k+m+1):=⟨by rw[Int.sub_eq_add_neg];exact agA hx.h (by rw[Int.natAbs_neg];exact hy.h)⟩
instance Bd.neg(x:Int)(k:Nat)[hx:Bd x k]:Bd (-x) k:=⟨by rw[Int.natAbs_neg];exact hx.h⟩
instance Bd.mul(x y:Int)(k m:Nat)[hx:Bd x k][hy:Bd y m]:Bd (x*y) (k+m):=⟨by
 rw[zve,zw5];exact Nat.mul_lt_mul_of_lt_of_le hx.h (Nat.le_of_lt hy.h) (gG m)⟩
def axw{x y:Nat}{m:Nat}(hx:x < WB ^ k)(hy:y < WB ^ m):x+y < WB ^ (k+m+1):=by
 have:=agA (x:=(x:Int)) (y:=(y:Int)) (k:=k) (m:=m) (by simpa using hx) (by simpa using hy)
 omega
instance BdN.add(x y k m:Nat)[hx:BdN x k][hy:BdN y m]:BdN (x+y) (k+m+1):=⟨axw hx.h hy.h⟩
instance BdN.mul(x y k m:Nat)[hx:BdN x k][hy:BdN y m]:BdN (x*y) (k+m):=⟨by
 rw[zw5];exact Nat.mul_lt_mul_of_lt_of_le hx.h (Nat.le_of_lt hy.h) (gG m)⟩
instance BdN.sub(x y k:Nat)[hx:BdN x k]:BdN (x - y) k:=⟨zxb (Nat.sub_le _ _) hx.h⟩
instance BdN.div(x y k:Nat)[hx:BdN x k]:BdN (x / y) k:=⟨zxb (Nat.div_le_self _ _) hx.h⟩
instance BdN.mod(x y k:Nat)[hx:BdN x k]:BdN (x % y) k:=⟨zxb (Nat.mod_le _ _) hx.h⟩
instance BdN.ite(c:Prop)[Decidable c](x k:Nat)[hx:BdN x k]:BdN (if c then 0 else x) k:=⟨by split;exact zqf zc (gG k);exact hx.h⟩
instance BdN.gcd(x y k m:Nat)[hx:BdN x k][hy:BdN y m]:BdN (Nat.gcd x y) (k+m):=⟨by
 rcases zye x with h0|h0
 ·subst h0;rw[Nat.gcd_zero_left];exact zqf hy.h (zx2 aX zE)
 ·exact zxb (Nat.gcd_le_left y h0) (zqf hx.h (zx2 aX zE))⟩
instance Bd.nat(n k:Nat)[h:BdN n k]:Bd (n:Int) k:=⟨by simpa using h.h⟩
instance Bd.zero:Bd 0 0:=⟨by simp⟩
instance Bd.one:Bd 1 1:=⟨by simp[WB]⟩
def ayN(x:Int)(h1: -9223372036854775808<=x)(h2:x<=9223372036854775807):x.natAbs < WB ^ 1:=by rw[zxh,bf];omega
section
variable{a b:CA}{x y k m:Nat}
def nat2{f:FuncId}{r:Nat}[ha:NI a x k][hb:NI b y m](he:∃fn,prog.funcs[f]? =some fn/\(fn.name== "runtime.NumGoroutine")=false/\fn.body.isNone=false)
  (h:∀w va vb la lb,RN w va la->RN w vb lb->nval WB la=x->nval WB lb=y->la.length<=k->lb.length<=m->Calls prog f #[va,vb] w fun e w'=>(∃v,e= .returned v/\ON w.heap.size w' v r)/\Ext w w'):
  ah prog f [.it (.one (.c a)),.it (.one (.c b))] (.r (bI r)):=
 ah.iU he rfl fun E S w vs hl hv=>by
  match vs,hv with
  |[va,vb],⟨h1,h2,_⟩=>
   obtain⟨la,ra,ea,ka⟩:=ha.h S w va h1;obtain⟨lb,rb,eb,kb⟩:=hb.h S w vb h2;refine(h w va vb la lb ra rb ea eb ka kb).mono ?_;rintro e w' ⟨⟨v,rfl,ho⟩,hx⟩;exact⟨v,rfl,bI.afs ho hl,Off.of_below hx⟩
def nat1{f:FuncId}{r:Nat}[ha:NI a x k](he:∃fn,prog.funcs[f]? =some fn/\(fn.name== "runtime.NumGoroutine")=false/\fn.body.isNone=false)
  (h:∀w va la,RN w va la->nval WB la=x->la.length<=k->Calls prog f #[va] w fun e w'=>(∃v,e= .returned v/\ON w.heap.size w' v r)/\Ext w w'):
  ah prog f [.it (.one (.c a))] (.r (bI r)):=
 ah.iU he rfl fun E S w vs hl hv=>by
  match vs,hv with
  |[va],⟨h1,_⟩=>
   obtain⟨la,ra,ea,ka⟩:=ha.h S w va h1;refine(h w va la ra ea ka).mono ?_;rintro e w' ⟨⟨v,rfl,ho⟩,hx⟩;exact⟨v,rfl,bI.afs ho hl,Off.of_below hx⟩
def axz[ha:NI a x k](hk:k<=1099511627775):ah prog 35 [.it (.one (.c a))] (.r (bI x)):=
 nat1 ⟨_,func35,rfl,rfl⟩ fun w va la h1 h2 h3=>by subst h2;exact iq h1 zE
def nAdd[ha:NI a x k][hb:NI b y m](hk:k+m<=1099511627775):ah prog 83 [.it (.one (.c a)),.it (.one (.c b))] (.r (bI (x+y))):=
 nat2 ⟨_,func83,rfl,rfl⟩ fun w va vb la lb h1 h2 h3 h4 h5 h6=>by subst h3 h4;exact zK h1 h2 zE zE
def mMul[ha:NI a x k][hb:NI b y m](hk:k+m<=274877906944):ah prog 85 [.it (.one (.c a)),.it (.one (.c b))] (.r (bI (x*y))):=
 nat2 ⟨_,func85,rfl,rfl⟩ fun w va vb la lb h1 h2 h3 h4 h5 h6=>by subst h3 h4;exact avB h1 h2 zE zE
def dGcd[ha:NI a x k][hb:NI b y m](hk:k+m<=1099511627770):ah prog 177 [.it (.one (.c a)),.it (.one (.c b))] (.r (bI (Nat.gcd x y))):=
 nat2 ⟨_,func177,rfl,rfl⟩ fun w va vb la lb h1 h2 h3 h4 h5 h6=>by subst h3 h4;exact axh h1 h2 hk zE zE
def nOf(x:Nat)(hx:x < WB):ah prog 21 [.v (.int .u64 (x:Int))] (.r (bI x)):=
 ah.iU ⟨_,func21,rfl,rfl⟩ rfl fun E S w vs hl hv=>by
  match vs,hv with
  |[va],⟨h1,_⟩=>
   have h1':va= .int .u64 (x:Int):=h1;subst h1';refine(atw x hx w).mono ?_;rintro e w' ⟨⟨v,rfl,ho⟩,hx⟩;exact⟨v,rfl,bI.afs ho hl,Off.of_below hx⟩
def nCmp[ha:NI a x k][hb:NI b y m](hk:k+m<=1099511627775):ah prog 89 [.it (.one (.c a)),.it (.one (.c b))] (.v (.int .i64 (lV x y))):=
 ah.iU ⟨_,func89,rfl,rfl⟩ rfl fun E S w vs hl hv=>by
  match vs,hv with
  |[va,vb],⟨h1,h2,_⟩=>
   obtain⟨la,ra,ea,ka⟩:=ha.h S w va h1;obtain⟨lb,rb,eb,kb⟩:=hb.h S w vb h2;subst ea eb;refine(abI ra rb zE zE).mono ?_
   rintro e w' ⟨rfl,hx⟩;exact⟨_,rfl,rfl,Off.of_below hx⟩
def ahX[ha:NI a x k](hk:k<=1099511627775):ah prog 31 [.it (.one (.c a))] (.v (.int .i64 (bitLen x:Int))):=
 ah.iU ⟨_,func31,rfl,rfl⟩ rfl fun E S w vs hl hv=>by
  match vs,hv with
  |[va],⟨h1,_⟩=>
   obtain⟨la,ra,ea,ka⟩:=ha.h S w va h1;subst ea;refine(aq4 ra zE).mono ?_
   rintro e w' ⟨rfl,rfl⟩;exact⟨_,rfl,rfl,Off.refl _ _⟩
def alN[ha:NI a x k](hk:k<=1099511627775):ah prog 55 [.it (.one (.c a))] (.tup [.one (.c (.val (.int .u64 ((if x < WB then x else 0:Nat):Int)))),.one (.c (.val (.bool (decide (x < WB)))))]):=
 ah.iU ⟨_,func55,rfl,rfl⟩ rfl fun E S w vs hl hv=>by
  match vs,hv with
  |[va],⟨h1,_⟩=>
   obtain⟨la,ra,ea,ka⟩:=ha.h S w va h1;subst ea;refine(atL ra zE).mono ?_
   rintro e w' ⟨rfl,rfl⟩;exact⟨_,rfl,⟨[_,_],rfl,rfl,rfl,trivial⟩,Off.refl _ _⟩
def nSub[ha:NI a x k][hb:NI b y m](hk:k+m<=1099511627775):ah prog 84 [.it (.one (.c a)),.it (.one (.c b))] (.tup [.one (.c (.sat (bI (x - y)))),.one (.c (.val (.bool (decide (y<=x)))))]):=
 ah.iU ⟨_,func84,rfl,rfl⟩ rfl fun E S w vs hl hv=>by
  match vs,hv with
  |[va,vb],⟨h1,h2,_⟩=>
   obtain⟨la,ra,ea,ka⟩:=ha.h S w va h1;obtain⟨lb,rb,eb,kb⟩:=hb.h S w vb h2;subst ea eb;rcases zyd (nval WB la) (nval WB lb)with hlt|hge
   ·refine(atS ra rb zE zE hlt).mono ?_
    rintro e w' ⟨rfl,hx⟩;refine⟨_,rfl,⟨[_,_],rfl,?_,?_,trivial⟩,Off.of_below hx⟩
    ·show (bI _).has _ _ _;rw[Nat.sub_eq_zero_of_le zE];exact bI.zero
    ·show _=_;rw[decide_eq_false zE]
   ·refine(asD ra rb zE zE hge).mono ?_
    rintro e w' ⟨⟨v,rfl,ho⟩,hx⟩;refine⟨_,rfl,⟨[_,_],rfl,bI.afs ho hl,?_,trivial⟩,Off.of_below hx⟩;show _=_;rw[decide_eq_true hge]
def agi[ha:NI a x k][hb:NI b y m](hk:k+m<=1099511627770):ah prog 57 [.it (.one (.c a)),.it (.one (.c b))] (.tup [.one (.c (.sat (bI (x / y)))),.one (.c (.sat (bI (if y=0 then 0 else x % y)))),.one (.c (.val (.bool (decide (y≠0)))))]):=
 ah.iU ⟨_,func57,rfl,rfl⟩ rfl fun E S w vs hl hv=>by
  match vs,hv with
  |[va,vb],⟨h1,h2,_⟩=>
   obtain⟨la,ra,ea,ka⟩:=ha.h S w va h1;obtain⟨lb,rb,eb,kb⟩:=hb.h S w vb h2;subst ea eb;by_cases h0:nval WB lb=0
   ·refine(aiC ra rb zE zE h0).mono ?_
    rintro e w' ⟨rfl,hx⟩;rw[h0];exact⟨_,rfl,⟨[_,_,_],rfl,by show (bI _).has _ _ _;rw[Nat.div_zero];exact bI.zero,bI.zero,rfl,trivial⟩,Off.of_below hx⟩
   ·refine(acD ra rb zE zE (Nat.pos_of_ne_zero h0)).mono ?_
    rintro e w' ⟨⟨vq,vr,rfl,hq,hr⟩,hx⟩;refine⟨_,rfl,⟨[_,_,_],rfl,bI.afs hq hl,?_,?_,trivial⟩,Off.of_below hx⟩
    ·rw[if_neg h0];exact bI.afs hr hl
    ·show _=_;rw[decide_eq_true h0]
end
def nY{l:List Nat}{v:Value}:(dV l).has S w v↔Sm WB l/\(aP 1 l.length (l.map fun x:Nat=> .val (.int .u64 (x:Int)))).has S w v:=Iff.rfl
def yM{n:Nat}{v:Value}:(agd n k).has S w v↔∃l,nval WB l=n/\l.length<=k/\(dV l).has S w v:=Iff.rfl
def ach{n:Nat}{v:Value}:(bI n).has S w v↔∃l,Nrm l/\nval WB l=n/\(l=[]->v= .slice none 0 0)/\(dV l).has S w v:=Iff.rfl
attribute [irreducible] agd dV bI wds
end
section
attribute [local irreducible] IntKind.wrap bitLen lV nval Go1 Reg WP aK aN bD aA aj ak aT Sat
def sgn(neg:Bool)(n:Nat):Int:=if neg then -(n:Int)else(n:Int)
def af0(z:Int):sgn (decide (z < 0)) z.natAbs=z:=by unfold sgn;split <;> simp_all <;> omega
def iR(neg:Bool)(n:Nat):(sgn neg n).natAbs=n:=by unfold sgn;split <;> omega
abbrev zN(z:Int):List Atom:=[.c (.val (.bool (decide (z < 0)))),.c (.sat (bI z.natAbs))]
abbrev zR(neg:Bool)(n k:Nat):List Atom:=[.c (.val (.bool neg)),.c (.sat (agd n k))]
class ZI(l:List Atom)(z:outParam Int)(k:outParam Nat):Prop where
 h:∃neg n,z=sgn neg n/\∀E S w v,(AV.agg l).has E S w v->(AV.agg (zR neg n k)).has E S w v
theorem ZI.mk'{neg:Bool}{a:CA}{n:Nat}(h:NI a n k):ZI [.c (.val (.bool neg)),.c a] (sgn neg n) k:=⟨neg,n,rfl,fun E S w v hv=>by
 obtain⟨vs,hv,hall⟩:=hv
 match vs,hall with
 |[x,y],⟨h1,h2,_⟩=>exact⟨[x,y],hv,h1,h.p S w y h2,trivial⟩⟩
instance ZI.nat(neg:Bool)(n k:Nat):ZI [.c (.val (.bool neg)),.c (.sat (agd n k))] (sgn neg n) k:=ZI.mk' inferInstance
instance ZI.nrm(z:Int)(k:Nat)[h:Bd z k]:ZI [.c (.val (.bool (decide (z < 0)))),.c (.sat (bI z.natAbs))] z k:=by
 have:=ZI.mk' (neg:=decide (z < 0)) (NI.aaV h.h)
 rwa [af0]at this
instance ZI.raw(neg:Bool)(l:List Nat):ZI [.c (.val (.bool neg)),.c (.sat (dV l))] (sgn neg (nval WB l)) l.length:=ZI.mk' inferInstance
instance ZI.zero:ZI [.c (.val (.bool false)),.c (.val (.slice none 0 0))] 0 0:=ZI.mk' (neg:=false) (n:=0) inferInstance
def awz{n:Nat}{v:Value}(h:(agd n k).has S w v):n < WB ^ k:=by
 obtain⟨l,h1,h2,h3⟩:=yM.1 h;rw[<-h1];exact afb (dV.rn h3).sm h2
def zF{neg:Bool}{n:Nat}{E:Env}{v:Value}(h:(AV.agg (zR neg n k)).has E S w v):n < WB ^ k:=by
 obtain⟨vs,_,hall⟩:=h
 match vs,hall with
 |[_,_],⟨_,h2,_⟩=>exact awz h2
def z1{f:FuncId}{r:AV}[h:ZI l z k](he:∃fn,prog.funcs[f]? =some fn/\(fn.name== "runtime.NumGoroutine")=false/\fn.body.isNone=false)(hf:∀neg n,z=sgn neg n->BdN n k->ah prog f [.agg (zR neg n k)] r):ah prog f [.agg l] r:=by
 obtain⟨neg,n,hz,hm⟩:=h.h;refine ah.fact he (fun hb=>hf neg n hz hb) fun E S w vs hv=>?_
 match vs,hv with
 |[x],⟨h1,_⟩=>exact⟨⟨hm E S w x h1,trivial⟩,⟨zF (hm E S w x h1)⟩⟩
def z2{f:FuncId}{r:AV}{z':Int}[h:ZI l z k][h':ZI l' z' k'](he:∃fn,prog.funcs[f]? =some fn/\(fn.name== "runtime.NumGoroutine")=false/\fn.body.isNone=false)(hf:∀neg n neg' n',z=sgn neg n->z'=sgn neg' n'->BdN n k->BdN n' k'->ah prog f [.agg (zR neg n k),.agg (zR neg' n' k')] r):ah prog f [.agg l,.agg l'] r:=by
 obtain⟨neg,n,hz,hm⟩:=h.h;obtain⟨neg',n',hz',hm'⟩:=h'.h;refine ah.fact (φ:=BdN n k/\BdN n' k') he (fun hb=>hf neg n neg' n' hz hz' hb.1 hb.2) fun E S w vs hv=>?_
 match vs,hv with
 |[x,y],⟨h1,h2,_⟩=>exact⟨⟨hm E S w x h1,hm' E S w y h2,trivial⟩,⟨zF (hm E S w x h1)⟩,⟨zF (hm' E S w y h2)⟩⟩
instance Bd.sgn(neg:Bool)(n k:Nat)[h:BdN n k]:Bd (sgn neg n) k:=⟨by rw[iR];exact h.h⟩
def azB(neg:Bool)(n:Nat):zN (sgn neg n)=[.c (.val (.bool (neg&&decide (0 < n)))),.c (.sat (bI n))]:=by
 have h1:decide (sgn neg n < 0)=(neg&&decide (0 < n)):=by
  unfold sgn;cases neg <;> simp
 unfold zN;rw[iR,h1]
def qV{a:CA}{x:Nat}[ha:NI a x k](neg:Bool)(hk:k<=1099511627775):ah prog 20 [.it (.one (.c a)),.v (.bool neg)] (.agg (zN (sgn neg x))):=by
 rw[azB];refine ah.args (args':=[.r (agd x k),.v (.bool neg)]) ?_ (fun E S w vs hv=>?_)
 rotate_left
 ·match vs,hv with
  |[u,v],⟨h1,h2,_⟩=>exact⟨ha.p S w u h1,h2,trivial⟩
 refine ah.fn func20 results20 ntmps20 rfl rfl rfl zd rfl fun _ _ _ _ _=>?_
 cases neg
 ·repeat(first|refine zg ?_|(refine SX.Go1.is ?_;refine SX.Go1.dO ?_;first
     |refine SX.Go1.call rfl (axz hk) rfl rfl ?_))
  exact aA.eq1 aj.fK rfl
 ·repeat(first|refine zg ?_|(refine SX.Go1.is ?_;refine SX.Go1.dO ?_;first
     |refine SX.Go1.call rfl (axz hk) rfl rfl ?_))
  refine aA.eq1 aj.fK ?_;have h:decide (0 < ((wds x).length:Int))=decide (0 < x):=by
   have:=tQ x;rw[decide_eq_decide];omega
  show AV0.agg [Atom.c (CA.val (.bool (decide (0 < ((wds x).length:Int))))),_]=_;rw[h];rfl
def bG(z:Int):Int:=if z=0 then 0 else if z < 0 then -1 else 1
def pE{n:Nat}:bitLen n=0↔n=0:=by
 unfold bitLen;split <;> simp_all
def aaJ[h:ZI l z k](hk:k<=1099511627775):ah prog 18 [.agg l] (.v (.int .i64 (bG z))):=by
 refine z1 ⟨_,func18,rfl,rfl⟩ fun neg n hz hn=>?_
 subst hz;refine ah.fn func18 results18 ntmps18 rfl rfl rfl zd rfl fun _ _ _ _ _=>?_
 have hb:=pE (n:=n);repeat(first|refine zg ?_|(refine SX.Go1.is ?_;refine SX.Go1.dO ?_;first
    |refine SX.Go1.call rfl (ahX hk) rfl rfl ?_))
 refine WP.cond rfl (fun hc=>?_) (fun hc=>?_)
 ·repeat(first|refine zg ?_)
  refine aA.eq1 (aj.tmp rfl) ?_;have:n=0:=by simp at hc;omega
  subst this;cases neg <;> rfl
 ·repeat(first|refine zg ?_)
  have hn:0 < n:=by simp at hc;omega
  cases neg
  ·repeat(first|refine zg ?_)
   refine aA.eq1 (aj.tmp rfl) ?_;have:bG (sgn false n)=1:=by unfold bG sgn;simp;omega
   rw[this]
  ·repeat(first|refine zg ?_)
   refine aA.eq1 (aj.tmp rfl) ?_;have:bG (sgn true n)= -1:=by unfold bG sgn;simp;omega
   rw[this]
def av8(neg:Bool)(n:Nat):sgn (!neg) n= -sgn neg n:=by unfold sgn;cases neg <;> simp
def zNeg[h:ZI l z k](hk:k<=1099511627775):ah prog 128 [.agg l] (.agg (zN (-z))):=by
 refine z1 ⟨_,func128,rfl,rfl⟩ fun neg n hz hn=>?_
 subst hz;rw[<-av8];refine ah.fn func128 results128 ntmps128 rfl rfl rfl zd rfl fun _ _ _ _ _=>?_
 repeat(first|refine zg ?_|(refine SX.Go1.is ?_;refine SX.Go1.dO ?_;first
    |refine SX.Go1.call rfl (qV _ hk) rfl rfl ?_))
 exact aA.eq1 aj.fK rfl
end
section
attribute [local irreducible] IntKind.wrap bitLen lV nval Go1 Reg WP aK aN bD aA aj ak aT Sat
attribute [local irreducible] sgn bG
def akL(z:Int)(h0:0<=z)(h1:z < 18446744073709551616):ah prog 21 [.v (.int .u64 z)] (.r (bI z.natAbs)):=by
 have:=nOf z.natAbs (by rw[bf];omega)
 rwa [show ((z.natAbs:Nat):Int)=z by omega]at this
def zOf(z:Int)(h1: -9223372036854775808<=z)(h2:z<=9223372036854775807):ah prog 8 [.v (.int .i64 z)] (.agg (zN z)):=by
 have hb:NI (.sat (bI z.natAbs)) z.natAbs 1:=NI.aaV (ayN z h1 h2);refine ah.fn func8 results8 ntmps8 rfl rfl rfl zd rfl fun _ _ _ _ _=>?_
 repeat(first|refine zg ?_)
 refine WP.cond rfl (fun hc=>?_) (fun hc=>?_)
 ·have hz:z < 0:=by simpa using hc
  have hw:IntKind.u64.wrap (0 - IntKind.u64.wrap z)=(z.natAbs:Int):=by
   simp only[IntKind.wrap,IntKind.bits,IntKind.signed];simp;omega
  have hs:sgn true z.natAbs=z:=by unfold sgn;simp;omega
  have hcc:=nOf (z.natAbs) (by rw[bf];omega)
  repeat(first|refine zg ?_|(refine SX.Go1.is ?_;refine SX.Go1.dO ?_;first
     |refine SX.Go1.call rfl (hcc) rfl rfl ?_
     |refine SX.Go1.call rfl (qV true zE) rfl rfl ?_))
  rw[hs];exact aA.eq1 aj.fK rfl
 ·have hz:0<=z:=by simpa using hc
  have hw:IntKind.u64.wrap z=(z.natAbs:Int):=by
   simp only[IntKind.wrap,IntKind.bits,IntKind.signed];simp;omega
  have hs:sgn false z.natAbs=z:=by unfold sgn;simp;omega
  have hcc:=nOf (z.natAbs) (by rw[bf];omega)
  repeat(first|refine zg ?_|(refine SX.Go1.is ?_;refine SX.Go1.dO ?_;first
     |refine SX.Go1.call rfl (hcc) rfl rfl ?_
     |refine SX.Go1.call rfl (akL _ hz zE) rfl rfl ?_
     |refine SX.Go1.call rfl (qV false zE) rfl rfl ?_))
  rw[hs];exact aA.eq1 aj.fK rfl
def ag3(neg:Bool)(n m:Nat):sgn neg (n+m)=sgn neg n+sgn neg m:=by unfold sgn;split <;> omega
def akB(neg:Bool){n m:Nat}(h:m<=n):sgn neg (n - m)=sgn neg n+sgn (!neg) m:=by unfold sgn;cases neg <;> simp <;> omega
def ajz(neg:Bool){n m:Nat}(h:n<=m):sgn (!neg) (m - n)=sgn neg n+sgn (!neg) m:=by unfold sgn;cases neg <;> simp <;> omega
def zAdd{m:Nat}[h:ZI l x k][h':ZI l' y m](hk:k+m<=1099511627774):ah prog 47 [.agg l,.agg l'] (.agg (zN (x+y))):=by
 refine z2 ⟨_,func47,rfl,rfl⟩ fun neg n neg2 n2 hz hz2 hn hn2=>?_
 subst hz hz2;refine ah.fn func47 results47 ntmps47 rfl rfl rfl zd rfl fun _ _ _ _ _=>?_
 repeat(first|refine zg ?_)
 refine WP.cond rfl (fun hc=>?_) (fun hc=>?_)
 ·have hq:neg=neg2:=by simpa using hc
  subst hq;repeat(first|refine zg ?_|(refine SX.Go1.is ?_;refine SX.Go1.dO ?_;first
     |refine SX.Go1.call rfl (nAdd zE) rfl rfl ?_
     |refine SX.Go1.call rfl (qV _ zE) rfl rfl ?_))
  rw[<-ag3];exact aA.eq1 aj.fK rfl
 ·have hq:neg2=!neg:=by cases neg <;> cases neg2 <;> simp_all
  subst hq;repeat(first|refine zg ?_|(refine SX.Go1.is ?_;refine SX.Go1.dO ?_;first
     |refine SX.Go1.call rfl (nSub zE) rfl rfl ?_))
  refine WP.cond rfl (fun hc2=>?_) (fun hc2=>?_)
  ·have hle:n2<=n:=by simpa using hc2
   repeat(first|refine zg ?_|(refine SX.Go1.is ?_;refine SX.Go1.dO ?_;first
      |refine SX.Go1.call rfl (qV _ zE) rfl rfl ?_))
   rw[<-akB neg hle];exact aA.eq1 aj.fK rfl
  ·have hle:n<=n2:=by simp at hc2;omega
   repeat(first|refine zg ?_|(refine SX.Go1.is ?_;refine SX.Go1.dO ?_;first
      |refine SX.Go1.call rfl (nSub zE) rfl rfl ?_
      |refine SX.Go1.call rfl (qV _ zE) rfl rfl ?_))
   rw[<-ajz neg hle];exact aA.eq1 aj.fK rfl
def zSub{m:Nat}[h:ZI l x k][h':ZI l' y m](hk:k+m<=1099511627774):ah prog 336 [.agg l,.agg l'] (.agg (zN (x - y))):=by
 refine z2 ⟨_,func336,rfl,rfl⟩ fun neg n neg2 n2 hz hz2 hn hn2=>?_
 subst hz hz2;rw[Int.sub_eq_add_neg];refine ah.fn func336 results336 ntmps336 rfl rfl rfl zd rfl fun _ _ _ _ _=>?_
 repeat(first|refine zg ?_|(refine SX.Go1.is ?_;refine SX.Go1.dO ?_;first
    |refine SX.Go1.call rfl (zNeg zE) rfl rfl ?_
    |refine SX.Go1.call rfl (zAdd zE) rfl rfl ?_))
 exact aA.eq1 aj.fK rfl
def axg(a b:Bool)(n m:Nat):sgn (!(a==b)) (n*m)=sgn a n*sgn b m:=by unfold sgn;cases a <;> cases b <;> simp[Int.neg_mul,Int.mul_neg]
def zMul{m:Nat}[h:ZI l x k][h':ZI l' y m](hk:k+m<=274877906944):ah prog 48 [.agg l,.agg l'] (.agg (zN (x*y))):=by
 refine z2 ⟨_,func48,rfl,rfl⟩ fun neg n neg2 n2 hz hz2 hn hn2=>?_
 subst hz hz2;rw[<-axg];refine ah.fn func48 results48 ntmps48 rfl rfl rfl zd rfl fun _ _ _ _ _=>?_
 repeat(first|refine zg ?_|(refine SX.Go1.is ?_;refine SX.Go1.dO ?_;first
    |refine SX.Go1.call rfl (mMul zE) rfl rfl ?_
    |refine SX.Go1.call rfl (qV _ zE) rfl rfl ?_))
 exact aA.eq1 aj.fK rfl
def ad4(x y:Int):Int:=if x < y then -1 else if x=y then 0 else 1
def aph(n m:Nat):ad4 (sgn true n) (sgn true m)=lV m n:=by
 unfold ad4 sgn lV;simp;repeat' split <;> omega
def asX(n m:Nat):ad4 (sgn false n) (sgn false m)=lV n m:=by
 unfold ad4 sgn lV;simp;repeat' split <;> omega
def zCmp{m:Nat}[h:ZI l x k][h':ZI l' y m](hk:k+m<=1099511627774):ah prog 164 [.agg l,.agg l'] (.v (.int .i64 (ad4 x y))):=by
 refine z2 ⟨_,func164,rfl,rfl⟩ fun neg n neg2 n2 hz hz2 hn hn2=>?_
 subst hz hz2;refine ah.fn func164 results164 ntmps164 rfl rfl rfl zd rfl fun _ _ _ _ _=>?_
 repeat(first|refine zg ?_|(refine SX.Go1.is ?_;refine SX.Go1.dO ?_;first
    |refine SX.Go1.call rfl (aaJ zE) rfl rfl ?_))
 have hx:bG (sgn neg n) < 0↔sgn neg n < 0:=by unfold bG;repeat' split <;> omega
 have hx0:0 < bG (sgn neg n)↔0 < sgn neg n:=by unfold bG;repeat' split <;> omega
 have hy:bG (sgn neg2 n2) < 0↔sgn neg2 n2 < 0:=by unfold bG;repeat' split <;> omega
 have hy0:0 < bG (sgn neg2 n2)↔0 < sgn neg2 n2:=by unfold bG;repeat' split <;> omega
 have hxr: -1<=bG (sgn neg n)/\bG (sgn neg n)<=1:=by unfold bG;repeat' split <;> omega
 have hyr: -1<=bG (sgn neg2 n2)/\bG (sgn neg2 n2)<=1:=by unfold bG;repeat' split <;> omega
 refine WP.cond rfl (fun hc=>?_) (fun hc=>?_)
 ·repeat(first|refine zg ?_)
  refine aA.eq1 (aj.tmp rfl) ?_;have:ad4 (sgn neg n) (sgn neg2 n2)= -1:=by unfold ad4;rw[if_pos (by simp at hc;omega)]
  rw[this]
 ·repeat(first|refine zg ?_)
  refine WP.cond rfl (fun hc2=>?_) (fun hc2=>?_)
  ·repeat(first|refine zg ?_)
   refine aA.eq1 (aj.tmp rfl) ?_;have:ad4 (sgn neg n) (sgn neg2 n2)=1:=by unfold ad4;rw[if_neg (by simp at hc2;omega),if_neg (by simp at hc2;omega)]
   rw[this]
  ·repeat(first|refine zg ?_)
   refine WP.cond rfl (fun hc3=>?_) (fun hc3=>?_)
   ·have e1:sgn neg n=sgn true n:=by simp at hc hc2 hc3;unfold sgn at*;cases neg <;> simp at* <;> omega
    have e2:sgn neg2 n2=sgn true n2:=by simp at hc hc2 hc3;unfold sgn at*;cases neg2 <;> simp at* <;> omega
    repeat(first|refine zg ?_|(refine SX.Go1.is ?_;refine SX.Go1.dO ?_;first
       |refine SX.Go1.call rfl (nCmp zE) rfl rfl ?_))
    rw[e1,e2,aph];exact aA.eq1 (aj.tmp rfl) rfl
   ·have e1:sgn neg n=sgn false n:=by simp at hc hc2 hc3;unfold sgn at*;cases neg <;> simp at* <;> omega
    have e2:sgn neg2 n2=sgn false n2:=by simp at hc hc2 hc3;unfold sgn at*;cases neg2 <;> simp at* <;> omega
    repeat(first|refine zg ?_|(refine SX.Go1.is ?_;refine SX.Go1.dO ?_;first
       |refine SX.Go1.call rfl (nCmp zE) rfl rfl ?_))
    rw[e1,e2,asX];exact aA.eq1 (aj.tmp rfl) rfl
def anJ(x y:Int):decide (ad4 x y=0)=decide (x=y):=by
 unfold ad4;rw[decide_eq_decide];repeat' split <;> omega
def axI{m:Nat}[h:ZI l x k][h':ZI l' y m](hk:k+m<=1099511627774):ah prog 124 [.agg l,.agg l'] (.v (.bool (decide (x=y)))):=by
 refine z2 ⟨_,func124,rfl,rfl⟩ fun neg n neg2 n2 hz hz2 hn hn2=>?_
 subst hz hz2;rw[<-anJ];refine ah.fn func124 results124 ntmps124 rfl rfl rfl zd rfl fun _ _ _ _ _=>?_
 repeat(first|refine zg ?_|(refine SX.Go1.is ?_;refine SX.Go1.dO ?_;first
    |refine SX.Go1.call rfl (zCmp zE) rfl rfl ?_))
 exact aA.eq1 (aj.tmp rfl) rfl
def zBits[h:ZI l z k](hk:k<=1099511627775):ah prog 167 [.agg l] (.v (.int .i64 (bitLen z.natAbs:Int))):=by
 refine z1 ⟨_,func167,rfl,rfl⟩ fun neg n hz hn=>?_
 subst hz;rw[iR];refine ah.fn func167 results167 ntmps167 rfl rfl rfl zd rfl fun _ _ _ _ _=>?_
 repeat(first|refine zg ?_|(refine SX.Go1.is ?_;refine SX.Go1.dO ?_;first
    |refine SX.Go1.call rfl (ahX zE) rfl rfl ?_))
 exact aA.eq1 (aj.tmp rfl) rfl
def pG(z:Int):Bool:=decide (-9223372036854775808<=z)&&decide (z<=9223372036854775807)
def wu(z:Int):Int:=if pG z then z else 0
def ayu[h:ZI l z k](hk:k<=1099511627775):ah prog 309 [.agg l] (.tup [.one (.c (.val (.int .i64 (wu z)))),.one (.c (.val (.bool (pG z))))]):=by
 refine z1 ⟨_,func309,rfl,rfl⟩ fun neg n hz hn=>?_
 subst hz;refine ah.fn func309 results309 ntmps309 rfl rfl rfl zd rfl fun _ _ _ _ _=>?_
 repeat(first|refine zg ?_|(refine SX.Go1.is ?_;refine SX.Go1.dO ?_;first
    |refine SX.Go1.call rfl (alN zE) rfl rfl ?_
    |refine SX.Go1.call rfl (aaJ zE) rfl rfl ?_))
 have hsg:decide (bG (sgn neg n) < 0)=decide (sgn neg n < 0):=by
  rw[decide_eq_decide];unfold bG;repeat' split <;> omega
 have hab:=iR neg n;have hW:=bf;generalize sgn neg n=z at*;generalize hd:decide (bG z < 0)=s at*;generalize hX:(if n < WB then n else 0)=X at*
 refine WP.cond rfl (fun hc=>?_) (fun hc=>?_)
 ·have hb:pG z=false:=by unfold pG;simp at hc ⊢;omega
  repeat(first|refine zg ?_)
  refine aA.eq2 (aj.tmp rfl) (aj.tmp rfl) ?_ ?_
  ·unfold wu;rw[hb];rfl
  ·rw[hb]
 ·have hlt:n < WB:=by simpa using hc
  rw[if_pos hlt]at hX;subst hX;cases s with
  |true=>
   have hz:z < 0:=by simpa using hsg.symm
   repeat(first|refine zg ?_)
   refine WP.cond rfl (fun hc=>?_) (fun hc=>?_)
   ·have hb:pG z=false:=by unfold pG;simp at hc ⊢;omega
    repeat(first|refine zg ?_)
    refine aA.eq2 (aj.tmp rfl) (aj.tmp rfl) ?_ ?_
    ·unfold wu;rw[hb];rfl
    ·rw[hb]
   ·have hb:pG z=true:=by unfold pG;simp at hc ⊢;omega
    repeat(first|refine zg ?_)
    refine aA.eq2 (aj.tmp rfl) (aj.tmp rfl) ?_ ?_
    ·have e:wu z=z:=by unfold wu;rw[hb];rfl
     have e2:IntKind.i64.wrap (0 - IntKind.i64.wrap (n:Int))=z:=by simp at hc;simp only[IntKind.wrap_i64];omega
     rw[e,e2]
    ·rw[hb]
  |false=>
   have hz:0<=z:=by simpa using hsg.symm
   repeat(first|refine zg ?_)
   refine WP.cond rfl (fun hc=>?_) (fun hc=>?_)
   ·have hb:pG z=false:=by unfold pG;simp at hc ⊢;omega
    repeat(first|refine zg ?_)
    refine aA.eq2 (aj.tmp rfl) (aj.tmp rfl) ?_ ?_
    ·unfold wu;rw[hb];rfl
    ·rw[hb]
   ·have hb:pG z=true:=by unfold pG;simp at hc ⊢;omega
    repeat(first|refine zg ?_)
    refine aA.eq2 (aj.tmp rfl) (aj.tmp rfl) ?_ ?_
    ·have e:wu z=z:=by unfold wu;rw[hb];rfl
     have e2:IntKind.i64.wrap (n:Int)=z:=by simp at hc;simp only[IntKind.wrap_i64];omega
     rw[e,e2]
    ·rw[hb]
end
section
attribute [local irreducible] IntKind.wrap bitLen lV nval Go1 Reg WP aK aN bD aA aj ak aT Sat
def qI(x y:Int):Int:=if y=0 then 0 else x.tmod y
def awY(a b:Bool)(n m:Nat):sgn (!(a==b)) (n / m)=(sgn a n).tdiv (sgn b m):=by
 unfold sgn;cases a <;> cases b <;> simp[Int.neg_tdiv,Int.tdiv_neg]
def uK{b:Bool}{m:Nat}:sgn b m=0↔m=0:=by unfold sgn;cases b <;> simp
def awN(a b:Bool)(n m:Nat):sgn a (if m=0 then 0 else n % m)=qI (sgn a n) (sgn b m):=by
 unfold qI;by_cases h:m=0
 ·rw[if_pos h,if_pos (uK.2 h)];cases a <;> rfl
 ·rw[if_neg h,if_neg (fun e=>h (uK.1 e))]
  unfold sgn;cases a <;> cases b <;> simp[Int.neg_tmod,Int.tmod_neg,Int.tmod_eq_emod_of_nonneg (Int.natCast_nonneg n)]
instance Bd.tdiv(x y:Int)(k:Nat)[h:Bd x k]:Bd (x.tdiv y) k:=⟨by rw[Int.natAbs_tdiv];exact zxb (Nat.div_le_self _ _) h.h⟩
instance Bd.qI(x y:Int)(k:Nat)[h:Bd x k]:Bd (qI x y) k:=⟨by
 unfold Proofs.YtcamgbgfelmbaaaGreatDoor.qI
 split
 ·exact zqf zc (gG k)
 ·rw[Int.natAbs_tmod];exact zxb (Nat.mod_le _ _) h.h⟩
attribute [local irreducible] sgn bG qI
def zQuo{m:Nat}[h:ZI l x k][h':ZI l' y m](hk:k+m<=1099511627770):ah prog 178 [.agg l,.agg l'] (.tup [.agg (zN (x.tdiv y)),.agg (zN (qI x y)),.one (.c (.val (.bool (decide (y≠0)))))]):=by
 refine z2 ⟨_,func178,rfl,rfl⟩ fun neg n neg2 n2 hz hz2 hn hn2=>?_
 subst hz hz2;rw[<-awY,<-awN,show decide (sgn neg2 n2≠0)=decide (n2≠0)by rw[decide_eq_decide,ne_eq,ne_eq,uK]]
 refine ah.fn func178 results178 ntmps178 rfl rfl rfl zd rfl fun _ _ _ _ _=>?_
 repeat(first|refine zg ?_|(refine SX.Go1.is ?_;refine SX.Go1.dO ?_;first
    |refine SX.Go1.call rfl (agi zE) rfl rfl ?_
    |refine SX.Go1.call rfl (qV _ zE) rfl rfl ?_))
 exact aA.eq3 aj.fK aj.fK (aj.tmp rfl) rfl rfl rfl
def zOne:ah prog 497 [] (.agg (zN 1)):=by
 refine ah.fn func497 results497 ntmps497 rfl rfl rfl zp rfl fun _ _ _ _ _=>?_
 repeat(first|refine zg ?_|(refine SX.Go1.is ?_;refine SX.Go1.dO ?_;first
    |refine SX.Go1.call rfl (zOf 1 zE zE) rfl rfl ?_))
 exact aA.eq1 aj.fK rfl
def zfq(x y:Int):Int:=if y=0 then 0 else x.fdiv y
def zfr(x y:Int):Int:=if y=0 then 0 else x.fmod y
def acI(hy:y≠0)(h:x.tmod y*y < 0):x.tdiv y - 1=x.fdiv y/\x.tmod y+y=x.fmod y:=by
 have h1:=Int.tmod_add_mul_tdiv x y;have h2:=Int.fmod_add_mul_fdiv x y;have hq:x.tdiv y - 1=x.fdiv y:=by
  have h0:¬y ∣ x:=fun hd=>by rw[Int.tmod_eq_zero_of_dvd hd]at h;simp at h
  rw[Int.tdiv_eq_ediv,Int.fdiv_eq_ediv];have hs:(x.tmod y < 0/\0 < y)\/(0 < x.tmod y/\y < 0):=by
   rcases Int.lt_trichotomy (x.tmod y) 0 with ha|ha|ha
   ·refine .inl ⟨ha,?_⟩;rcases Int.lt_trichotomy y 0 with hb|hb|hb
    ·have:=Int.mul_pos_of_neg_of_neg ha hb;omega
    ·exact absurd hb hy
    ·exact hb
   ·rw[ha]at h;simp at h
   ·refine .inr ⟨ha,?_⟩;rcases Int.lt_trichotomy y 0 with hb|hb|hb
    ·exact hb
    ·exact absurd hb hy
    ·have:=Int.mul_pos ha hb;omega
  rcases hs with⟨a,b⟩|⟨a,b⟩
  ·have hx:x < 0:=by
    rcases Int.lt_or_le x 0 with hx|hx
    ·exact hx
    ·have:=Int.tmod_nonneg y hx;omega
   rw[if_neg (by simp[h0];omega),if_pos (by left;omega)]
   rw[Int.sign_eq_one_of_pos b];omega
  ·have hx:0 < x:=by
    rcases Int.lt_or_le 0 x with hx|hx
    ·exact hx
    ·have:=Int.tmod_nonneg y (show 0<= -x by omega);rw[Int.neg_tmod]at this;omega
   rw[if_pos (by left;omega),if_neg (by simp[h0];omega)];omega
 refine⟨hq,?_⟩;rw[<-hq,Int.mul_sub]at h2;omega
def acY(hy:y≠0)(h:¬x.tmod y*y < 0):x.tdiv y=x.fdiv y/\x.tmod y=x.fmod y:=by
 have h1:=Int.tmod_add_mul_tdiv x y;have h2:=Int.fmod_add_mul_fdiv x y;have hq:x.tdiv y=x.fdiv y:=by
  rw[Int.tdiv_eq_ediv,Int.fdiv_eq_ediv];by_cases hd:y ∣ x
  ·rw[if_pos (.inr hd),if_pos (.inr hd)];omega
  ·have h0:x.tmod y≠0:=fun e=>hd (Int.dvd_of_tmod_eq_zero e)
   rcases Int.lt_trichotomy y 0 with hb|hb|hb
   ·have:x.tmod y < 0:=by
     rcases Int.lt_trichotomy (x.tmod y) 0 with ha|ha|ha
     ·exact ha
     ·exact absurd ha h0
     ·have:=Int.mul_neg_of_pos_of_neg ha hb;omega
    have hx:x < 0:=by
     rcases Int.lt_or_le x 0 with hx|hx
     ·exact hx
     ·have:=Int.tmod_nonneg y hx;omega
    rw[if_neg (by simp[hd];omega),if_neg (by simp[hd];omega),Int.sign_eq_neg_one_of_neg hb];omega
   ·exact absurd hb hy
   ·have:0 < x.tmod y:=by
     rcases Int.lt_trichotomy (x.tmod y) 0 with ha|ha|ha
     ·have:=Int.mul_neg_of_neg_of_pos ha hb;omega
     ·exact absurd ha h0
     ·exact ha
    have hx:0<=x:=by
     rcases Int.lt_or_le x 0 with hx|hx
     ·have:=Int.tmod_nonneg y (show 0<= -x by omega);rw[Int.neg_tmod]at this;omega
     ·exact hx
    rw[if_pos (.inl hx),if_pos (.inl zE)];omega
 refine⟨hq,?_⟩;rw[<-hq]at h2;omega
instance Bd.zfq(x y:Int)(k:Nat)[h:Bd x k]:Bd (zfq x y) (k+1+1):=⟨by
 unfold Proofs.YtcamgbgfelmbaaaGreatDoor.zfq
 split
 ·exact zqf zc (gG _)
 ·by_cases h0:x.tmod y*y < 0
  ·rw[<-(acI (by assumption) h0).1];exact(Bd.sub (x.tdiv y) 1 k 1).h
  ·rw[<-(acY (by assumption) h0).1];exact Bd.mono (Bd.tdiv x y k).h zE⟩
instance Bd.zfr(x y:Int)(k m:Nat)[h:Bd x k][h':Bd y m]:Bd (zfr x y) (k+m+1):=⟨by
 unfold Proofs.YtcamgbgfelmbaaaGreatDoor.zfr
 split
 ·exact zqf zc (gG _)
 ·have hb:Bd (x.tmod y) k:=⟨by rw[Int.natAbs_tmod];exact zxb (Nat.mod_le _ _) h.h⟩
  by_cases h0:x.tmod y*y < 0
  ·rw[<-(acI (by assumption) h0).2];exact(Bd.add (x.tmod y) y k m).h
  ·rw[<-(acY (by assumption) h0).2];exact Bd.mono hb.h zE⟩
attribute [local irreducible] zfq zfr
def zeq(x y:Int):Int:=if y=0 then 0 else x / y
def zer(x y:Int):Int:=if y=0 then 0 else x % y
def ahf(hy:y≠0)(h:0<=x.tmod y):x.tdiv y=x / y/\x.tmod y=x % y:=by
 have h1:=Int.tmod_add_mul_tdiv x y;have h2:=Int.emod_add_mul_ediv x y;have hq:x.tdiv y=x / y:=by
  rw[Int.tdiv_eq_ediv];by_cases hd:y ∣ x
  ·rw[if_pos (.inr hd)];omega
  ·have h0:x.tmod y≠0:=fun e=>hd (Int.dvd_of_tmod_eq_zero e)
   have hx:0<=x:=by
    rcases Int.lt_or_le x 0 with hx|hx
    ·have:=Int.tmod_nonneg y (show 0<= -x by omega);rw[Int.neg_tmod]at this;omega
    ·exact hx
   rw[if_pos (.inl hx)];omega
 refine⟨hq,?_⟩;rw[<-hq]at h2;omega
def ahv(hy:y≠0)(h:x.tmod y < 0):(0 < y->x.tdiv y - 1=x / y/\x.tmod y+y=x % y)/\(y < 0->x.tdiv y+1=x / y/\x.tmod y - y=x % y):=by
 have h1:=Int.tmod_add_mul_tdiv x y;have h2:=Int.emod_add_mul_ediv x y;have hd:¬y ∣ x:=fun hd=>by rw[Int.tmod_eq_zero_of_dvd hd]at h;omega
 have hx:x < 0:=by
  rcases Int.lt_or_le x 0 with hx|hx
  ·exact hx
  ·have:=Int.tmod_nonneg y hx;omega
 have hq:x.tdiv y=x / y+y.sign:=by rw[Int.tdiv_eq_ediv,if_neg (by simp[hd];omega)]
 constructor
 ·intro hp;rw[Int.sign_eq_one_of_pos hp]at hq;have e:x.tdiv y - 1=x / y:=zE
  refine⟨e,?_⟩;rw[<-e,Int.mul_sub]at h2;omega
 ·intro hp;rw[Int.sign_eq_neg_one_of_neg hp]at hq;have e:x.tdiv y+1=x / y:=zE
  refine⟨e,?_⟩;rw[<-e,Int.mul_add]at h2;omega
def aoe(z:Int):decide (0 < bG z)=decide (0 < z):=by
 rw[decide_eq_decide];unfold bG;repeat' split <;> omega
def afA(z:Int):decide (0<=bG z)=decide (0<=z):=by
 rw[decide_eq_decide];unfold bG;repeat' split <;> omega
def alk(z:Int):decide (bG z=0)=decide (z=0):=by
 rw[decide_eq_decide];unfold bG;repeat' split <;> omega
def axk{m:Nat}[h:ZI l x k][h':ZI l' y m](hk:k+m<=1099511627760):ah prog 489 [.agg l,.agg l'] (.tup [.agg (zN (zeq x y)),.agg (zN (zer x y)),.one (.c (.val (.bool (decide (y≠0)))))]):=by
 refine z2 ⟨_,func489,rfl,rfl⟩ fun neg n neg2 n2 hz hz2 hn hn2=>?_
 refine ah.fn func489 results489 ntmps489 rfl rfl rfl zd rfl fun _ _ _ _ _=>?_
 have hbx:Bd x k:=by rw[hz];infer_instance
 have hby:Bd y m:=by rw[hz2];infer_instance
 by_cases hy:y=0
 ·have hok:decide (y≠0)=false:=by simp[hy]
  have hok2:(!decide (y≠0))=true:=by simp[hy]
  rw[hz2]at hok hok2;subst hz hz2;repeat(first|refine zg ?_|(refine SX.Go1.is ?_;refine SX.Go1.dO ?_;first
     |refine SX.Go1.call rfl (zQuo zE) rfl rfl ?_))
  refine aA.eq3 aj.fK aj.fK (aj.tmp rfl) ?_ ?_ rfl
  ·have:zeq (sgn neg n) (sgn neg2 n2)=(sgn neg n).tdiv (sgn neg2 n2):=by unfold zeq;rw[if_pos hy,hy,Int.tdiv_zero]
   rw[this]
  ·have:zer (sgn neg n) (sgn neg2 n2)=qI (sgn neg n) (sgn neg2 n2):=by unfold zer qI;rw[if_pos hy,if_pos hy]
   rw[this]
 ·have hok:decide (y≠0)=true:=by simp[hy]
  have hok2:(!decide (y≠0))=false:=by simp[hy]
  rw[hz2]at hok hok2;subst hz hz2;have hr:qI (sgn neg n) (sgn neg2 n2)=(sgn neg n).tmod (sgn neg2 n2):=by unfold qI;rw[if_neg hy]
  have bq:Bd ((sgn neg n).tdiv (sgn neg2 n2)) k:=inferInstance;have br:Bd ((sgn neg n).tmod (sgn neg2 n2)) k:=by rw[<-hr];infer_instance
  repeat(first|refine zg ?_|(refine SX.Go1.is ?_;refine SX.Go1.dO ?_;first
     |refine SX.Go1.call rfl (zQuo zE) rfl rfl ?_
     |refine SX.Go1.call rfl (aaJ zE) rfl rfl ?_))
  rw[afA,hr];refine WP.cond rfl (fun hc=>?_) (fun hc=>?_)
  ·obtain⟨e1,e2⟩:=ahf hy (by simpa using hc)
   repeat(first|refine zg ?_)
   refine aA.eq3 aj.fK aj.fK (aj.tmp rfl) ?_ ?_ rfl
   ·unfold zeq;rw[if_neg hy,e1]
   ·unfold zer;rw[if_neg hy,e2]
  ·obtain⟨e1,e2⟩:=ahv hy (by simpa using hc)
   repeat(first|refine zg ?_|(refine SX.Go1.is ?_;refine SX.Go1.dO ?_;first
      |refine SX.Go1.call rfl (aaJ zE) rfl rfl ?_))
   rw[aoe];refine WP.cond rfl (fun hc2=>?_) (fun hc2=>?_)
   ·obtain⟨e1,e2⟩:=e1 (by simpa using hc2)
    repeat(first|refine zg ?_|(refine SX.Go1.is ?_;refine SX.Go1.dO ?_;first
       |refine SX.Go1.call rfl (zOne) rfl rfl ?_
       |refine SX.Go1.call rfl (zSub zE) rfl rfl ?_
       |refine SX.Go1.call rfl (zAdd zE) rfl rfl ?_))
    refine aA.eq3 aj.fK aj.fK (aj.tmp rfl) ?_ ?_ ?_
    ·unfold zeq;rw[if_neg hy,e1]
    ·unfold zer;rw[if_neg hy,e2]
    ·rw[hok]
   ·obtain⟨e1,e2⟩:=e2 (by simp at hc2;omega)
    repeat(first|refine zg ?_|(refine SX.Go1.is ?_;refine SX.Go1.dO ?_;first
       |refine SX.Go1.call rfl (zOne) rfl rfl ?_
       |refine SX.Go1.call rfl (zSub zE) rfl rfl ?_
       |refine SX.Go1.call rfl (zAdd zE) rfl rfl ?_))
    refine aA.eq3 aj.fK aj.fK (aj.tmp rfl) ?_ ?_ ?_
    ·unfold zeq;rw[if_neg hy,e1]
    ·unfold zer;rw[if_neg hy,e2]
    ·rw[hok]
end
section
attribute [local irreducible] IntKind.wrap bitLen lV nval Go1 Reg WP aK aN bD aA aj ak aT Sat
attribute [local irreducible] sgn bG qI zfq
def afQ(x y:Int):Int:=if y < 0 then zfq (-x+ -x+ -y) (-y+ -y)else zfq (x+x+y) (y+y)
def zN0:AV0.imp (.agg [.c (.val (.bool false)),.c (.val (.slice none 0 0))]) (.agg (zN 0)):=by
 rintro E S w v ⟨vs,hv,hall⟩
 match vs,hall with
 |[a,b],⟨h1,h2,_⟩=>
  refine⟨[a,b],hv,h1,?_,trivial⟩;rw[show b=_ from h2]
  exact bI.zero
def sS(x y:Int):Bool:=decide (y≠0)&&decide (qI x y=0)
def gJ(x y:Int):Int:=if sS x y then x.tdiv y else 0
instance Bd.gJ(x y:Int)(k:Nat)[h:Bd x k]:Bd (gJ x y) k:=⟨by
 unfold Proofs.YtcamgbgfelmbaaaGreatDoor.gJ
 split
 ·exact(Bd.tdiv x y k).h
 ·exact zqf zc (gG _)⟩
def azP{m:Nat}[h:ZI l x k][h':ZI l' y m](hk:k+m<=1099511627760):ah prog 130 [.agg l,.agg l'] (.tup [.agg (zN (gJ x y)),.one (.c (.val (.bool (sS x y))))]):=by
 refine z2 ⟨_,func130,rfl,rfl⟩ fun neg n neg2 n2 hz hz2 hn hn2=>?_
 refine ah.fn func130 results130 ntmps130 rfl rfl rfl zd rfl fun _ _ _ _ _=>?_
 by_cases hy:y=0
 ·have hok:decide (y≠0)=false:=by simp[hy]
  have hok2:(!decide (y≠0))=true:=by simp[hy]
  have he:sS x y=false:=by unfold sS;rw[hok];rfl
  have hq:gJ x y=0:=by unfold gJ;rw[he];rfl
  rw[he,hq];rw[hz2]at hok hok2;subst hz hz2;repeat(first|refine zg ?_|(refine SX.Go1.is ?_;refine SX.Go1.dO ?_;first
     |refine SX.Go1.call rfl (zQuo zE) rfl rfl ?_))
  exact aA.mk2 (aj.imp aj.fK zN0) (aj.tmp rfl)
 ·have hok:decide (y≠0)=true:=by simp[hy]
  have hok2:(!decide (y≠0))=false:=by simp[hy]
  rw[hz2]at hok hok2;subst hz hz2;repeat(first|refine zg ?_|(refine SX.Go1.is ?_;refine SX.Go1.dO ?_;first
     |refine SX.Go1.call rfl (zQuo zE) rfl rfl ?_
     |refine SX.Go1.call rfl (aaJ zE) rfl rfl ?_))
  have hne:decide (bG (qI (sgn neg n) (sgn neg2 n2))≠0)=decide (qI (sgn neg n) (sgn neg2 n2)≠0):=by
   have:=alk (qI (sgn neg n) (sgn neg2 n2));rw[decide_eq_decide]at*;omega
  rw[hne];refine WP.cond rfl (fun hc=>?_) (fun hc=>?_)
  ·have hz0:qI (sgn neg n) (sgn neg2 n2)≠0:=by simpa using hc
   have he:sS (sgn neg n) (sgn neg2 n2)=false:=by unfold sS;simp[hz0]
   have hq:gJ (sgn neg n) (sgn neg2 n2)=0:=by unfold gJ;rw[he];rfl
   rw[he,hq];repeat(first|refine zg ?_)
   exact aA.mk2 (aj.imp aj.fK zN0) (aj.tmp rfl)
  ·have hz0:qI (sgn neg n) (sgn neg2 n2)=0:=by simpa using hc
   have he:sS (sgn neg n) (sgn neg2 n2)=true:=by unfold sS;rw[hok];simp[hz0]
   have hq:gJ (sgn neg n) (sgn neg2 n2)=(sgn neg n).tdiv (sgn neg2 n2):=by unfold gJ;rw[he];rfl
   rw[he,hq];repeat(first|refine zg ?_)
   exact aA.mk2 aj.fK (aj.tmp rfl)
def anH(n:Nat):sgn false n=(n:Int):=by unfold sgn;simp
def zGcd{m:Nat}[h:ZI l x k][h':ZI l' y m](hk:k+m<=1099511627760):ah prog 129 [.agg l,.agg l'] (.agg (zN (Int.gcd x y:Int))):=by
 refine z2 ⟨_,func129,rfl,rfl⟩ fun neg n neg2 n2 hz hz2 hn hn2=>?_
 subst hz hz2;rw[show (Int.gcd (sgn neg n) (sgn neg2 n2):Int)=sgn false (Nat.gcd n n2)by rw[anH];unfold Int.gcd;rw[iR,iR]]
 refine ah.fn func129 results129 ntmps129 rfl rfl rfl zd rfl fun _ _ _ _ _=>?_
 repeat(first|refine zg ?_|(refine SX.Go1.is ?_;refine SX.Go1.dO ?_;first
    |refine SX.Go1.call rfl (dGcd zE) rfl rfl ?_
    |refine SX.Go1.call rfl (qV _ zE) rfl rfl ?_))
 exact aA.eq1 aj.fK rfl
instance BdN.igcd(x y:Int)(k m:Nat)[hx:Bd x k][hy:Bd y m]:BdN (Int.gcd x y) (k+m):=⟨(BdN.gcd x.natAbs y.natAbs k m).h⟩
end
section
attribute [local irreducible] IntKind.wrap bitLen lV nval Go1 Reg WP aK aN bD aA aj ak aT Sat
def avP{a:CA}{x:Nat}[ha:NI a x k](hk:k+k<=274877906944):ah prog 58 [.it (.one (.c a))] (.r (bI (x*x))):=by
 refine ah.fn func58 results58 ntmps58 rfl rfl rfl zd rfl fun _ _ _ _ _=>?_
 repeat(first|refine zg ?_|(refine SX.Go1.is ?_;refine SX.Go1.dO ?_;first
    |refine SX.Go1.call rfl (mMul zE) rfl rfl ?_))
 exact aA.eq1 (aj.tmp rfl) rfl
def ahM(x:Nat)(n:Int):Bool:=decide (0<=n)&&(decide (bitLen x=0)||decide (n<=((1048576 / bitLen x:Nat):Int)))
def akx(x:Nat)(n:Int):Nat:=if ahM x n=true then x ^ n.toNat else 0
def a0a{x b W:Nat}(hW:1 < W)(hx:x < 2 ^ b)(he:e<=N)(hN:N*b<=64*K)(hK:0 < K)(hw:W=2 ^ 64):x ^ e < W ^ K:=by
 subst hw;rw[<-Nat.pow_mul];cases e with
 |zero=>rw[Nat.pow_zero];exact Nat.one_lt_two_pow zE
 |succ e=>
  refine zqf (Nat.pow_lt_pow_left hx zE) ?_
  rw[<-Nat.pow_mul];exact zx2 zE (zxf (by rw[zxj];exact zx1 b he) hN)
@[irreducible] def pwK:Nat:=16384
def aqc:pwK=16384:=by unfold pwK;rfl
theorem azo{x:Nat}(he:e<=N)(hN:N*bitLen x<=1048576):BdN (x ^ e) pwK:=⟨a0a (K:=pwK) uq (bitLen_spec x).1 he (by rw[aqc];omega) (by rw[aqc];omega) kS⟩
attribute [local irreducible] ahM akx
def alD(x:Nat)(n:Int):akx x n < WB ^ pwK:=by
 unfold akx
 split
 ·rename_i h;unfold ahM at h;simp only[zx4,Bool.or_eq_true,decide_eq_true_eq]at h;refine(azo (N:=n.toNat) (zq6 _) ?_).h;rcases h.2 with hb|hb
  ·rw[hb];omega
  ·have h5:n.toNat<=1048576 / bitLen x:=zE
   exact zxf (zx1 _ h5) (Nat.div_mul_le_self ..)
 ·exact zqf zc (gG pwK)
instance BdN.akx(x:Nat)(n:Int):BdN (akx x n) pwK:=⟨alD x n⟩
def aiy(z:Int)(n:Int):Int:=if ahM z.natAbs n=true then z ^ n.toNat else 0
def awQ(neg:Bool)(x:Nat)(n:Int):sgn (neg&&decide (n.tmod 2≠0)) (akx x n)=aiy (sgn neg x) n:=by
 unfold akx aiy;rw[iR]
 split
 ·rename_i h;have h0:0<=n:=by unfold ahM at h;simp at h;exact h.1
  have ht:n.tmod 2=((n.toNat % 2:Nat):Int):=by rw[Int.tmod_eq_emod_of_nonneg h0];omega
  unfold sgn;cases neg
  ·simp
  ·rcases Nat.mod_two_eq_zero_or_one n.toNat with e|e
   ·rw[ht,e];simp;rw[show (-(x:Int)) ^ n.toNat=(x:Int) ^ n.toNat from ?_]
    obtain⟨m,hm⟩:∃m,n.toNat=2*m:=⟨n.toNat / 2,zE⟩
    rw[hm,Int.pow_mul,Int.pow_mul];congr 1;simp[Int.pow_succ,Int.neg_mul_neg]
   ·rw[ht,e];simp;obtain⟨m,hm⟩:∃m,n.toNat=2*m+1:=⟨n.toNat / 2,zE⟩
    rw[hm,Int.pow_succ,Int.pow_succ,Int.pow_mul,Int.pow_mul,show (-(x:Int)) ^ 2=(x:Int) ^ 2 by simp[Int.pow_succ,Int.neg_mul_neg],Int.mul_neg]
 ·unfold sgn;simp
instance Bd.aiy(z:Int)(n:Int):Bd (aiy z n) pwK:=⟨by
 have h:=awQ (decide (z < 0)) z.natAbs n;rw[af0]at h;rw[<-h,iR];exact alD _ _⟩
attribute [local irreducible] sgn aiy
end
section
def jQ:Nat->Nat->List UInt8
 |0,_=>[]
 |n+1,x=>jQ n (x / 10)++[UInt8.ofNat (48+x % 10)]
def yJ:∀n x,(jQ n x).length=n
 |0,_=>rfl
 |n+1,x=>by rw[jQ,zqi,yJ n];rfl
def ai0:∀(m n x:Nat),jQ (n+m) x=jQ n (x / 10 ^ m)++jQ m (x % 10 ^ m)
 |0,n,x=>by simp[jQ]
 |m+1,n,x=>by
  have e1:x / 10 ^ (m+1)=x / 10 / 10 ^ m:=by rw[Nat.div_div_eq_div_mul,zyf,zxj]
  have e2:x % 10 ^ (m+1) / 10=x / 10 % 10 ^ m:=by rw[zyf,zxj,Nat.mod_mul_right_div_self]
  have e3:x % 10 ^ (m+1) % 10=x % 10:=by rw[zyf,zxj,Nat.mod_mul_right_mod]
  rw[<-Nat.add_assoc,jQ,ai0 m n,jQ,e1,e2,e3,zqj]
def dig(x:Nat):List UInt8:=if h:x=0 then []else dig (x / 10)++[UInt8.ofNat (48+x % 10)]
decreasing_by omega
def kP:dig 0=[]:=by rw[dig];rfl
def qX{x:Nat}(h:x≠0):dig x=dig (x / 10)++[UInt8.ofNat (48+x % 10)]:=by rw[dig,dif_neg h]
def aeE:∀n,(jQ n 0).all (· ==48)=true
 |0=>rfl
 |n+1=>by rw[jQ,List.all_append,show 0 / 10=0 from rfl,aeE n];decide
def wB{p:UInt8->Bool}:∀{l:List UInt8},l.all p=true->∀m,(l++m).dropWhile p=m.dropWhile p
 |[],_,m=>rfl
 |a::l,h,m=>by
  rw[List.all_cons,zx4]at h;rw[List.cons_append,List.dropWhile_cons,if_pos h.1];exact wB h.2 m
def zL{p:UInt8->Bool}:∀{l:List UInt8} (m:List UInt8),l.dropWhile p≠[]->(l++m).dropWhile p=l.dropWhile p++m
 |[],m,h=>absurd rfl h
 |a::l,m,h=>by
  rw[List.cons_append,List.dropWhile_cons,List.dropWhile_cons]at*;cases hp:p a
  ·simp
  ·simp only[hp,if_true]at h ⊢;exact zL m h
def ajE{x:Nat}(h:x≠0):dig x≠[]:=by rw[qX h];simp
def avq{d:Nat}(h0:d≠0)(h1:d < 10):(UInt8.ofNat (48+d)==48)=false:=by
 rw[beq_eq_false_iff_ne];intro e;have:=congrArg UInt8.toNat e;rw[UInt8.toNat_ofNat']at this;have h48:(48:UInt8).toNat=48:=rfl;omega
def aau:∀(n x:Nat),x < 10 ^ n->(jQ n x).dropWhile (· ==48)=dig x
 |0,x,h=>by
  have:x=0:=by simpa using h
  subst this;rw[kP];rfl
 |n+1,x,h=>by
  have hx:x / 10 < 10 ^ n:=by rw[zyf]at h;omega
  have ih:=aau n (x / 10) hx;rw[jQ];by_cases h0:x / 10=0
  ·rw[h0,wB (aeE n)];by_cases hx0:x=0
   ·subst hx0;rw[kP];decide
   ·rw[qX hx0,h0,kP,List.dropWhile_cons,avq zE zE];rfl
  ·rw[zL _ (by rw[ih];exact ajE h0),ih,<-qX zE]
def nD:Nat->Nat
 |0=>18
 |j+1=>nD j+nD j
def pw(j:Nat):Nat:=10 ^ nD j
def amM:pw 0=1000000000000000000:=rfl
def agL(j:Nat):pw (j+1)=pw j*pw j:=by unfold pw;rw[nD,zw5]
def aqX(j:Nat):0 < pw j:=Nat.pow_pos zc
def afg:∀j,j+18<=nD j
 |0=>zq6 _
 |j+1=>by have:=afg j;rw[nD];omega
instance BdN.pw(j:Nat):BdN (pw j) (nD j):=⟨by
 show 10 ^ nD j < WB ^ nD j;exact Nat.pow_lt_pow_left (by rw[bf];decide) (by have:=afg j;omega)⟩
def abt(j:Nat):nD j<=bitLen (pw j):=by
 have h:=(bitLen_spec (pw j)).1;have h2:2 ^ nD j<=pw j:=Nat.pow_le_pow_left zc _
 exact Nat.le_of_lt ((Nat.pow_lt_pow_iff_right zc).1 (zxb h2 h))
def agE{x:Nat}(h:x < WB ^ k):bitLen x<=64*k:=by
 have hs:=(bitLen_spec x).2;by_cases h0:x=0
 ·subst h0;exact zq8 _
 ·have h1:=hs h0;have e:WB ^ k=2 ^ (64*k):=by rw[Nat.pow_mul];rfl
  rw[e]at h;have:=(Nat.pow_lt_pow_iff_right (a:=2) zc).1 (zxb h1 h)
  omega
def pwM(x:Nat):Nat->Nat->Nat
 |0,j=>j
 |f+1,j=>if 2*bitLen (pw j)<=bitLen x+1 then pwM x f (j+1)else j
def pwm(x:Nat):Nat:=pwM x (bitLen x+2) 0
def aog{x j:Nat}(h:¬2*bitLen (pw j)<=bitLen x+1):x < pw (j+1):=by
 have h1:=(bitLen_spec x).1;have h2:=(bitLen_spec (pw j)).2 (Nat.ne_of_gt (aqX j));have h3:=abt j;have h4:=afg j;rw[agL];refine zqf h1 (zxf ?_ (zxd h2 h2));rw[<-zw5];exact zx2 zc zE
def aQ(x:Nat):List UInt8:=if x=0 then [48]else dig x
def afT{x n:Nat}(h:x < 10 ^ n):(dig x).length<=n:=by
 rw[<-aau n x h];exact zxf (List.dropWhile_sublist _).length_le (Nat.le_of_eq (yJ n x))
end
section
attribute [local irreducible] IntKind.wrap Go1 Reg WP aK aN bD aZ aJ aA aj ak aT Sat
attribute [local irreducible] jQ pw nD pwM pwm aQ
section
variable{a b:CA}{x y k m:Nat}
instance zW[ha:NI a x k]:Con prog 31 [.it (.one (.c a))] (k<=1099511627775) (.v (.int .i64 (bitLen x:Int))):=⟨fun h=>ahX h⟩
instance axM[ha:NI a x k]:Con prog 58 [.it (.one (.c a))] (k+k<=274877906944) (.r (bI (x*x))):=⟨fun h=>avP h⟩
end
def ay2(x:Nat):jQ 0 x=[]:=by unfold jQ;rfl
def ayl(n x:Nat):jQ (n+1) x=jQ n (x / 10)++[UInt8.ofNat (48+x % 10)]:=by rw[jQ]
def pureS{f:FuncId}{ao:List Value}{r:Value}(he:∃fn,prog.funcs[f]? =some fn/\(fn.name== "runtime.NumGoroutine")=false/\fn.body.isNone=false)(h:∀w,Calls prog f ao.toArray w fun e w'=>e= .returned r/\w'=w):ah prog f (ao.map AV.v) (.v r):=
 ah.iU he rfl fun E S w vs hl hv=>by
  have hvs:vs=ao:=by
   clear h
   induction ao generalizing vs with
   |nil=>cases vs with|nil=>rfl|cons _ _=>exact hv.elim
   |cons a l ih=>cases vs with|nil=>exact hv.elim|cons b m=>rw[ih m hv.2,show b=a from hv.1]
  subst hvs;exact(h w).mono fun e w' ⟨h1,h2⟩=>⟨r,h1,rfl,by subst h2;exact Off.refl _ _⟩
def azO(d:Nat):((UInt8.ofNat (48+d % 10)).toNat:Int)=((48+d % 10:Nat):Int):=by
 rw[UInt8.toNat_ofNat'];omega
def asY(x:Nat)(hx:x < WB):qE prog 56 [.v (.int .u64 (x:Int))] 5 1 18 ((jQ 18 x).flatMap kY):=by
 rw[bf]at hx;refine qE.fnF func56 results56 ntmps56 rfl rfl rfl zd fun _ _ _ _ _=>?_
 refine zg ?_;refine W.aht (fun(k y:Nat) (tl:List UInt8)=>k+tl.length=18/\y < 18446744073709551616/\jQ k y++tl=jQ 18 x) (fun k y tl=>[(0,.v (.int .u64 (y:Int))),(3,.own 100),(4,.v (.int .i64 ((k:Int) - 1)))])
  (fun k y tl=>[(100,.row 5 1 18 ((List.replicate k 0++tl).flatMap kY))]) (fun k _ _=>k) 18 x [] ⟨rfl,hx,by simp⟩ (fun k y tl ⟨hk,hy,hd⟩=>?_)
 cases k with
 |zero=>
  have e:(List.replicate 0 0++tl).flatMap kY=(jQ 18 x).flatMap kY:=by rw[<-hd,ay2];rfl
  refine zg ?_;exact retO
 |succ k=>
  rw[show ((k+1:Nat):Int) - 1=(k:Int)by omega]
  have e:spl ((List.replicate (k+1) 0++tl).flatMap kY) (k*1) [.val (.int .u8 ((48+y % 10:Nat):Int))]=(List.replicate k 0++(UInt8.ofNat (48+y % 10)::tl)).flatMap kY:=by
   rw[<-azO,show [CA.val (.int .u8 ((UInt8.ofNat (48+y % 10)).toNat:Int))]=kY (UInt8.ofNat (48+y % 10))from rfl,tN _ _ _ (by simp;omega),List.replicate_succ']
   congr 1
   rw[zqj,List.set_append_right _ _ zp]
   simp
  refine zg ?_
  -- ??
  exact W.afn k (y / 10) (UInt8.ofNat (48+y % 10)::tl) ⟨by simp at hk ⊢;omega,zE,by rw[<-hd,ayl];simp⟩ zE
def agz(n:Nat):List CA:=[.sat (bI n)]
instance:dY agz 1:=⟨fun _=>rfl⟩
def pws(j:Nat):List Nat:=(List.range j).map pw
def afV(j:Nat):(pws j).length=j:=by simp[pws]
def anm{i j:Nat}(h:i < j):(pws j)[i]? =some (pw i):=by simp[pws,h]
def auS{i j:Nat}(h:i<=j):(pws j).take i=pws i:=by
 unfold pws;rw[<-List.map_take,List.take_range,zv9 h]
def aru(j:Nat):pws (j+1)=pws j++[pw j]:=by simp[pws,List.range_succ]
def as3:pw 0=1000000000000000000:=amM
def akk{a:CA}{x:Nat}[ha:NI a x k](hx:x < WB ^ k)(hk:k<=1000000000):ah prog 34 [.it (.one (.c a))] (.r (aD 1 agz (pws (pwm x+1)))):=by
 have cO:ah prog 21 [.v (.int .u64 1000000000000000000)] (.r (bI (pw 0))):=by rw[amM];exact nOf 1000000000000000000 (by rw[bf];decide)
 have hb:=agE hx;have mark:zZ 5:=⟨⟩;have e0:[CA.sat (bI (pw 0))]=(pws (0+1)).flatMap agz:=rfl;refine ah.fq func34 ?_;intros
 refine zg ?_;have hpm:pwM x (bitLen x+2) 0=pwm x:=by unfold pwm;rfl
 refine W.nu (fun(j f:Nat)=>(j=0\/nD j<=bitLen x+1)/\pwM x f j=pwm x/\f+j=bitLen x+2) (fun j f=>[(0,.it (.one (.c a))),(3,.own 100)]) (fun j f=>[(100,.row 31 1 (j+1) ((pws (j+1)).flatMap agz))]) (fun j f=>f) 0 (bitLen x+2) ⟨.inl rfl,hpm,rfl⟩ (fun j f ⟨h1,h2,h3⟩=>?_)
 have hn:nD j<=64000000001:=by
  rcases h1 with rfl|h1
  ·have:nD 0=18:=by unfold nD;rfl
   omega
  ·omega
 have hg:(pws (j+1))[j+1 - 1]? =some (pw j):=anm zE
 have hbp:=abt j;have hbj:=afg j;have hbu:=agE (BdN.pw j).h;by_cases hq:2*bitLen (pw j)<=bitLen x+1
 ·cases f with
  |zero=>exact absurd hq zE
  |succ f=>
   have e1:(pws (j+1)).flatMap agz++[CA.sat (bI (pw j*pw j))]=(pws (j+1+1)).flatMap agz:=by
    rw[aru (j+1),zvc,agL];rfl
   have h2':pwM x f (j+1)=pwm x:=by rw[<-h2];conv=>rhs;unfold pwM;rw[if_pos hq]
   have hs:nD (j+1)=nD j+nD j:=by conv=>lhs;unfold nD
   refine zg ?_;exact W.mV (j+1) f ⟨.inr zE,h2',zE⟩ zE
 ·have hjm:j=pwm x:=by
   rw[<-h2];cases f with
   |zero=>unfold pwM;rfl
   |succ f=>conv=>rhs;unfold pwM;rw[if_neg hq]
  refine zg ?_;refine aJ.frz 100 ?_;refine aaH ?_;rw[<-hjm];show AV0.imp _ (.one (.c (.sat (aP 1 (pws (j+1)).length ((pws (j+1)).flatMap agz)))));rw[afV];exact z7 _
def xK:∀(j:Nat) {a:CA} {x k:Nat} [ha:NI a x k] (L:List Nat),L=pws j->x < pw j->nD j<=200000000000->k<=500000000000->
  qE prog 33 [.it (.one (.c a)),.r (aD 1 agz L)] 5 1 (nD j) ((jQ (nD j) x).flatMap kY)
 |0,a,x,k,ha,L,hL,hx,hn,hk=>by
  have e18:nD 0=18:=by unfold nD;rfl
  have hxw:x < WB:=by rw[as3]at hx;rw[bf];omega
  have cW:=alN (a:=a) (x:=x) (k:=k) zE
  rw[if_pos hxw]at cW;have cw:=asY x hxw;have hl0:L.length=0:=by rw[hL,afV]
  rw[e18];refine qE.fnF func33 results33 ntmps33 rfl rfl rfl zd fun w0 T B E0 hB=>?_
  refine zg ?_;exact retO
 |j+1,a,x,k,ha,L,hL,hx,hn,hk=>by
  have hs:nD (j+1)=nD j+nD j:=by conv=>lhs;unfold nD
  have hj:=afg j;have hl1:L.length=j+1:=by rw[hL,afV]
  have hg:L[L.length - 1]? =some (pw j):=by rw[hl1,hL];exact anm zE
  have ht:L.take (L.length - 1)=pws j:=by rw[hl1,hL];exact auS zE
  have hp:=aqX j;rw[agL]at hx;have hq:x / pw j < pw j:=Nat.div_lt_of_lt_mul hx;have hr:x % pw j < pw j:=zyi _ hp;have cD:=agi (a:=a) (x:=x) (k:=k) (b:= .sat (bI (pw j))) (y:=pw j) (m:=nD j) zE
  rw[if_neg zE]at cD
  haveI b1:BdN (x / pw j) (nD j):=⟨Nat.lt_trans hq (BdN.pw j).h⟩
  haveI b2:BdN (x % pw j) (nD j):=⟨Nat.lt_trans hr (BdN.pw j).h⟩
  have c1:=xK j (a:= .sat (bI (x / pw j))) (k:=nD j) (L.take (L.length - 1)) ht hq zE zE
  have c2:=(xK j (a:= .sat (bI (x % pw j))) (k:=nD j) (L.take (L.length - 1)) ht hr zE zE).pure
  have e1:(jQ (nD j) (x / pw j)).flatMap kY++(jQ (nD j) (x % pw j)).flatMap kY=(jQ (nD j+nD j) x).flatMap kY:=by
   rw[ai0,zvc,show 10 ^ nD j=pw j by unfold pw;rfl]
  rw[hs];refine qE.fnF func33 results33 ntmps33 rfl rfl rfl zd fun w0 T B E0 hB=>?_
  refine zg ?_;exact retO
def ahc(l:List UInt8):ah prog 32 [.v (str l),.v (str [48])] (.v (str (l.dropWhile (· ==48)))):=
 pureS (ao:=[str l,str [48]]) ⟨_,func32,rfl,rfl⟩ fun w=>(strings_TrimLeft_one ⟨⟨l⟩⟩ 48 zc w).mono fun e w' ⟨h1,h2⟩=>⟨h1,h2⟩
def as0(x:Nat):x < pw (pwm x+1):=by
 have key:∀(f j:Nat),f+j=bitLen x+2->¬2*bitLen (pw (pwM x f j))<=bitLen x+1:=by
  intro f
  induction f with
  |zero=>
   intro j hj;have h1:=abt j;have h2:=afg j;unfold pwM;omega
  |succ f ih=>
   intro j hj;unfold pwM
   split
   ·exact ih (j+1) zE
   ·assumption
 have:=key (bitLen x+2) 0 rfl;exact aog (by unfold pwm;exact this)
def azl{x:Nat}(hx:x < WB ^ k)(hk:k<=1000000000):nD (pwm x+1)<=200000000000:=by
 have hb:=agE hx;have key:∀(f j:Nat),(j=0\/nD j<=bitLen x+1)->nD (pwM x f j)<=64000000001:=by
  intro f
  induction f with
  |zero=>
   intro j hj;unfold pwM;rcases hj with rfl|hj
   ·have:nD 0=18:=by unfold nD;rfl
    omega
   ·omega
  |succ f ih=>
   intro j hj;unfold pwM
   split
   ·rename_i h;have h1:=abt j;exact ih (j+1) (.inr (by
                  conv=>lhs;unfold nD
                  omega))
   ·rcases hj with rfl|hj
    ·have:nD 0=18:=by unfold nD;rfl
     omega
    ·omega
 have h1:=key (bitLen x+2) 0 (.inl rfl);have h2:nD (pwm x+1)=nD (pwm x)+nD (pwm x):=by conv=>lhs;unfold nD
 have h3:nD (pwm x)<=64000000001:=by unfold pwm;exact h1
 omega
def ae5{a:CA}{x:Nat}[ha:NI a x k](hx:x < WB ^ k)(hk:k<=1000000000):ah prog 19 [.it (.one (.c a))] (.v (str (aQ x))):=by
 have cP:=akk (a:=a) hx hk;have cD:=(xK (pwm x+1) (a:=a) (k:=k) (pws (pwm x+1)) rfl (as0 x) (azl hx hk) zE).pure
 have el:nD (pwm x+1)=(jQ (nD (pwm x+1)) x).length:=(yJ _ _).symm;have cD':ah prog 33 [.it (.one (.c a)),.r (aD 1 agz (pws (pwm x+1)))] (.r (aD 1 kY (jQ (nD (pwm x+1)) x))):=by
  show ah _ _ _ (.r (aP 1 (jQ (nD (pwm x+1)) x).length _));rw[yJ];exact cD
 clear cD;have cT:=ahc (jQ (nD (pwm x+1)) x);have hd:=aau (nD (pwm x+1)) x (by have:=as0 x;unfold pw at this;exact this)
 rw[hd]at cT;have hS:aQ x=if x=0 then [48]else dig x:=by unfold aQ;rfl
 refine ah.fq func19 ?_;intros
 by_cases h0:x=0
 ·have hz:decide (dig x=[])=true:=by subst h0;rw[kP];rfl
  refine zg ?_;refine mX ?_;rw[hS,if_pos h0]
 ·have hz:decide (dig x=[])=false:=decide_eq_false (ajE h0);refine zg ?_;refine mX ?_;rw[hS,if_neg h0]
end
section
attribute [local irreducible] IntKind.wrap Go1 Reg WP aK aN bD aZ aJ aA aj ak aT Sat
section
variable{l l':List Atom}{a:CA}{x y:Int}{n k m:Nat}
instance vk[h:ZI l x k]:Con prog 18 [.agg l] (k<=1099511627775) (.v (.int .i64 (bG x))):=⟨fun h=>aaJ h⟩
instance atD[h:ZI l x k]:Con prog 128 [.agg l] (k<=1099511627775) (.agg (zN (-x))):=⟨fun h=>zNeg h⟩
instance pq:Con prog 8 [.v (.int .i64 x)] (-9223372036854775808<=x/\x<=9223372036854775807) (.agg (zN x)):=⟨fun h=>zOf x h.1 h.2⟩
instance yN[h:ZI l x k][h':ZI l' y m]:Con prog 47 [.agg l,.agg l'] (k+m<=1099511627774) (.agg (zN (x+y))):=⟨fun h=>zAdd h⟩
instance asH[h:ZI l x k][h':ZI l' y m]:Con prog 336 [.agg l,.agg l'] (k+m<=1099511627774) (.agg (zN (x - y))):=⟨fun h=>zSub h⟩
instance abX[h:ZI l x k][h':ZI l' y m]:Con prog 48 [.agg l,.agg l'] (k+m<=274877906944) (.agg (zN (x*y))):=⟨fun h=>zMul h⟩
instance apo[h:ZI l x k][h':ZI l' y m]:Con prog 124 [.agg l,.agg l'] (k+m<=1099511627774) (.v (.bool (decide (x=y)))):=⟨fun h=>axI h⟩
instance fE[h:ZI l x k]:Con prog 167 [.agg l] (k<=1099511627775) (.v (.int .i64 (bitLen x.natAbs:Int))):=⟨fun h=>zBits h⟩
instance ajY[h:ZI l x k][h':ZI l' y m]:Con prog 130 [.agg l,.agg l'] (k+m<=1099511627760) (.tup [.agg (zN (gJ x y)),.one (.c (.val (.bool (sS x y))))]):=⟨fun h=>azP h⟩
instance aq3[h:ZI l x k][h':ZI l' y m]:Con prog 129 [.agg l,.agg l'] (k+m<=1099511627760) (.agg (zN (Int.gcd x y:Int))):=⟨fun h=>zGcd h⟩
instance ae3[h:NI a n k](neg:Bool):Con prog 20 [.it (.one (.c a)),.v (.bool neg)] (k<=1099511627775) (.agg (zN (sgn neg n))):=⟨fun h=>qV neg h⟩
end
def agy(z:Int):bG z=0↔z=0:=by unfold bG;(repeat' split) <;> omega
def aj4(z:Int):bG z < 0↔z < 0:=by unfold bG;(repeat' split) <;> omega
def ajL(a b:Int):IntKind.i64.wrap (bG a*bG b)=bG (a*b):=by
 have h:bG a*bG b=bG (a*b):=by
  unfold bG;by_cases ha:a=0
  ·simp[ha]
  ·by_cases hb:b=0
   ·simp[hb]
   ·have hab:a*b≠0:=Int.mul_ne_zero ha hb;rw[if_neg ha,if_neg hb,if_neg hab];by_cases h1:a < 0
    ·by_cases h2:b < 0
     ·have:=Int.mul_pos_of_neg_of_neg h1 h2;rw[if_pos h1,if_pos h2,if_neg zE];rfl
     ·have:=Int.mul_neg_of_neg_of_pos h1 (show 0 < b by omega)
      rw[if_pos h1,if_neg h2,if_pos zE];rfl
    ·by_cases h2:b < 0
     ·have:=Int.mul_neg_of_pos_of_neg (show 0 < a by omega) h2
      rw[if_neg h1,if_pos h2,if_pos zE];rfl
     ·have:=Int.mul_pos (show 0 < a by omega) (show 0 < b by omega)
      rw[if_neg h1,if_neg h2,if_neg zE];rfl
 rw[h];have h1: -1<=bG (a*b)/\bG (a*b)<=1:=by unfold bG;(repeat' split) <;> omega
 exact jO zE zE
def zS(z:Int):List UInt8:=if z < 0 then 45::aQ z.natAbs else aQ z.natAbs
def abN{x:Nat}(h:x < WB ^ k):(aQ x).length<=20*k+1:=by
 unfold aQ
 split
 ·simp
 ·have:WB ^ k<=10 ^ (20*k):=by rw[Nat.pow_mul];exact Nat.pow_le_pow_left (by rw[bf];decide) _
  have:=afT (zqf h this);omega
def au4[h:Bd z k]:(zS z).length<=20*k+2:=by
 have:=abN h.h;unfold zS;split
 ·rw[zx6];omega
 ·omega
instance rX{l:List Atom}{z:Int}{k:Nat}[h:ZI l z k]:Con prog 7 [.agg l] (k<=1000000000) (.v (str (zS z))):=⟨fun hk=>by
 refine z1 ⟨_,func7,rfl,rfl⟩ fun neg n hz hn=>?_
 subst hz;have hb:=(inferInstance:BdN n k).h;have cP:=ae5 (a:= .sat (agd n k)) hb hk;have hl:=abN hb;have hS:zS (sgn neg n)=if sgn neg n < 0 then 45::aQ n else aQ n:=by unfold zS;rw[iR]
 have hs:=aj4 (sgn neg n);refine ah.fq func7 ?_;intros
 by_cases h0:sgn neg n < 0
 ·refine zg ?_;refine mX ?_;rw[hS,if_pos h0];rfl
 ·refine zg ?_;refine mX ?_;rw[hS,if_neg h0]⟩
def rmk(x y:Int):Int×Int:=if y=0 then(0,1)else if y < 0 then(gJ (-x) (Int.gcd (-x) (-y)),gJ (-y) (Int.gcd (-x) (-y)))else(gJ x (Int.gcd x y),gJ y (Int.gcd x y))
abbrev xA(q:Int×Int):List Atom:=[.c (.val (.bool (decide (q.1 < 0)))),.c (.sat (bI q.1.natAbs)),.c (.val (.bool (decide (q.2 < 0)))),.c (.sat (bI q.2.natAbs))]
instance Bd.asa(x y:Int)(k m:Nat)[h:Bd x k][h':Bd y m]:Bd (rmk x y).1 (k+m+1):=⟨by
 unfold rmk;repeat' split
 ·exact Bd.mono (Bd.zero).h zE
 ·exact Bd.mono (Bd.gJ (-x) _ k).h zE
 ·exact Bd.mono (Bd.gJ x _ k).h zE⟩
instance Bd.asw(x y:Int)(k m:Nat)[h:Bd x k][h':Bd y m]:Bd (rmk x y).2 (k+m+1):=⟨by
 unfold rmk;repeat' split
 ·exact Bd.mono (Bd.one).h zE
 ·exact Bd.mono (Bd.gJ (-y) _ m).h zE
 ·exact Bd.mono (Bd.gJ y _ m).h zE⟩
instance sF{l:List Atom}{z:Int}{k:Nat}[h:ZI l z k]:Con prog 30 [.agg l] (k<=1000000000) (.agg (xA (z,1))):=⟨fun hk=>by
 refine z1 ⟨_,func30,rfl,rfl⟩ fun neg n hz hn=>?_
 subst hz;refine ah.fq func30 ?_;intros
 refine zg ?_;exact jG aj.wh rfl⟩
instance a0x:Con prog 127 [] True (.agg (xA (0,1))):=⟨fun hk=>by
 refine ah.fq func127 ?_;intros
 refine zg ?_;exact jG aj.wh rfl⟩
instance a00{l l':List Atom}{x y:Int}{k m:Nat}[h:ZI l x k][h':ZI l' y m]:Con prog 82 [.agg l,.agg l'] (k+m<=1000000000) (.tup [.agg (xA (rmk x y)),.one (.c (.val (.bool (decide (y≠0)))))]):=⟨fun hk=>by
 refine z2 ⟨_,func82,rfl,rfl⟩ fun neg n neg2 n2 hz hz2 hn hn2=>?_
 subst hz;subst hz2;have hs0:=agy (sgn neg2 n2);have hsn:=aj4 (sgn neg2 n2);refine ah.fq func82 ?_;intros
 by_cases h0:sgn neg2 n2=0
 ·refine zg ?_;have e:rmk (sgn neg n) (sgn neg2 n2)=(0,1):=by unfold rmk;rw[if_pos h0]
  rw[e];exact sO aj.wh (aj.tmp rfl) (z7 _) (AV0.imp.of_eq (cb (by simp[h0])))
 ·by_cases h1:sgn neg2 n2 < 0
  ·refine zg ?_;have e:rmk (sgn neg n) (sgn neg2 n2)=(gJ (-sgn neg n) (Int.gcd (-sgn neg n) (-sgn neg2 n2)),gJ (-sgn neg2 n2) (Int.gcd (-sgn neg n) (-sgn neg2 n2))):=by unfold rmk;rw[if_neg h0,if_pos h1]
   rw[e];exact sO aj.wh (aj.tmp rfl) (z7 _) (AV0.imp.of_eq (cb (by simp[h0])))
  ·refine zg ?_;have e:rmk (sgn neg n) (sgn neg2 n2)=(gJ (sgn neg n) (Int.gcd (sgn neg n) (sgn neg2 n2)),gJ (sgn neg2 n2) (Int.gcd (sgn neg n) (sgn neg2 n2))):=by unfold rmk;rw[if_neg h0,if_neg h1]
   rw[e];exact sO aj.wh (aj.tmp rfl) (z7 _) (AV0.imp.of_eq (cb (by simp[h0])))⟩
def q1{f:FuncId}{r:AV}{m:Nat}[h:ZI [x0,x1] p k][h':ZI [x2,x3] q m](he:∃fn,prog.funcs[f]? =some fn/\(fn.name== "runtime.NumGoroutine")=false/\fn.body.isNone=false)(hf:∀neg n neg' n',p=sgn neg n->q=sgn neg' n'->BdN n k->BdN n' m->ah prog f [.agg (zR neg n k++zR neg' n' m)] r):ah prog f [.agg [x0,x1,x2,x3]] r:=by
 obtain⟨neg,n,hz,hm⟩:=h.h;obtain⟨neg',n',hz',hm'⟩:=h'.h;refine ah.fact (φ:=BdN n k/\BdN n' m) he (fun hb=>hf neg n neg' n' hz hz' hb.1 hb.2) fun E S w vs hv=>?_
 match vs,hv with
 |[_],⟨⟨[v0,v1,v2,v3],rfl,h0,h1,h2,h3,_⟩,_⟩=>
  have a1:=hm E S w _ ⟨[v0,v1],rfl,h0,h1,trivial⟩;have a2:=hm' E S w _ ⟨[v2,v3],rfl,h2,h3,trivial⟩;refine⟨⟨⟨[v0,v1,v2,v3],rfl,?_⟩,trivial⟩,⟨zF a1⟩,⟨zF a2⟩⟩;obtain⟨us,e1,b1⟩:=a1;obtain⟨us',e2,b2⟩:=a2
  match us,us',b1,b2 with
  |[_,_],[_,_],⟨c0,c1,_⟩,⟨d0,d1,_⟩=>
   cases e1;cases e2;exact⟨c0,c1,d0,d1,trivial⟩
def q2{f:FuncId}{r:AV}{y0 y1 y2 y3:Atom}{p' q':Int}{m m':Nat}[h:ZI [x0,x1] p k][h':ZI [x2,x3] q m][g:ZI [y0,y1] p' k'][g':ZI [y2,y3] q' m'](he:∃fn,prog.funcs[f]? =some fn/\(fn.name== "runtime.NumGoroutine")=false/\fn.body.isNone=false)(hf:∀neg n neg' n' neg2 n2 neg3 n3,p=sgn neg n->q=sgn neg' n'->p'=sgn neg2 n2->q'=sgn neg3 n3->BdN n k->BdN n' m->BdN n2 k'->BdN n3 m'->ah prog f [.agg (zR neg n k++zR neg' n' m),.agg (zR neg2 n2 k'++zR neg3 n3 m')] r):ah prog f [.agg [x0,x1,x2,x3],.agg [y0,y1,y2,y3]] r:=by
 obtain⟨neg,n,hz,hm⟩:=h.h;obtain⟨neg',n',hz',hm'⟩:=h'.h;obtain⟨neg2,n2,hz2,hm2⟩:=g.h;obtain⟨neg3,n3,hz3,hm3⟩:=g'.h;refine ah.fact (φ:=BdN n k/\BdN n' m/\BdN n2 k'/\BdN n3 m') he (fun hb=>hf neg n neg' n' neg2 n2 neg3 n3 hz hz' hz2 hz3 hb.1 hb.2.1 hb.2.2.1 hb.2.2.2) fun E S w vs hv=>?_
 match vs,hv with
 |[_,_],⟨⟨[v0,v1,v2,v3],rfl,h0,h1,h2,h3,_⟩,⟨[w0,w1,w2,w3],rfl,i0,i1,i2,i3,_⟩,_⟩=>
  have a1:=hm E S w _ ⟨[v0,v1],rfl,h0,h1,trivial⟩;have a2:=hm' E S w _ ⟨[v2,v3],rfl,h2,h3,trivial⟩;have a3:=hm2 E S w _ ⟨[w0,w1],rfl,i0,i1,trivial⟩;have a4:=hm3 E S w _ ⟨[w2,w3],rfl,i2,i3,trivial⟩;refine⟨⟨⟨[v0,v1,v2,v3],rfl,?_⟩,⟨[w0,w1,w2,w3],rfl,?_⟩,trivial⟩,⟨zF a1⟩,⟨zF a2⟩,⟨zF a3⟩,⟨zF a4⟩⟩
  ·obtain⟨us,e1,b1⟩:=a1;obtain⟨us',e2,b2⟩:=a2
   match us,us',b1,b2 with
   |[_,_],[_,_],⟨c0,c1,_⟩,⟨d0,d1,_⟩=>
    cases e1;cases e2;exact⟨c0,c1,d0,d1,trivial⟩
  ·obtain⟨us,e1,b1⟩:=a3;obtain⟨us',e2,b2⟩:=a4
   match us,us',b1,b2 with
   |[_,_],[_,_],⟨c0,c1,_⟩,⟨d0,d1,_⟩=>
    cases e1;cases e2;exact⟨c0,c1,d0,d1,trivial⟩
attribute [irreducible] rmk
section
variable{x0 x1 x2 x3 y0 y1 y2 y3:Atom}{p q r s:Int}{k m k' m':Nat}
abbrev qn(p q:Int):Int×Int:=rmk p q
instance a0t[h:ZI [x0,x1] p k][h':ZI [x2,x3] q m]:Con prog 46 [.agg [x0,x1,x2,x3]] (k+m<=1000000000) (.agg (xA (rmk p q))):=⟨fun hk=>by
 refine q1 ⟨_,func46,rfl,rfl⟩ fun neg n neg2 n2 hz hz2 hn hn2=>?_
 subst hz;subst hz2;refine ah.fq func46 ?_;intros
 refine zg ?_;exact jG aj.wh rfl⟩
instance a0u[h:ZI [x0,x1] p k][h':ZI [x2,x3] q m]:Con prog 162 [.agg [x0,x1,x2,x3]] (k+m<=1000000000) (.v (.int .i64 (bG (p*q)))):=⟨fun hk=>by
 refine q1 ⟨_,func162,rfl,rfl⟩ fun neg n neg2 n2 hz hz2 hn hn2=>?_
 subst hz;subst hz2;have hw:IntKind.i64.wrap (bG (sgn neg n)*bG (sgn neg2 n2))=bG (sgn neg n*sgn neg2 n2):=ajL _ _;refine ah.fq func162 ?_;intros
 refine zg ?_;exact dZ rfl⟩
instance avb[h:ZI [x0,x1] p k][h':ZI [x2,x3] q m]:Con prog 241 [.agg [x0,x1,x2,x3]] (k+m<=1000000000) (.agg (xA (-(rmk p q).1,(rmk p q).2))):=⟨fun hk=>by
 refine q1 ⟨_,func241,rfl,rfl⟩ fun neg n neg2 n2 hz hz2 hn hn2=>?_
 subst hz;subst hz2;refine ah.fq func241 ?_;intros
 refine zg ?_;exact jG aj.wh rfl⟩
def aaS(p q r s:Int):Int×Int:=rmk ((rmk p q).1*(rmk r s).2+(rmk r s).1*(rmk p q).2) ((rmk p q).2*(rmk r s).2)
def ad7(p q r s:Int):Int×Int:=rmk ((rmk p q).1*(rmk r s).1) ((rmk p q).2*(rmk r s).2)
def adR(p q r s:Int):Int×Int:=rmk ((rmk p q).1*(rmk r s).2) ((rmk p q).2*(rmk r s).1)
instance atU[h:ZI [x0,x1] p k][h':ZI [x2,x3] q m][g:ZI [y0,y1] r k'][g':ZI [y2,y3] s m']:Con prog 29 [.agg [x0,x1,x2,x3],.agg [y0,y1,y2,y3]] (k+m+k'+m'<=10000000) (.agg (xA (aaS p q r s))):=⟨fun hk=>by
 refine q2 ⟨_,func29,rfl,rfl⟩ fun neg n neg2 n2 neg3 n3 neg4 n4 hz hz2 hz3 hz4 hn hn2 hn3 hn4=>?_
 subst hz;subst hz2;subst hz3;subst hz4;refine ah.fq func29 ?_;intros
 refine zg ?_;exact jG aj.wh rfl⟩
end
end
section
attribute [local irreducible] IntKind.wrap Go1 Reg WP aK aN bD aZ aJ aA aj ak aT Sat
attribute [local irreducible] zS
def az3(z:Int):0 < bG z↔0 < z:=by unfold bG;(repeat' split) <;> omega
def zH:AV0.imp (.agg [.c (.val (.bool false)),.c (.val (.slice none 0 0))]) (.agg (zN 0)):=fun E S w v h=>by
 obtain⟨vs,rfl,hall⟩:=h
 match vs,hall with
 |[a,b],⟨h1,h2,_⟩=>
  have h2':b= .slice none 0 0:=h2;subst h2';exact⟨[a,_],rfl,h1,bI.zero,trivial⟩
def wM(p q r s:Int):Int×Int:=aaS p q (-(rmk r s).1) (rmk r s).2
section
variable{x0 x1 x2 x3 y0 y1 y2 y3:Atom}{p q r s:Int}{k m k' m':Nat}
instance Bd.axK(p q r s:Int)(k m k' m':Nat)[Bd p k][Bd q m][Bd r k'][Bd s m']:Bd (aaS p q r s).1 (3*(k+m+k'+m')+12):=⟨by unfold aaS;exact Bd.mono (Bd.asa _ _ _ _).h zE⟩
instance Bd.axW(p q r s:Int)(k m k' m':Nat)[Bd p k][Bd q m][Bd r k'][Bd s m']:Bd (aaS p q r s).2 (3*(k+m+k'+m')+12):=⟨by unfold aaS;exact Bd.mono (Bd.asw _ _ _ _).h zE⟩
instance Bd.qsub1(p q r s:Int)(k m k' m':Nat)[Bd p k][Bd q m][Bd r k'][Bd s m']:Bd (wM p q r s).1 (6*(k+m+k'+m')+20):=⟨by unfold wM;exact Bd.mono (Bd.axK _ _ _ _ _ _ _ _).h zE⟩
instance Bd.qsub2(p q r s:Int)(k m k' m':Nat)[Bd p k][Bd q m][Bd r k'][Bd s m']:Bd (wM p q r s).2 (6*(k+m+k'+m')+20):=⟨by unfold wM;exact Bd.mono (Bd.axW _ _ _ _ _ _ _ _).h zE⟩
instance Bd.qmul1(p q r s:Int)(k m k' m':Nat)[Bd p k][Bd q m][Bd r k'][Bd s m']:Bd (ad7 p q r s).1 (3*(k+m+k'+m')+12):=⟨by unfold ad7;exact Bd.mono (Bd.asa _ _ _ _).h zE⟩
instance Bd.qmul2(p q r s:Int)(k m k' m':Nat)[Bd p k][Bd q m][Bd r k'][Bd s m']:Bd (ad7 p q r s).2 (3*(k+m+k'+m')+12):=⟨by unfold ad7;exact Bd.mono (Bd.asw _ _ _ _).h zE⟩
instance Bd.qquo1(p q r s:Int)(k m k' m':Nat)[Bd p k][Bd q m][Bd r k'][Bd s m']:Bd (adR p q r s).1 (3*(k+m+k'+m')+12):=⟨by unfold adR;exact Bd.mono (Bd.asa _ _ _ _).h zE⟩
instance Bd.qquo2(p q r s:Int)(k m k' m':Nat)[Bd p k][Bd q m][Bd r k'][Bd s m']:Bd (adR p q r s).2 (3*(k+m+k'+m')+12):=⟨by unfold adR;exact Bd.mono (Bd.asw _ _ _ _).h zE⟩
instance con_rSub[h:ZI [x0,x1] p k][h':ZI [x2,x3] q m][g:ZI [y0,y1] r k'][g':ZI [y2,y3] s m']:Con prog 420 [.agg [x0,x1,x2,x3],.agg [y0,y1,y2,y3]] (k+m+k'+m'<=1000000) (.agg (xA (wM p q r s))):=⟨fun hk=>by
 refine q2 ⟨_,func420,rfl,rfl⟩ fun neg n neg2 n2 neg3 n3 neg4 n4 hz hz2 hz3 hz4 hn hn2 hn3 hn4=>?_
 subst hz;subst hz2;subst hz3;subst hz4;refine ah.fq func420 ?_;intros
 refine zg ?_;exact jG aj.wh rfl⟩
instance arM[h:ZI [x0,x1] p k][h':ZI [x2,x3] q m][g:ZI [y0,y1] r k'][g':ZI [y2,y3] s m']:Con prog 334 [.agg [x0,x1,x2,x3],.agg [y0,y1,y2,y3]] (k+m+k'+m'<=10000000) (.agg (xA (ad7 p q r s))):=⟨fun hk=>by
 refine q2 ⟨_,func334,rfl,rfl⟩ fun neg n neg2 n2 neg3 n3 neg4 n4 hz hz2 hz3 hz4 hn hn2 hn3 hn4=>?_
 subst hz;subst hz2;subst hz3;subst hz4;refine ah.fq func334 ?_;intros
 refine zg ?_;exact jG aj.wh rfl⟩
instance ara[h:ZI [x0,x1] p k][h':ZI [x2,x3] q m][g:ZI [y0,y1] r k'][g':ZI [y2,y3] s m']:Con prog 322 [.agg [x0,x1,x2,x3],.agg [y0,y1,y2,y3]] (k+m+k'+m'<=10000000) (.tup [.agg (xA (adR p q r s)),.one (.c (.val (.bool (decide ((rmk p q).2*(rmk r s).1≠0)))))]):=⟨fun hk=>by
 refine q2 ⟨_,func322,rfl,rfl⟩ fun neg n neg2 n2 neg3 n3 neg4 n4 hz hz2 hz3 hz4 hn hn2 hn3 hn4=>?_
 subst hz;subst hz2;subst hz3;subst hz4;refine ah.fq func322 ?_;intros
 refine zg ?_;exact sO aj.wh (aj.tmp rfl) (z7 _) (z7 _)⟩
def apc(p q r s:Int):Int:=bG ((wM p q r s).1*(wM p q r s).2)
instance aut[h:ZI [x0,x1] p k][h':ZI [x2,x3] q m][g:ZI [y0,y1] r k'][g':ZI [y2,y3] s m']:Con prog 314 [.agg [x0,x1,x2,x3],.agg [y0,y1,y2,y3]] (k+m+k'+m'<=1000000) (.v (.int .i64 (apc p q r s))):=⟨fun hk=>by
 refine q2 ⟨_,func314,rfl,rfl⟩ fun neg n neg2 n2 neg3 n3 neg4 n4 hz hz2 hz3 hz4 hn hn2 hn3 hn4=>?_
 subst hz;subst hz2;subst hz3;subst hz4;refine ah.fq func314 ?_;intros
 refine zg ?_;exact dZ rfl⟩
def wV(p q:Int):Int:=if(rmk p q).2=1 then(rmk p q).1 else 0
instance xB[h:ZI [x0,x1] p k][h':ZI [x2,x3] q m]:Con prog 163 [.agg [x0,x1,x2,x3]] (k+m<=1000000) (.tup [.agg (zN (wV p q)),.one (.c (.val (.bool (decide ((rmk p q).2=1)))))]):=⟨fun hk=>by
 refine q1 ⟨_,func163,rfl,rfl⟩ fun neg n neg2 n2 hz hz2 hn hn2=>?_
 subst hz;subst hz2;refine ah.fq func163 ?_;intros
 by_cases h1:(rmk (sgn neg n) (sgn neg2 n2)).2=1
 ·refine zg ?_;exact sO aj.fK (aj.tmp rfl) (AV0.imp.of_eq (by unfold wV;rw[if_pos h1])) (AV0.imp.of_eq (cb (decide_eq_true h1).symm))
 ·refine zg ?_;have e:wV (sgn neg n) (sgn neg2 n2)=0:=by unfold wV;rw[if_neg h1]
  rw[e];exact sO aj.fK (aj.tmp rfl) zH (AV0.imp.of_eq (cb (decide_eq_false h1).symm))⟩
def rS(q:Int×Int):List UInt8:=if q.2=1 then zS q.1 else zS q.1++[47]++zS q.2
instance akm[h:ZI [x0,x1] p k][h':ZI [x2,x3] q m]:Con prog 72 [.agg [x0,x1,x2,x3]] (k+m<=1000000) (.v (str (rS (rmk p q)))):=⟨fun hk=>by
 refine q1 ⟨_,func72,rfl,rfl⟩ fun neg n neg2 n2 hz hz2 hn hn2=>?_
 subst hz;subst hz2;have l1:=au4 (z:=(rmk (sgn neg n) (sgn neg2 n2)).1);have l2:=au4 (z:=(rmk (sgn neg n) (sgn neg2 n2)).2);refine ah.fq func72 ?_;intros
 by_cases h1:(rmk (sgn neg n) (sgn neg2 n2)).2=1
 ·refine zg ?_;refine mX ?_;unfold rS;rw[if_pos h1]
 ·refine zg ?_;refine mX ?_;unfold rS;rw[if_neg h1]⟩
end
def isR(p q x y:Int):Prop:=(0 < q/\(Int.gcd p q:Int)=1)/\p*y=x*q
attribute [irreducible] isR
end
section
attribute [local irreducible] IntKind.wrap Go1 Reg WP aK aN bD aZ aJ aA aj ak aT Sat
def acE(hy:y≠0)(h:y ∣ x):gJ x y=x.tdiv y:=by
 have hz:qI x y=0:=by unfold qI;first|(rw[if_neg hy];exact Int.tmod_eq_zero_of_dvd h)|exact Int.tmod_eq_zero_of_dvd h
 unfold gJ sS;rw[hz];simp[hy]
def acs(hy:y≠0):0 < (rmk x y).2/\Int.gcd (rmk x y).1 (rmk x y).2=1/\(rmk x y).1*y=x*(rmk x y).2:=by
 have key:∀x y:Int,0 < y->0 < gJ y (Int.gcd x y)/\Int.gcd (gJ x (Int.gcd x y)) (gJ y (Int.gcd x y))=1/\gJ x (Int.gcd x y)*y=x*gJ y (Int.gcd x y):=by
  intro x y hy;have hg:(Int.gcd x y:Int)≠0:=by
   have:=Int.gcd_ne_zero_right (a:=x) (b:=y) zE
   omega
  have hgp:(0:Int) < Int.gcd x y:=zE
  obtain⟨a,ha⟩:=Int.gcd_dvd_left x y;obtain⟨b,hb⟩:=Int.gcd_dvd_right x y;have e1:gJ x (Int.gcd x y)=a:=by
   rw[acE hg (Int.gcd_dvd_left x y)]
   conv=>lhs;arg 1;rw[ha]
   exact Int.mul_tdiv_cancel_left _ hg
  have e2:gJ y (Int.gcd x y)=b:=by
   rw[acE hg (Int.gcd_dvd_right x y)]
   conv=>lhs;arg 1;rw[hb]
   exact Int.mul_tdiv_cancel_left _ hg
  rw[e1,e2];generalize hG:Int.gcd x y=g at*;have hbp:0 < b:=by
   rw[hb]at hy;exact Int.pos_of_mul_pos_right hy zE
  refine⟨hbp,?_,?_⟩
  ·have h1:Int.gcd ((g:Int)*a) ((g:Int)*b)=g*Int.gcd a b:=by rw[Int.gcd_mul_left];simp
   rw[<-ha,<-hb,hG]at h1;have hgn:0 < g:=zE
   exact Nat.eq_of_mul_eq_mul_left hgn zE
  ·rw[ha,hb];grind
 unfold rmk;rw[if_neg hy];by_cases h:y < 0
 ·rw[if_pos h];have:=key (-x) (-y) zE
  refine⟨this.1,this.2.1,?_⟩;have h3:=this.2.2
  grind
 ·rw[if_neg h];exact key x y zE
def ac9(x:Int):rmk x 0=(0,1):=by unfold rmk;rfl
abbrev qW(b:Bool)(l:List Nat)(c:Bool)(m:List Nat):List Atom:=[.c (.val (.bool b)),.c (.sat (dV l)),.c (.val (.bool c)),.c (.sat (dV m))]
end
section
attribute [local irreducible] wM ad7 adR apc aaS
def qv(p q:Int):Rat:=(p:Rat) / (q:Rat)
def c0(h:z≠0):(z:Rat)≠0:=fun e=>h (Rat.intCast_inj.1 e)
def aqE{a b:Int}(hb:b≠0)(hd:d≠0)(h:a*d=c*b):qv a b=qv c d:=by
 have h1:=c0 hb;have h2:=c0 hd;have h3:(a:Rat)*d=c*b:=by rw[<-Rat.intCast_mul,<-Rat.intCast_mul,h]
 unfold qv;grind
def oW(p q:Int):0 < (rmk p q).2:=by
 by_cases h:q=0
 ·rw[h,ac9];decide
 ·exact(acs h).1
def ab3(p q:Int):Int.gcd (rmk p q).1 (rmk p q).2=1:=by
 by_cases h:q=0
 ·rw[h,ac9];decide
 ·exact(acs h).2.1
def jc(p q:Int):qv (rmk p q).1 (rmk p q).2=qv p q:=by
 by_cases h:q=0
 ·rw[h,ac9];unfold qv;grind
 ·have hs:=acs (x:=p) h;exact aqE zE h hs.2.2
structure Rd(X:Int×Int)(v:Rat)(K:Nat):Prop where
 v:qv X.1 X.2=v
 d:0 < X.2
 g:Int.gcd X.1 X.2=1
 b1:Bd X.1 K
 b2:Bd X.2 K
def Rd.rmk{p q:Int}{k m K:Nat}{v:Rat}(h:Bd p k)(h':Bd q m)(hv:qv p q=v)(hK:k+m+1<=K):Rd (rmk p q) v K:=
 ⟨(jc p q).trans hv,oW p q,ab3 p q,⟨Bd.mono (Bd.asa p q k m).h hK⟩,⟨Bd.mono (Bd.asw p q k m).h hK⟩⟩
class Ra(l:List Atom)(v:outParam Rat)(K:outParam Nat):Prop where
 h:∃x0 x1 x2 x3 p q k m,l=[x0,x1,x2,x3]/\ZI [x0,x1] p k/\ZI [x2,x3] q m/\k<=K/\m<=K/\Bd p k/\Bd q m/\qv p q=v
theorem Ra.raw{b c:Bool}{l m:List Nat}(i1:BdN (nval WB l) l.length)(i2:BdN (nval WB m) m.length)(h1:l.length<=K)(h2:m.length<=K):Ra (qW b l c m) (qv (sgn b (nval WB l)) (sgn c (nval WB m))) K:=
 ⟨_,_,_,_,_,_,_,_,rfl,inferInstance,inferInstance,h1,h2,inferInstance,inferInstance,rfl⟩
section
variable{l l':List Atom}{v v':Rat}{K K':Nat}
def aso{a b:Int}:qv (a*d) (b*c)=qv a b / qv c d:=by
 unfold qv;rw[Rat.intCast_mul,Rat.intCast_mul];grind
def avd{a b:Int}:qv (a*c) (b*d)=qv a b*qv c d:=by
 unfold qv;rw[Rat.intCast_mul,Rat.intCast_mul];grind
def ar0{a b:Int}(hb:b≠0)(hd:d≠0):qv (a*d+c*b) (b*d)=qv a b+qv c d:=by
 have h1:=c0 hb;have h2:=c0 hd;unfold qv;rw[Rat.intCast_add,Rat.intCast_mul,Rat.intCast_mul,Rat.intCast_mul];grind
def auZ{a b:Int}:qv (-a) b= -qv a b:=by
 unfold qv;rw[Rat.intCast_neg];grind
def ai3(p q r s:Int):qv (aaS p q r s).1 (aaS p q r s).2=qv p q+qv r s:=by
 have h1:=oW p q;have h2:=oW r s;unfold aaS;rw[jc,ar0 zE zE,jc,jc]
def apP(p q r s:Int):qv (ad7 p q r s).1 (ad7 p q r s).2=qv p q*qv r s:=by
 unfold ad7;rw[jc,avd,jc,jc]
def arn(p q r s:Int):qv (adR p q r s).1 (adR p q r s).2=qv p q / qv r s:=by
 unfold adR;rw[jc,aso,jc,jc]
def atV(p q r s:Int):qv (wM p q r s).1 (wM p q r s).2=qv p q - qv r s:=by
 unfold wM;rw[ai3,auZ,jc];grind
def amA(p q r s:Int):∃x y,aaS p q r s=rmk x y:=⟨_,_,by unfold aaS;rfl⟩
def al0(p q r s:Int):∃x y,ad7 p q r s=rmk x y:=⟨_,_,by unfold ad7;rfl⟩
def alR(p q r s:Int):∃x y,adR p q r s=rmk x y:=⟨_,_,by unfold adR;rfl⟩
def mk_pos{X:Int×Int}(h:∃x y,X=rmk x y):0 < X.2/\Int.gcd X.1 X.2=1:=by
 obtain⟨x,y,rfl⟩:=h;exact⟨oW x y,ab3 x y⟩
def ama{a b:Int}:(bG (a*b)=0↔qv a b=0)/\(bG (a*b) < 0↔qv a b < 0):=by
 have key:∀a b:Int,0 < b->(a*b=0↔qv a b=0)/\(a*b < 0↔qv a b < 0):=by
  intro a b hb;have h1:(0:Rat) < b:=by rw[show (0:Rat)=((0:Int):Rat)from rfl];exact Rat.intCast_lt_intCast.2 hb
  have ea:(a:Rat)=qv a b*b:=by unfold qv;grind
  constructor
  ·rw[Int.mul_eq_zero];constructor
   ·rintro(h|h)
    ·unfold qv;rw[h];grind
    ·omega
   ·intro h;rw[h]at ea;left;exact Rat.intCast_inj.1 (by rw[ea];grind)
  ·have hneg:a*b < 0↔a < 0:=by
    constructor
    ·intro h;exact Decidable.byContradiction fun hn=>by
      have:=Int.mul_nonneg (show 0<=a by omega) (show 0<=b by omega)
      omega
    ·intro h;exact Int.mul_neg_of_neg_of_pos h hb
   have ha:a < 0↔(a:Rat) < 0:=by rw[show (0:Rat)=((0:Int):Rat)from rfl,Rat.intCast_lt_intCast]
   rw[hneg,ha,ea];generalize qv a b=v at*;generalize (b:Rat)=c at*;constructor
   ·intro h;exact Decidable.byContradiction fun hn=>by
     have:=Rat.mul_nonneg (show 0<=v by grind) (show 0<=c by grind)
     grind
   ·intro h;have:=Rat.mul_pos (show 0 < -v by grind) h1
    grind
 have hn:bG (a*b) < 0↔a*b < 0:=aj4 _;have hz:bG (a*b)=0↔a*b=0:=agy _;rw[hn,hz];by_cases hb:b=0
 ·subst hb;have:qv a 0=0:=by unfold qv;grind
  rw[this];simp
 ·by_cases hb0:0 < b
  ·exact key a b hb0
  ·have h:=key (-a) (-b) zE
   have e:qv (-a) (-b)=qv a b:=aqE zE hb (by grind)
   rw[e,show -a* -b=a*b by grind]at h
   exact h
def aqk{r:Int}:(apc p q r s=0↔qv p q=qv r s)/\(apc p q r s < 0↔qv p q < qv r s)/\(0 < apc p q r s↔qv r s < qv p q):=by
 have h:=ama (a:=(wM p q r s).1) (b:=(wM p q r s).2);rw[atV]at h;unfold apc;generalize bG ((wM p q r s).1*(wM p q r s).2)=z at*;have h1:z=0↔qv p q=qv r s:=by rw[h.1];constructor <;> intro <;> grind
 have h2:z < 0↔qv p q < qv r s:=by rw[h.2];constructor <;> intro <;> grind
 refine⟨h1,h2,?_⟩;have:0 < z↔¬z=0/\¬z < 0:=zE
 rw[this,h1,h2];constructor
 ·intro ⟨a,b⟩;grind
 ·intro a;constructor <;> grind
def eAdd(l l':List Atom)[a:Ra l v K][b:Ra l' v' K'](h:K+K'<=1000000):∃X,ah prog 29 [.agg l,.agg l'] (.agg (xA X))/\Rd X (v+v') (6*(K+K')+20):=by
 obtain⟨x0,x1,x2,x3,p,q,k,m,rfl,z1,z2,hk,hm,b1,b2,hv⟩:=a.h;obtain⟨y0,y1,y2,y3,r,s,k',m',rfl,z3,z4,hk',hm',b3,b4,hv'⟩:=b.h;exact⟨_,(atU (h:=z1) (h':=z2) (g:=z3) (g':=z4)).h zE,⟨by rw[ai3,hv,hv'],(mk_pos (amA ..)).1,(mk_pos (amA ..)).2,⟨Bd.mono (Bd.axK p q r s k m k' m').h zE⟩,⟨Bd.mono (Bd.axW p q r s k m k' m').h zE⟩⟩⟩
def eMul(l l':List Atom)[a:Ra l v K][b:Ra l' v' K'](h:K+K'<=1000000):∃X,ah prog 334 [.agg l,.agg l'] (.agg (xA X))/\Rd X (v*v') (6*(K+K')+20):=by
 obtain⟨x0,x1,x2,x3,p,q,k,m,rfl,z1,z2,hk,hm,b1,b2,hv⟩:=a.h;obtain⟨y0,y1,y2,y3,r,s,k',m',rfl,z3,z4,hk',hm',b3,b4,hv'⟩:=b.h;exact⟨_,(arM (h:=z1) (h':=z2) (g:=z3) (g':=z4)).h zE,⟨by rw[apP,hv,hv'],(mk_pos (al0 ..)).1,(mk_pos (al0 ..)).2,⟨Bd.mono (Bd.qmul1 p q r s k m k' m').h zE⟩,⟨Bd.mono (Bd.qmul2 p q r s k m k' m').h zE⟩⟩⟩
def eQuo(l l':List Atom)[a:Ra l v K][b:Ra l' v' K'](h:K+K'<=1000000):∃X ok,ah prog 322 [.agg l,.agg l'] (.tup [.agg (xA X),.one (.c (.val (.bool ok)))])/\Rd X (v / v') (6*(K+K')+20)/\(ok=true↔v'≠0):=by
 obtain⟨x0,x1,x2,x3,p,q,k,m,rfl,z1,z2,hk,hm,b1,b2,hv⟩:=a.h;obtain⟨y0,y1,y2,y3,r,s,k',m',rfl,z3,z4,hk',hm',b3,b4,hv'⟩:=b.h;refine⟨_,_,(ara (h:=z1) (h':=z2) (g:=z3) (g':=z4)).h zE,⟨by rw[arn,hv,hv'],(mk_pos (alR ..)).1,(mk_pos (alR ..)).2,⟨Bd.mono (Bd.qquo1 p q r s k m k' m').h zE⟩,⟨Bd.mono (Bd.qquo2 p q r s k m k' m').h zE⟩⟩,?_⟩
 have h1:=oW p q;have h2:=oW r s;rw[decide_eq_true_iff,<-hv',<-jc r s];have e:qv (rmk r s).1 (rmk r s).2=0↔(rmk r s).1=0:=by
  have:=(ama (a:=(rmk r s).1) (b:=(rmk r s).2)).1;rw[<-this,agy,Int.mul_eq_zero];omega
 rw[Ne,Ne,e,Int.mul_eq_zero];omega
def eCmp(l l':List Atom)[a:Ra l v K][b:Ra l' v' K'](h:K+K'<=400000):∃z:Int,ah prog 314 [.agg l,.agg l'] (.v (.int .i64 z))/\(z=0↔v=v')/\(z < 0↔v < v')/\(0 < z↔v' < v):=by
 obtain⟨x0,x1,x2,x3,p,q,k,m,rfl,z1,z2,hk,hm,b1,b2,hv⟩:=a.h;obtain⟨y0,y1,y2,y3,r,s,k',m',rfl,z3,z4,hk',hm',b3,b4,hv'⟩:=b.h;exact⟨_,(aut (h:=z1) (h':=z2) (g:=z3) (g':=z4)).h zE,by rw[<-hv,<-hv'];exact aqk⟩
def eNeg(l:List Atom)[a:Ra l v K](h:K<=400000):∃X,ah prog 241 [.agg l] (.agg (xA X))/\Rd X (-v) (2*K+1):=by
 obtain⟨x0,x1,x2,x3,p,q,k,m,rfl,z1,z2,hk,hm,b1,b2,hv⟩:=a.h;exact⟨_,(avb (h:=z1) (h':=z2)).h zE,⟨by show qv (-(rmk p q).1) (rmk p q).2=_;rw[auZ,jc,hv],oW p q,by show Int.gcd (-(rmk p q).1) _=1;rw[Int.neg_gcd];exact ab3 p q,⟨by show (-(rmk p q).1).natAbs < _;rw[Int.natAbs_neg];exact Bd.mono (Bd.asa p q k m).h zE⟩,⟨Bd.mono (Bd.asw p q k m).h zE⟩⟩⟩
end
end
section
attribute [local irreducible] IntKind.wrap Go1 Reg WP aK aN bD aZ aJ aA aj ak aT Sat
instance Bd.afQ(x y:Int)(k m:Nat)[hx:Bd x k][hy:Bd y m]:Bd (afQ x y) (k+k+1+m+1+1+1):=⟨by
 unfold Proofs.YtcamgbgfelmbaaaGreatDoor.afQ
 split
 ·exact(Bd.zfq (-x+ -x+ -y) (-y+ -y) _).h
 ·exact(Bd.zfq (x+x+y) (y+y) _).h⟩
attribute [local irreducible] afQ zfq
end
section
attribute [local irreducible] IntKind.wrap Go1 Reg WP aK aN bD aZ aJ aA aj ak aT Sat
attribute [local irreducible] qv
def qv_lt{n m e:Int}(hd:0 < d)(he:0 < e):(qv n d < qv m e↔n*e < m*d)/\(qv n d=qv m e↔n*e=m*d):=by
 have hd':(0:Rat) < d:=by rw[show (0:Rat)=((0:Int):Rat)from rfl];exact Rat.intCast_lt_intCast.2 hd
 have he':(0:Rat) < e:=by rw[show (0:Rat)=((0:Int):Rat)from rfl];exact Rat.intCast_lt_intCast.2 he
 have en:(n:Rat)=qv n d*d:=by unfold qv;grind
 have em:(m:Rat)=qv m e*e:=by unfold qv;grind
 have hde:=Rat.mul_pos hd' he';constructor
 ·rw[<-Rat.intCast_lt_intCast (a:=n*e),Rat.intCast_mul,Rat.intCast_mul,en,em];generalize qv n d=v at*;generalize qv m e=u at*;constructor
  ·intro h;have:=Rat.mul_pos (show 0 < u - v by grind) hde
   grind
  ·intro h;exact Decidable.byContradiction fun hn=>by
    have:=Rat.mul_nonneg (show 0<=v - u by grind) (show (0:Rat)<=(d:Rat)*e by grind)
    grind
 ·rw[<-Rat.intCast_inj (a:=n*e),Rat.intCast_mul,Rat.intCast_mul,en,em];generalize qv n d=v at*;generalize qv m e=u at*;constructor
  ·intro h;rw[h];grind
  ·intro h;have h0:(v - u)*((d:Rat)*e)=0:=by grind
   rcases Rat.mul_eq_zero.1 h0 with h1|h1
   ·grind
   ·rw[h1]at hde;grind
section
def Rd.uniq{r:Int}(h1:0 < q)(g1:Int.gcd p q=1)(h2:0 < s)(g2:Int.gcd r s=1)(hv:qv p q=qv r s):p=r/\q=s:=by
 have he:=(qv_lt (n:=p) (m:=r) h1 h2).2.1 hv;have d1:q ∣ s:=by
  have:q ∣ p*s:=⟨r,by rw[he,Int.mul_comm]⟩
  exact Int.natAbs_dvd_natAbs.1 (Nat.Coprime.dvd_of_dvd_mul_left (show Nat.gcd q.natAbs p.natAbs=1 by rw[Nat.gcd_comm];exact g1) (by rw[<-zve];exact Int.natAbs_dvd_natAbs.2 this))
 have d2:s ∣ q:=by
  have:s ∣ r*q:=⟨p,by rw[<-he,Int.mul_comm]⟩
  exact Int.natAbs_dvd_natAbs.1 (Nat.Coprime.dvd_of_dvd_mul_left (show Nat.gcd s.natAbs r.natAbs=1 by rw[Nat.gcd_comm];exact g2) (by rw[<-zve];exact Int.natAbs_dvd_natAbs.2 this))
 have e:q=s:=Int.dvd_antisymm zE zE d1 d2
 subst e;exact⟨Int.eq_of_mul_eq_mul_right zE he,rfl⟩
section
variable{x0 x1 x2 x3:Atom}{p q:Int}{k m:Nat}
end
end
end
section
abbrev qC(v:Rat):List CA:=[.val (.bool (decide (v.num < 0))),.sat (bI v.num.natAbs),.val (.bool (decide ((v.den:Int) < 0))),.sat (bI (v.den:Int).natAbs)]
abbrev qA(v:Rat):List Atom:=[.c (.val (.bool (decide (v.num < 0)))),.c (.sat (bI v.num.natAbs)),.c (.val (.bool (decide ((v.den:Int) < 0)))),.c (.sat (bI (v.den:Int).natAbs))]
def mW(v:Rat):(v.den:Int)≠0:=by have:=v.den_nz;omega
def jd(v:Rat):qv v.num v.den=v:=by
 unfold qv;rw[<-Rat.divInt_eq_div];exact Rat.num_divInt_den v
def auD(hq:q≠0)(h:qv p q=v):v.num*q=p*v.den:=by
 have h2:=jd v;have d1:=c0 hq;have d2:=c0 (mW v);unfold qv at h h2;apply Rat.intCast_inj.1
 rw[Rat.intCast_mul,Rat.intCast_mul];generalize ((v.den:Int):Rat)=d at*;generalize ((v.num:Int):Rat)=n at*;generalize (p:Rat)=a at*;generalize (q:Rat)=b at*;subst h2
 grind
def ajp(hq:q≠0)(h:qv p q=v):∃c:Int,q=c*v.den/\p=c*v.num:=by
 have hx:=auD hq h;have hc:Nat.Coprime v.num.natAbs v.den:=v.reduced;have hd:(v.den:Int) ∣ v.num*q:=⟨p,by rw[hx];exact Int.mul_comm _ _⟩
 have hd2:v.den ∣ q.natAbs:=by
  have h1:v.den ∣ (v.num*q).natAbs:=zxa v.den▸(Int.natAbs_dvd_natAbs.2 hd);rw[zve]at h1;exact hc.symm.dvd_of_dvd_mul_left h1
 obtain⟨c,hcq⟩:(v.den:Int) ∣ q:=Int.natAbs_dvd_natAbs.1 (by rw[zxa];exact hd2)
 refine⟨c,by rw[hcq];exact Int.mul_comm _ _,?_⟩
 rw[hcq]at hx;have h0:=mW v;have:(v.den:Int)*(v.num*c)=(v.den:Int)*p:=by grind
 have:=Int.eq_of_mul_eq_mul_left h0 this
 grind
structure RB(v:Rat)(K:Nat):Prop where
 n:v.num.natAbs < WB ^ K
 d:v.den < WB ^ K
def RB.of(hq:q≠0)(h:qv p q=v)(h1:p.natAbs < WB ^ K)(h2:q.natAbs < WB ^ K):RB v K:=by
 obtain⟨c,e1,e2⟩:=ajp hq h;have hc:1<=c.natAbs:=by
  rcases zye c.natAbs with h|h
  ·have:c=0:=zE
   subst this;rw[Int.zero_mul]at e1;exact absurd e1 hq
  ·exact h
 have a1:q.natAbs=c.natAbs*v.den:=by rw[e1,zve,zxa]
 have a2:p.natAbs=c.natAbs*v.num.natAbs:=by rw[e2,zve]
 have b1:=zx1 v.den hc;have b2:=zx1 v.num.natAbs hc;exact⟨zE,zE⟩
def ajR(K:Nat):1<=WB ^ K:=Nat.pow_pos aX
def fZ{a b:Nat}(h1:a < WB ^ K)(h2:b < WB ^ L):a*b < WB ^ (K+L):=by
 rw[zw5];have:=zxd (show a<=WB ^ K - 1 by omega) (show b<=WB ^ L - 1 by omega)
 have p1:=ajR K;have p2:=ajR L;refine zxb this ?_;have h3:(WB ^ K - 1)*(WB ^ L - 1)<=(WB ^ K - 1)*WB ^ L:=zx8 _ (Nat.sub_le _ _);have h4:(WB ^ K - 1)*WB ^ L < WB ^ K*WB ^ L:=(Nat.mul_lt_mul_right zE).2 zE
 omega
def afM(K:Nat):2*WB ^ K<=WB ^ (K+1):=by
 rw[zyf,zxj];exact zx8 _ (by rw[bf];decide)
def RB.add(h:RB u K)(k:RB v L):RB (u+v) (K+L+1):=by
 refine RB.of (p:=u.num*v.den+v.num*u.den) (q:=u.den*v.den) (Int.mul_ne_zero (mW u) (mW v)) ?_ ?_ ?_
 ·rw[ar0 (mW u) (mW v),jd,jd]
 ·have h1:(u.num*(v.den:Int)).natAbs < WB ^ (K+L):=by rw[zve,zxa];exact fZ h.n k.d
  have h2:(v.num*(u.den:Int)).natAbs < WB ^ (K+L):=by rw[zve,zxa,Nat.add_comm];exact fZ k.n h.d
  have h3:=afM (K+L);generalize u.num*(v.den:Int)=x at*;generalize v.num*(u.den:Int)=y at*;omega
 ·rw[zve,zxa,zxa];exact zqf (fZ h.d k.d) (zx2 aX zE)
def RB.mul(h:RB u K)(k:RB v L):RB (u*v) (K+L):=by
 refine RB.of (p:=u.num*v.num) (q:=u.den*v.den) (Int.mul_ne_zero (mW u) (mW v)) ?_ ?_ ?_
 ·rw[avd,jd,jd]
 ·rw[zve];exact fZ h.n k.n
 ·rw[zve,zxa,zxa];exact fZ h.d k.d
def RB.zero(hK:1<=K):RB 0 K:=by
 have h:WB ^ 1<=WB ^ K:=zx2 aX hK;rw[zxh]at h;have:=bf;exact⟨by show (0:Nat) < _;omega,by show (1:Nat) < _;omega⟩
def RB.div(h:RB u K)(k:RB v L)(hv:v≠0):RB (u / v) (K+L):=by
 have hn:v.num≠0:=fun e=>hv (Rat.num_eq_zero.1 e)
 refine RB.of (p:=u.num*v.den) (q:=u.den*v.num) (Int.mul_ne_zero (mW u) hn) ?_ ?_ ?_
 ·rw[aso,jd,jd]
 ·rw[zve,zxa];exact fZ h.n k.d
 ·rw[zve,zxa];exact fZ h.d k.n
theorem RB.ra(h:RB v K):Ra (qA v) v K:=
 ⟨_,_,_,_,v.num,(v.den:Int),K,K,rfl,(haveI:Bd v.num K:=⟨h.n⟩;inferInstance),(haveI:Bd (v.den:Int) K:=⟨by rw[zxa];exact h.d⟩;inferInstance),zq6 _,zq6 _,⟨h.n⟩,⟨by rw[zxa];exact h.d⟩,jd v⟩
def Rd.nf{X:Int×Int}(h:Rd X v K):X=(v.num,(v.den:Int)):=by
 obtain⟨p,q⟩:=X;have hq:q≠0:=by have:=h.d;dsimp only at this;omega
 obtain⟨c,e1,e2⟩:=ajp hq (show qv p q=v from h.v)
 have hg:Int.gcd p q=1:=h.g;have hc1:c.natAbs ∣ Int.gcd p q:=Nat.dvd_gcd (by rw[e2,zve];exact Nat.dvd_mul_right _ _) (by rw[e1,zve];exact Nat.dvd_mul_right _ _)
 rw[hg]at hc1;have hca:c.natAbs=1:=Nat.dvd_one.1 hc1;have hpos:0 < q:=h.d;have hden:0 < (v.den:Int):=by have:=v.den_nz;omega
 have hc:c=1:=by
  rcases Int.natAbs_eq_iff.1 hca with h|h
  ·exact h
  ·subst h;rw[e1]at hpos;simp at hpos;omega
 subst hc;rw[Int.one_mul]at e1 e2;rw[e1,e2]
section
variable{l l':List Atom}{v v':Rat}{K K':Nat}
instance au9[a:Ra l v K][b:Ra l' v' K']:Con prog 29 [.agg l,.agg l'] (K+K'<=1000000) (.agg (qA (v+v'))):=⟨fun h=>by
 obtain⟨X,c,r⟩:=eAdd l l' h;rw[r.nf]at c;exact c⟩
instance aif[a:Ra l v K][b:Ra l' v' K']:Con prog 334 [.agg l,.agg l'] (K+K'<=1000000) (.agg (qA (v*v'))):=⟨fun h=>by
 obtain⟨X,c,r⟩:=eMul l l' h;rw[r.nf]at c;exact c⟩
instance aiJ[a:Ra l v K][b:Ra l' v' K']:Con prog 322 [.agg l,.agg l'] (K+K'<=1000000) (.tup [.agg (qA (v / v')),.one (.c (.val (.bool (decide (v'≠0)))))]):=⟨fun h=>by
 obtain⟨X,ok,c,r,ho⟩:=eQuo l l' h;have e:ok=decide (v'≠0):=by
  cases ok with
  |true=>exact(decide_eq_true (ho.1 rfl)).symm
  |false=>exact(decide_eq_false fun hn=>by have:=ho.2 hn;cases this).symm
 rw[r.nf,e]at c;exact c⟩
end
end
section
attribute [local irreducible] IntKind.wrap Go1 Reg WP aK aN bD aZ aJ aA aj ak aT Sat
instance a0z:Con prog 68 [] True (.agg (qA 0)):=⟨fun _=>by
 refine ah.fq func68 ?_;intros
 refine zg ?_;exact jG aj.wh rfl⟩
def tkL(r s:List Rat)(f:Rat)(k:Nat):List Rat:=(List.zipWith (fun a b=>a - f*b) (r.take k) (s.take k))++r.drop k
def ku(c:Nat)(val:Nat->Nat->Rat)(i:Nat):List Rat:=(List.range i).flatMap fun i=>(List.range c).map (val i)
def apm{c:Nat}{val:Nat->Nat->Rat}:ku c val 0=[]:=rfl
def aam{c i:Nat}{val:Nat->Nat->Rat}:ku c val (i+1)=ku c val i++(List.range c).map (val i):=by
 unfold ku;rw[List.range_succ,zvc];simp
def oC{c:Nat}{val:Nat->Nat->Rat}:∀i,(ku c val i).length=i*c
 |0=>by simp[apm]
 |i+1=>by rw[aam,zqi,oC i];simp[zv8]
def aec(val:Nat->Nat->Rat)(i k:Nat):List Rat:=(List.range k).map (val i)
def apI{val:Nat->Nat->Rat}{i:Nat}:aec val i (k+1)=aec val i k++[val i k]:=by
 unfold aec;rw[List.range_succ,List.map_append];rfl
abbrev Q4:=Bool×Rep×Bool×Rep
abbrev q4A(q:Q4):List Atom:=[.c (.val (.bool q.1)),.c (.sat q.2.1),.c (.val (.bool q.2.2.1)),.c (.sat q.2.2.2)]
abbrev ahB(r c:Nat)(l:List Rat):List Atom:=[.c (.val (.int .i64 (r:Int))),.c (.val (.int .i64 (c:Int))),.c (.sat (aD 4 qC l))]
def zw(r c:Nat)(x:CA)(L:Nat->Nat->Q4)(val:Nat->Nat->Rat)(K:Nat)(hr:r<=100)(hc:c<=100)(hK:K+1<=1000000)
  (hx:∀i k,i < r->k < c->FnV prog x [.v (.int .i64 (i:Int)),.v (.int .i64 (k:Int))] (.agg (q4A (L i k)))) (hL:∀i k,i < r->k < c->Ra (q4A (L i k)) (val i k) K) (hx1:x.dN=true):
  ah prog 41 [.v (.int .i64 (r:Int)),.v (.int .i64 (c:Int)),.it (.one (.c x))] (.agg (ahB r c (ku c val r))):=by
 have iz:Ra (qA 0) 0 1:=(RB.zero (zq6 1)).ra;refine ah.fq func41 ?_;intros
 refine zg ?_;refine W.loop (fun i=>i<=r) (fun i=>[(1,.v (.int .i64 (c:Int))),(2,.it (.one (.c x))),(6,.ptr 6 0),(7,.ptr 7 0),(13,.v (.int .i64 (r:Int))),(14,.v (.int .i64 (i:Int)))]) (fun i=>[(6,.box 49 [.c (.val (.int .i64 0)),.c (.val (.int .i64 0)),.c (.val (.slice none 0 0))]),(7,.box 49 [.c (.val (.int .i64 (r:Int))),.c (.val (.int .i64 (c:Int))),.own 100]),(100,.row 54 4 (i*c) ((ku c val i).flatMap qC))]) (fun i=>r - i) 0 (zq8 _) (fun i hi=>?_)
  (by
   refine St.aS [(100,none)] z6 ?_ ?_ rfl
   ·exact yd
   ·exact⟨ay.same rfl rfl,ay.jE rfl rfl ⟨aB.same rfl,aB.same rfl,aB.nil rfl,trivial⟩,by rw[zw3];exact ay.dw rfl,trivial⟩)
 by_cases h:i < r
 ·refine zg ?_;refine W.loop (fun k=>k<=c) (fun k=>[(1,.v (.int .i64 (c:Int))),(2,.it (.one (.c x))),(6,.ptr 6 0),(7,.ptr 7 0),(8,.v (.int .i64 (i:Int))),(13,.v (.int .i64 (r:Int))),(14,.v (.int .i64 (i:Int))),(17,.v (.int .i64 (c:Int))),(18,.v (.int .i64 (k:Int)))]) (fun k=>[(6,.box 49 [.c (.val (.int .i64 0)),.c (.val (.int .i64 0)),.c (.val (.slice none 0 0))]),(7,.box 49 [.c (.val (.int .i64 (r:Int))),.c (.val (.int .i64 (c:Int))),.own 100]),(100,.row 54 4 (i*c+k) ((ku c val i++aec val i k).flatMap qC))]) (fun k=>c - k) 0 (zq8 _) (fun k hk=>?_)
   (by
    have e:Ent.row 54 4 (i*c) ((ku c val i).flatMap qC)=Ent.row 54 4 (i*c+0) ((ku c val i++aec val i 0).flatMap qC):=by simp[aec]
    refine St.aS [] z6 ?_ ?_ rfl
    ·exact yd
    ·exact⟨ay.same rfl rfl,ay.same rfl rfl,ay.eq rfl e rfl,trivial⟩)
  by_cases h2:k < c
  ·have hf:=hx i k h h2;have ir:=hL i k h h2;have hlen:i*c+k<=20000:=by
    have:=zxd (show i<=100 by omega) hc
    omega
   refine zg ?_;refine W.next (k+1) h2 zE (by
    have e2:(ku c val i++aec val i k).flatMap qC++qC (val i k+0)=(ku c val i++aec val i (k+1)).flatMap qC:=by
     rw[Rat.add_zero,apI,<-zqj,zvc (xs:=ku c val i++aec val i k)];simp
    refine St.aS [(100,some 30)] z6 ?_ ?_ rfl
    ·exact yd
    ·exact⟨ay.same rfl rfl,ay.jE rfl rfl ⟨aB.same rfl,aB.same rfl,aB.own rfl,trivial⟩,ay.row rfl rfl zE e2,trivial⟩)
  ·obtain rfl:k=c:=zE
   refine zg ?_;refine W.next (i+1) h zE (by
    have e2:Ent.row 54 4 (i*k+k) ((ku k val i++aec val i k).flatMap qC)=Ent.row 54 4 ((i+1)*k) ((ku k val (i+1)).flatMap qC):=by rw[zv8,aam];rfl
    refine St.aS [] z6 ?_ ?_ rfl
    ·exact yd
    ·exact⟨ay.same rfl rfl,ay.same rfl rfl,ay.eq rfl e2 rfl,trivial⟩)
 ·obtain rfl:i=r:=zE
  refine zg ?_;have hm:ahB i c (ku c val i)=[.c (.val (.int .i64 (i:Int))),.c (.val (.int .i64 (c:Int))),.c (.sat (aP 4 (i*c) ((ku c val i).flatMap qC)))]:=by
   show [_,_,Atom.c (.sat (aP 4 (ku c val i).length _))]=_;rw[oC]
  rw[hm];refine aJ.frz 100 ?_;exact jG aj.aW rfl
abbrev q4C(q:Q4):List CA:=[.val (.bool q.1),.sat q.2.1,.val (.bool q.2.2.1),.sat q.2.2.2]
instance:dY q4C 4:=⟨fun _=>rfl⟩
abbrev qp(r c:Nat)(l:List Q4):List Atom:=[.c (.val (.int .i64 (r:Int))),.c (.val (.int .i64 (c:Int))),.c (.sat (aD 4 q4C l))]
structure MV(l:List Q4)(vs:List Rat)(K:Nat):Prop where
 len:l.length=vs.length
 ra:∀(i:Nat) q v,l[i]? =some q->vs[i]? =some v->Ra (q4A q) v K
instance ac6(r c:Int){n:Nat}{ag:List CA}:Con prog 28 [.agg [.c (.val (.int .i64 r)),.c (.val (.int .i64 c)),.c (.sat (aP 4 n ag))]] True (.v (.bool (decide (0<=r/\r<=64/\0<=c/\c<=64/\(n:Int)=r*c)))):=⟨fun _=>by
 refine ah.fq func28 ?_;intros
 by_cases h1:r≥0
 ·by_cases h2:r<=64
  ·by_cases h3:c≥0
   ·by_cases h4:c<=64
    ·have hp:0<=r*c:=Int.mul_nonneg h1 h3;have hp2:r*c<=64*64:=Int.mul_le_mul h2 h4 h3 zc
     refine zg ?_;refine aU ?_;rw[decide_eq_decide];exact⟨fun h=>⟨h1,h2,h3,h4,h⟩,fun h=>h.2.2.2.2⟩
    ·refine zg ?_;refine aU ?_;exact(decide_eq_false fun h=>h4 h.2.2.2.1).symm
   ·refine zg ?_;refine aU ?_;exact(decide_eq_false fun h=>h3 h.2.2.1).symm
  ·refine zg ?_;refine aU ?_;exact(decide_eq_false fun h=>h2 h.2.1).symm
 ·refine zg ?_;refine aU ?_;exact(decide_eq_false fun h=>h1 h.1).symm⟩
def aby{r c i:Nat}{l:List Q4}{q:Q4}(hq:l[i*c+k]? =some q)(hi:i<=100)(hc:c<=100)(hk:k<=100):
  ah prog 310 [.agg (qp r c l),.v (.int .i64 (i:Int)),.v (.int .i64 (k:Int))] (.agg (q4A q)):=by
 have hb:=zxd hi hc;have hlt:i*c+k < l.length:=by
  rcases zyd (i*c+k) l.length with h|h
  ·exact h
  ·rw[zqe h]at hq;cases hq
 refine ah.fq func310 ?_;intros
 refine zg ?_;exact jG aj.wh rfl
def piC(n:Nat):List CA:=[.val (.int .i64 (n:Int))]
abbrev PivE(ps:List Nat):Ent:= .row 3 1 ps.length (ps.flatMap piC)
abbrev aaW(r c:Nat)(x:Rep):List Atom:=[.c (.val (.int .i64 (r:Int))),.c (.val (.int .i64 (c:Int))),.c (.sat x)]
def fi{α:Type}(p:α->Bool):List α->Nat->Int
 |[],_=> -1
 |a::l,k=>if p a then(k:Int)else fi p l (k+1)
def vH{α:Type}{p:α->Bool}{l:List α}{a:α}(h:l[k]? =some a):fi p (l.drop k) k=if p a then(k:Int)else fi p (l.drop (k+1)) (k+1):=by
 have hk:k < l.length:=by
  rcases zyd k l.length with h2|h2
  ·exact h2
  ·rw[zqe h2]at h;cases h
 rw[zy4 hk];rw[zyh hk]at h
 rw[zy7 h];rfl
def nz(col:Nat)(r:List Rat):Bool:=decide (r.getD col 0≠0)
def mlL(s:List Rat)(f:Rat)(k:Nat):List Rat:=(s.take k).map (· *f)++s.drop k
def asf(M:List (List Rat))(top col:Nat):Int:=fi (nz col) (M.drop top) 0
def sw{α:Type}(l:List α)(i j:Nat):List α:=match l[i]?,l[j]? with|some a,some b=>(l.set i b).set j a|_,_=>l
def axH(M:List (List Rat))(top i col:Nat):List Rat:=let s:=(sw M top (top+i)).getD top [];mlL s (1 / s.getD col 0) s.length
def colR(by_:List Rat)(col:Nat)(r:List Rat):List Rat:=tkL r by_ (r.getD col 0) r.length
def colM(M:List (List Rat))(top col:Nat):List (List Rat):=if asf M top col < 0 then M else
 ((sw M top (top+(asf M top col).toNat)).map (colR (axH M top (asf M top col).toNat col) col)).set top (axH M top (asf M top col).toNat col)
def colP(M:List (List Rat))(ps:List Nat)(col:Nat):List Nat:=if asf M ps.length col < 0 then ps else ps++[col]
def agS{α:Type}{p:α->Bool}:∀(l:List α) (k:Nat),¬fi p l k < 0->∃i a,fi p l k=((k+i:Nat):Int)/\l[i]? =some a/\p a=true
 |[],k,h=>absurd (show (-1:Int) < 0 by decide) h
 |a::l,k,h=>by
  unfold fi at h ⊢;cases hp:p a with
  |true=>exact⟨0,a,by simp,rfl,hp⟩
  |false=>
   rw[hp]at h;obtain⟨i,b,h1,h2,h3⟩:=agS l (k+1) h;exact⟨i+1,b,by rw[if_neg zc,h1];congr 1;omega,h2,h3⟩
def aqd(h:js.Nodup){i a b:Nat}(hi:js[i]? =some a)(hk:js[k]? =some b)(hne:i≠k):a≠b:=by
 rintro rfl;have hil:i < js.length:=by
  rcases zyd i js.length with h|h
  ·exact h
  ·rw[zqe h]at hi;cases hi
 exact hne ((List.getElem?_inj hil h).1 (hi.trans hk.symm))
def ah7{α β:Type}(g:α->β)(l:List α)(i:Nat)(a:α):(l.map g).set i (g a)=(l.set i a).map g:=by rw[List.map_set]
def ayD{α β:Type}(g:α->β){l:List α}{i j:Nat}{a b:α}(ha:l[i]? =some a)(hb:l[j]? =some b):sw (l.map g) i j=((l.set i b).set j a).map g:=by
 unfold sw;rw[zqa,zqa,ha,hb]
 show ((l.map g).set i (g b)).set j (g a)=_;rw[ah7,ah7]
def ar2{t u ja jb:Nat}(hnd:js.Nodup)(ha:js[t]? =some ja)(hb:js[u]? =some jb):((js.set t jb).set u ja).Nodup:=by
 have htl:t < js.length:=by
  rcases zyd t js.length with h|h
  ·exact h
  ·rw[zqe h]at ha;cases ha
 have hul:u < js.length:=by
  rcases zyd u js.length with h|h
  ·exact h
  ·rw[zqe h]at hb;cases hb
 show List.Pairwise (· ≠ ·) _;rw[List.pairwise_iff_getElem];intro x y hx hy hxy e0;have e:=(zyh hx).trans ((congrArg some e0).trans (zyh hy).symm)
 rw[zvf,zvf]at hx hy;have key:∀z,z < js.length->((js.set t jb).set u ja)[z]? =js[if z=u then t else if z=t then u else z]? :=by
  intro z hz;rw[zv2,zv2]
  by_cases h1:u=z
  ·rw[if_pos h1,if_pos h1.symm,if_pos (by rw[zvf];exact hul),ha]
  ·have h1':¬z=u:=fun e=>h1 e.symm
   rw[if_neg h1,if_neg h1'];by_cases h2:t=z
   ·rw[if_pos h2,if_pos h2.symm,if_pos htl,hb]
   ·have h2':¬z=t:=fun e=>h2 e.symm
    rw[if_neg h2,if_neg h2']
 rw[key x zE,key y zE]at e
 have hz:(if x=u then t else if x=t then u else x) < js.length:=by
  split
  ·exact htl
  ·split
   ·exact hul
   ·omega
 have:=(List.getElem?_inj hz hnd).1 e
 revert this
 repeat' split
 all_goals omega
def redS:Nat->Nat->List (List Rat)->List Nat->List (List Rat)×List Nat
 |0,_,M,ps=>(M,ps)
 |n+1,col,M,ps=>if ps.length < M.length then redS n (col+1) (colM M ps.length col) (colP M ps col)else(M,ps)
def kb(K:Nat):Nat->Nat
 |0=>K
 |n+1=>kb (4*K+2) n
def azr{α:Type}{l:List α}{i j:Nat}{x:α}(h:x∈sw l i j):x∈l:=by
 unfold sw at h
 split at h
 ·rename_i a b ha hb;rcases List.mem_or_eq_of_mem_set h with h|h
  ·rcases List.mem_or_eq_of_mem_set h with h|h
   ·exact h
   ·rw[h];exact zq4 hb
  ·rw[h];exact zq4 ha
 ·exact h
def apN{α:Type}{l:List α}{i j:Nat}:(sw l i j).length=l.length:=by
 unfold sw
 split
 ·rw[zvf,zvf]
 ·rfl
def adP{α:Type}{l:List α}{i:Nat}{d:α}(h:i < l.length):l.getD i d∈l:=by
 rw[zx7,zyh h];exact List.getElem_mem h
structure RdS where
 col:Nat
 M:List (List Rat)
 ps:List Nat
end
section
def weakArgs{P:Program}{f:FuncId}{ao args':List AV}{r:AV}(h:ah P f args' r)(hi:∀E S w vs,aM (AV.has E S w) ao vs->aM (AV.has E S w) args' vs):ah P f ao r:=
 ⟨h.1,fun E S w vs hl hg hv a b c=>h.2 E S w vs hl hg (hi E S w vs hv) a b c⟩
attribute [local irreducible] IntKind.wrap Go1 Reg WP aK aN bD aZ aJ aA aj ak aT Sat
abbrev q4v(v:Rat):Q4:=(decide (v.num < 0),bI v.num.natAbs,decide ((v.den:Int) < 0),bI (v.den:Int).natAbs)
def ag2{α:Type}{enc:α->List CA}{size:Nat}:(aD size enc ([]:List α)).has S w (.slice none 0 0):=
 bQ.2 ⟨none,0,rfl,zq6 _,zq8 _,fun _=>rfl,by simp,fun i c h=>by simp at h⟩
end
end Go.Proofs.YtcamgbgfelmbaaaGreatDoor
namespace LA
def sm:Nat->(Nat->Rat)->Rat
 |0,_=>0
 |n+1,f=>sm n f+f n
def Sp(n W:Nat)(m:Nat->Nat->Rat)(v:Nat->Rat):Prop:=∃c:Nat->Rat,∀k,k < W->v k=sm n (fun r=>c r*m r k)
structure Eqv(n n' W:Nat)(m m':Nat->Nat->Rat):Prop where
 fwd:∀r,r < n'->Sp n W m (m' r)
 back:∀r,r < n->Sp n' W m' (m r)
structure Rref(n w:Nat)(m:Nat->Nat->Rat)(ps:List Nat):Prop where
 len:ps.length<=n
 inc:ps.Pairwise (· < ·)
 lt:∀p∈ps,p < w
 one:∀i p,ps[i]? =some p->∀r,r < n->m r p=if r=i then 1 else 0
 low:∀i p,ps[i]? =some p->∀k,k < p->m i k=0
 zero:∀r,ps.length<=r->r < n->∀k,k < w->m r k=0
end LA
namespace Go.Proofs.YtcamgbgfelmbaaaGreatDoor
variable{y z:Int}{ag:List SX.CA}{zs:List Int}{vs:List Rat}{K L c k:Nat}{val:Nat->Nat->Int}
section
open LA
def mf(M:List (List Rat))(r k:Nat):Rat:=(M.getD r []).getD k 0
def aio{α:Type}{l:List α}{i r:Nat}{a d:α}(hr:r < l.length):(l.set i a).getD r d=if r=i then a else l.getD r d:=by
 rw[zx7,zx7,zv2]
 by_cases h:i=r
 ·subst h;rw[if_pos rfl,if_pos hr,if_pos rfl];rfl
 ·rw[if_neg h,if_neg (fun e=>h e.symm)]
def anb{α:Type}{l:List α}{i j r:Nat}{d:α}(hi:i < l.length)(hj:j < l.length)(hr:r < l.length):(sw l i j).getD r d=if r=j then l.getD i d else if r=i then l.getD j d else l.getD r d:=by
 unfold sw;rw[zyh hi,zyh hj]
 dsimp only
 have e1:l[i]=l.getD i d:=by rw[zx7,zyh hi];rfl
 have e2:l[j]=l.getD j d:=by rw[zx7,zyh hj];rfl
 rw[e1,e2,aio (by rw[zvf];exact hr),aio hr]
def agZ{α:Type}{p:α->Bool}:∀{l:List α} {k:Nat},fi p l k < 0->∀a∈l,p a=false
 |[],k,_,a,h=>by cases h
 |b::l,k,h,a,ha=>by
  unfold fi at h;cases hp:p b with
  |true=>rw[hp]at h;simp at h;omega
  |false=>
   rw[hp]at h;rcases zy3.1 ha with rfl|ha
   ·exact hp
   ·exact agZ (k:=k+1) (by simpa using h) a ha
structure ColS(n W:Nat)(m m':Nat->Nat->Rat)(top i col:Nat):Prop where
 hi:top<=i/\i < n
 ne:m i col≠0
 at_:∀r,r < n->∀k,k < W->m' r k=if r=top then m i k / m i col else(if r=i then m top k else m r k) - (if r=i then m top col else m r col)*(m i k / m i col)
section
section
variable{r c d:Nat}{va vb:Nat->Nat->Rat}
end
end
end
open Go.RowKit QM SX
attribute [local irreducible] IntKind.wrap Go1 Reg WP aK aN bD aZ aJ aA aj ak aT Sat
section
open Go.RowKit QM SX
attribute [local irreducible] qv
def Ra.rb{l:List Atom}{v:Rat}(h:Ra l v K)(hK:1<=K):RB v K:=by
 obtain⟨x0,x1,x2,x3,p,q,k,m,_,_,_,h1,h2,h3,h4,h5⟩:=h.h;by_cases hq:q=0
 ·subst hq;have:v=0:=by rw[<-h5];unfold qv;grind
  rw[this];exact RB.zero hK
 ·exact RB.of hq h5 (zqf h3.h (zx2 aX h1)) (zqf h4.h (zx2 aX h2))
def vat(vs:List Rat)(c i k:Nat):Rat:=vs.getD (i*c+k) 0
def rW{r i:Nat}(hi:i < r)(hk:k < c):i*c+k < r*c:=by
 have:=zx1 c (show i+1<=r from hi)
 rw[zv8]at this;omega
def apX{r i:Nat}(hl:vs.length=r*c)(hi:i < r)(hk:k < c):vs[i*c+k]? =some (vat vs c i k):=by
 have h:=rW hi hk;unfold vat;rw[zx7,zyh zE];rfl
def MV.rb{l:List Q4}{vs:List Rat}{K:Nat}(h:MV l vs K)(hK:1<=K):∀v∈vs,RB v K:=by
 intro v hv;obtain⟨i,hi⟩:=List.mem_iff_getElem?.1 hv;have hlt:i < vs.length:=by
  rcases zyd i vs.length with h|h
  ·exact h
  ·rw[zqe h]at hi;cases hi
 exact Ra.rb (h.ra i _ v (zyh (show i < l.length by rw[h.len];exact hlt)) hi) hK
def akJ(h:∀v∈vs,RB v K)(hK:1<=K)(c i k:Nat):RB (vat vs c i k) K:=by
 unfold vat;rw[zx7]
 cases e:vs[i*c+k]? with
 |none=>exact RB.zero hK
 |some v=>exact h v (zq4 e)
def agj{c:Nat}{val:Nat->Nat->Rat}{k:Nat}(hk:k < c):∀{r i:Nat},i < r->(ku c val r)[i*c+k]? =some (val i k)
 |0,i,h=>absurd h (zvj _)
 |r+1,i,h=>by
  rw[aam];by_cases hi:i < r
  ·rw[zyj (by rw[oC];exact rW hi hk)]
   exact agj hk hi
  ·obtain rfl:i=r:=zE
   rw[zv6 (by rw[oC];omega),oC,Nat.add_sub_cancel_left,zqa,zvb hk];rfl
def MV.made(h:∀v∈vs,RB v K):MV (vs.map q4v) vs K:=by
 refine⟨zq5 _,fun i q v hq hv=>?_⟩
 rw[zqa,hv]at hq
 cases hq;exact(h v (zq4 hv)).ra
def nT(r c:Nat)(l:List Rat):ahB r c l=qp r c (l.map q4v):=by
 have e:aD 4 qC l=aD 4 q4C (l.map q4v):=by
  show aP 4 l.length (l.flatMap qC)=aP 4 (l.map q4v).length ((l.map q4v).flatMap q4C);rw[zq5,List.flatMap_map]
 unfold ahB qp;rw[e]
def zm{r:Nat}{n:Nat}(hl:n=r*c)(hr:r<=64)(hc:c<=64):ah prog 28 [.agg [.c (.val (.int .i64 (r:Int))),.c (.val (.int .i64 (c:Int))),.c (.sat (aP 4 n ag))]] (.v (.bool true)):=by
 have h:=(ac6 (r:Int) (c:Int) (n:=n) (ag:=ag)).h trivial;rw[decide_eq_true (show 0<=(r:Int)/\(r:Int)<=64/\0<=(c:Int)/\(c:Int)<=64/\(n:Int)=(r:Int)*(c:Int)from ⟨zE,zE,zE,zE,by rw[hl];simp⟩)]at h
 exact h
abbrev mat0:List Atom:=[.c (.val (.int .i64 0)),.c (.val (.int .i64 0)),.c (.val (.slice none 0 0))]
abbrev eNo(z:Int):AV0:= .one (.c (.val (.int .i64 z)))
def gX(r c:Int)(n:Nat):Prop:=0<=r/\r<=64/\0<=c/\c<=64/\(n:Int)=r*c
end
section
open Go.RowKit QM SX
def alM{f:FuncId}{E:Env}{S:Nat->Prop}{w:World}{v:Value}(h:(AV.it (.one (.clo f []))).has E S w v):(AV.it (.one (.c (.sat (jR f [] []))))).has E S w v:=
 ⟨[],[],h,trivial,trivial⟩
end
section
open Go.RowKit QM SX
attribute [local irreducible] qv
abbrev ko:=Bool×List Nat×Bool×List Nat
abbrev rq(x:ko):Q4:=(x.1,dV x.2.1,x.2.2.1,dV x.2.2.2)
def rqv(x:ko):Rat:=qv (sgn x.1 (nval WB x.2.1)) (sgn x.2.2.1 (nval WB x.2.2.2))
def RSm(l:List ko):Prop:=∀x∈l,Sm WB x.2.1/\Sm WB x.2.2.2
def RLen(l:List ko)(K:Nat):Prop:=∀x∈l,x.2.1.length<=K/\x.2.2.2.length<=K
def MV.raw{l:List ko}{K:Nat}(hs:RSm l)(hl:RLen l K):MV (l.map rq) (l.map rqv) K:=by
 refine⟨by rw[zq5,zq5],fun i q v hq hv=>?_⟩
 rw[zqa]at hq hv
 cases hx:l[i]? with
 |none=>rw[hx]at hq;cases hq
 |some x=>
  rw[hx]at hq hv;cases hq;cases hv;have h1:=hs x (zq4 hx);have h2:=hl x (zq4 hx);exact Ra.raw ⟨afb h1.1 (zq6 _)⟩ ⟨afb h1.2 (zq6 _)⟩ h2.1 h2.2
end
section
open Go.RowKit QM SX LA
section
variable{l l':List Atom}{v:Rat}{K K':Nat}
end
def anC:ah prog 8 [.v (.int .i64 1)] (.agg (zN 1)):=pq.h ⟨zc,zc⟩
def oL{α:Type}{l:List α}{i:Nat}{a:α}(h:l[i]? =some a):i < l.length:=by
 rcases zyd i l.length with h2|h2
 ·exact h2
 ·rw[zqe h2]at h;cases h
end
section
open Go.RowKit QM SX LA
attribute [local irreducible] qv
abbrev Z2:=Bool×Rep
abbrev z2A(q:Z2):List Atom:=[.c (.val (.bool q.1)),.c (.sat q.2)]
abbrev z2C(q:Z2):List CA:=[.val (.bool q.1),.sat q.2]
instance:dY z2C 2:=⟨fun _=>rfl⟩
abbrev zC(z:Int):List CA:=[.val (.bool (decide (z < 0))),.sat (bI z.natAbs)]
instance:dY zC 2:=⟨fun _=>rfl⟩
abbrev z2v(z:Int):Z2:=(decide (z < 0),bI z.natAbs)
structure ZQ(q:Z2)(z:Int)(K:Nat):Prop where
 h:∃n k,z=sgn q.1 n/\NI (.sat q.2) n k/\k<=K
 b:z.natAbs < WB ^ K
theorem NI.le{a:CA}{n:Nat}(x:NI a n k)(hK:k<=K):NI a n K:=⟨fun S w v h=>by
 obtain⟨l,h1,h2,h3⟩:=yM.1 (x.p S w v h);exact yM.2 ⟨l,h1,zxf h2 hK,h3⟩⟩
theorem ZQ.zi{q:Z2}(h:ZQ q z K):ZI (z2A q) z K:=by
 obtain⟨n,k,h1,h2,h3⟩:=h.h;exact h1▸ZI.mk' (neg:=q.1) (h2.le h3)
def air(z:Int):sgn (decide (z < 0)) z.natAbs=z:=by
 unfold sgn;by_cases h:z < 0
 ·rw[decide_eq_true h];simp;omega
 ·rw[decide_eq_false h];simp;omega
def ZQ.made(h:z.natAbs < WB ^ K):ZQ (z2v z) z K:=
 ⟨⟨z.natAbs,K,(air z).symm,NI.aaV h,zq6 _⟩,h⟩
def ZQ.raw{b:Bool}{l:List Nat}{K:Nat}(hs:Sm WB l)(hl:l.length<=K):ZQ (b,dV l) (sgn b (nval WB l)) K:=
 ⟨⟨_,_,rfl,NI.raw l,hl⟩,by
  have h1:(sgn b (nval WB l)).natAbs=nval WB l:=by unfold sgn;split <;> omega
  rw[h1];exact zqf (afb hs (zq6 _)) (zx2 aX hl)⟩
def ZQ.mono{q:Z2}(h:ZQ q z K)(hK:K<=L):ZQ q z L:=by
 obtain⟨n,k,h1,h2,h3⟩:=h.h;exact⟨⟨n,k,h1,h2,zE⟩,zqf h.b (zx2 aX hK)⟩
theorem ZQ.ra{q d:Z2}(h:ZQ q z K)(k:ZQ d y L):Ra (q4A (q.1,q.2,d.1,d.2)) (qv z y) (max K L):=by
 exact⟨_,_,_,_,z,y,K,L,rfl,h.zi,k.zi,zE,zE,⟨h.b⟩,⟨k.b⟩,rfl⟩
structure MZ(l:List Z2)(zs:List Int)(K:Nat):Prop where
 len:l.length=zs.length
 z:∀(i:Nat) q z,l[i]? =some q->zs[i]? =some z->ZQ q z K
abbrev matW(r c:Int)(l:List Z2):List Atom:=[.c (.val (.int .i64 r)),.c (.val (.int .i64 c)),.c (.sat (aD 2 z2C l))]
abbrev og(r c:Nat)(l:List Z2):List Atom:=[.c (.val (.int .i64 (r:Int))),.c (.val (.int .i64 (c:Int))),.c (.sat (aD 2 z2C l))]
abbrev nG(r c:Nat)(l:List Int):List Atom:=[.c (.val (.int .i64 (r:Int))),.c (.val (.int .i64 (c:Int))),.c (.sat (aD 2 zC l))]
def zat(zs:List Int)(c i k:Nat):Int:=zs.getD (i*c+k) 0
def qh{r i:Nat}(hl:zs.length=r*c)(hi:i < r)(hk:k < c):zs[i*c+k]? =some (zat zs c i k):=by
 have h:=rW hi hk;unfold zat;rw[zx7,zyh zE];rfl
def MZ.at{r i:Nat}{l:List Z2}(hM:MZ l zs K)(hl:l.length=r*c)(hi:i < r)(hk:k < c):∃q,l[i*c+k]? =some q/\ZQ q (zat zs c i k) K:=by
 have h:=rW hi hk;obtain⟨q,hq⟩:∃q,l[i*c+k]? =some q:=⟨_,zyh zE⟩
 exact⟨q,hq,hM.z _ _ _ hq (qh (by rw[<-hM.len];exact hl) hi hk)⟩
def aal(r c:Nat)(l:List Int):nG r c l=og r c (l.map z2v):=by
 have e:aD 2 zC l=aD 2 z2C (l.map z2v):=by
  show aP 2 l.length (l.flatMap zC)=aP 2 (l.map z2v).length ((l.map z2v).flatMap z2C);rw[zq5,List.flatMap_map]
 unfold nG og;rw[e]
def MZ.made{zs:List Int}{K:Nat}(h:∀z∈zs,z.natAbs < WB ^ K):MZ (zs.map z2v) zs K:=by
 refine⟨zq5 _,fun i q z hq hz=>?_⟩
 rw[zqa,hz]at hq
 cases hq;exact ZQ.made (h z (zq4 hz))
instance qG(n:Int):Con prog 67 [.v (.int .i64 n)] True (.v (.bool (decide (0<=n/\n<=64)))):=⟨fun _=>by
 refine ah.fq func67 ?_;intros
 by_cases h1:n≥0
 ·by_cases h2:n<=64
  ·refine zg ?_;refine aU ?_;rw[decide_eq_true (show 0<=n/\n<=64 from ⟨h1,h2⟩)];exact decide_eq_true h2
  ·refine zg ?_;refine aU ?_;rw[decide_eq_false (show¬(0<=n/\n<=64)from fun h=>h2 h.2)];exact decide_eq_false h2
 ·refine zg ?_;refine aU ?_;rw[decide_eq_false (show¬(0<=n/\n<=64)from fun h=>h1 h.1)]⟩
def ai1(r c:Int){n:Nat}(goal:Bool)(hg:goal=true↔gX r c n):ah prog 40 [.agg [.c (.val (.int .i64 r)),.c (.val (.int .i64 c)),.c (.sat (aP 2 n ag))]] (.v (.bool goal)):=by
 have s1:=(qG r).h trivial;have s2:=(qG c).h trivial;refine ah.fq func40 ?_;intros
 by_cases h1:0<=r/\r<=64
 ·rw[decide_eq_true h1]at s1;by_cases h2:0<=c/\c<=64
  ·rw[decide_eq_true h2]at s2;have hp:0<=r*c:=Int.mul_nonneg h1.1 h2.1;have hp2:r*c<=64*64:=Int.mul_le_mul h1.2 h2.2 h2.1 zc
   refine zg ?_;refine aU ?_;rw[zyc,hg,decide_eq_true_iff];exact⟨fun h=>⟨h1.1,h1.2,h2.1,h2.2,h⟩,fun h=>h.2.2.2.2⟩
  ·rw[decide_eq_false h2]at s2;refine zg ?_;refine aU ?_;exact(Bool.eq_false_iff.2 fun ht=>h2 ⟨(hg.1 ht).2.2.1,(hg.1 ht).2.2.2.1⟩).symm
 ·rw[decide_eq_false h1]at s1;refine zg ?_;refine aU ?_;exact(Bool.eq_false_iff.2 fun ht=>h1 ⟨(hg.1 ht).1,(hg.1 ht).2.1⟩).symm
def pY{r c:Int}{n:Nat}(h:gX r c n):ah prog 40 [.agg [.c (.val (.int .i64 r)),.c (.val (.int .i64 c)),.c (.sat (aP 2 n ag))]] (.v (.bool true)):=ai1 r c true ⟨fun _=>h,fun _=>rfl⟩
def gX.nat{r n:Nat}(hr:r<=64)(hc:c<=64)(h:n=r*c):gX r c n:=⟨zE,zE,zE,zE,by rw[h];simp⟩
def qN{r i:Nat}{l:List Z2}{q:Z2}(hq:l[i*c+k]? =some q)(hi:i<=1000)(hc:c<=1000)(hk:k<=1000):
  ah prog 70 [.agg (og r c l),.v (.int .i64 (i:Int)),.v (.int .i64 (k:Int))] (.agg (z2A q)):=by
 have hb:=zxd hi hc;have hlt:=oL hq;refine ah.fq func70 ?_;intros
 refine zg ?_;exact jG aj.fK rfl
def aqK{r i:Nat}{l:List Z2}(h:i < r):ah prog 69 [.agg (og r c l),.v (.int .i64 (i:Int))] (.v (.bool true)):=by
 refine ah.fq func69 ?_;intros
 refine zg ?_;refine aU ?_;exact decide_eq_true zE
def alc{q:Z2}(h:ZQ q z K)(hK:K<=1000000):ah prog 20 [.it (.one (.c (.sat q.2))),.v (.bool q.1)] (.agg (zN z)):=by
 obtain⟨n,k,h1,h2,h3⟩:=h.h;rw[h1];exact ae3 (h:=h2) q.1 |>.h zE
def ab9{r i:Nat}{l:List Z2}(hM:MZ l zs K)(hl:l.length=r*c)(hr:r<=64)(hc:c<=64)(hi:i < r)(hk:k < c)(hK:K<=1000000):
  ah prog 43 [.agg (og r c l),.v (.int .i64 (i:Int)),.v (.int .i64 (k:Int))] (.agg (zN (zat zs c i k))):=by
 obtain⟨q,hq,hz⟩:=hM.at hl hi hk;have cg:=qN (r:=r) hq zE zE zE
 have ch:=aqK (c:=c) (l:=l) hi;have cF:=pY (ag:=l.flatMap z2C) (gX.nat hr hc hl);have cR:=alc hz hK;refine ah.fq func43 ?_;intros
 refine zg ?_;exact jG aj.fK rfl
end
section
open Go.RowKit QM SX LA
def fJ(c:Nat)(val:Nat->Nat->Int)(i:Nat):List Int:=(List.range i).flatMap fun i=>(List.range c).map (val i)
def aoa:fJ c val 0=[]:=rfl
def aas{i:Nat}:fJ c val (i+1)=fJ c val i++(List.range c).map (val i):=by
 unfold fJ;rw[List.range_succ,zvc];simp
def dM{c:Nat}{val:Nat->Nat->Int}:∀i,(fJ c val i).length=i*c
 |0=>by simp[aoa]
 |i+1=>by rw[aas,zqi,dM i];simp[zv8]
def ag9{c:Nat}{val:Nat->Nat->Int}{k:Nat}(hk:k < c):∀{r i:Nat},i < r->(fJ c val r)[i*c+k]? =some (val i k)
 |0,i,h=>absurd h (zvj _)
 |r+1,i,h=>by
  rw[aas];by_cases hi:i < r
  ·rw[zyj (by rw[dM];exact rW hi hk)]
   exact ag9 hk hi
  ·obtain rfl:i=r:=zE
   rw[zv6 (by rw[dM];omega),dM,Nat.add_sub_cancel_left,zqa,zvb hk];rfl
def nM{r:Nat}(h:∀i k,i < r->k < c->(val i k).natAbs < WB ^ K):∀v∈fJ c val r,v.natAbs < WB ^ K:=by
 intro v hv;unfold fJ at hv;obtain⟨i,hi,hv⟩:=zx9.1 hv;obtain⟨k,hk,rfl⟩:=zqg.1 hv;exact h i k (List.mem_range.1 hi) (List.mem_range.1 hk)
def aem(val:Nat->Nat->Int)(i k:Nat):List Int:=(List.range k).map (val i)
def aoS{i:Nat}:aem val i (k+1)=aem val i k++[val i k]:=by
 unfold aem;rw[List.range_succ,List.map_append];rfl
def qR(r c:Nat)(x:CA)(L:Nat->Nat->Z2)(val:Nat->Nat->Int)(K:Nat)(hr:r<=100)(hc:c<=100)(hK:K<=1000000)
  (hx:∀i k,i < r->k < c->FnV prog x [.v (.int .i64 (i:Int)),.v (.int .i64 (k:Int))] (.agg (z2A (L i k)))) (hL:∀i k,i < r->k < c->ZQ (L i k) (val i k) K) (hx1:x.dN=true):
  ah prog 344 [.v (.int .i64 (r:Int)),.v (.int .i64 (c:Int)),.it (.one (.c x))] (.agg (nG r c (fJ c val r))):=by
 refine ah.fq func344 ?_;intros
 refine zg ?_;refine W.loop (fun i=>i<=r) (fun i=>[(1,.v (.int .i64 (c:Int))),(2,.it (.one (.c x))),(6,.ptr 6 0),(7,.ptr 7 0),(14,.v (.int .i64 (r:Int))),(15,.v (.int .i64 (i:Int)))]) (fun i=>[(6,.box 24 [.c (.val (.int .i64 0)),.c (.val (.int .i64 0)),.c (.val (.slice none 0 0))]),(7,.box 24 [.c (.val (.int .i64 (r:Int))),.c (.val (.int .i64 (c:Int))),.own 100]),(100,.row 33 2 (i*c) ((fJ c val i).flatMap zC))]) (fun i=>r - i) 0 (zq8 _) (fun i hi=>?_)
  (by
   refine St.aS [(100,none)] z6 ?_ ?_ rfl
   ·exact yd
   ·exact⟨ay.same rfl rfl,ay.jE rfl rfl ⟨aB.same rfl,aB.same rfl,aB.nil rfl,trivial⟩,by rw[zw3];exact ay.dw rfl,trivial⟩)
 by_cases h:i < r
 ·refine zg ?_;refine W.loop (fun k=>k<=c) (fun k=>[(1,.v (.int .i64 (c:Int))),(2,.it (.one (.c x))),(6,.ptr 6 0),(7,.ptr 7 0),(8,.v (.int .i64 (i:Int))),(14,.v (.int .i64 (r:Int))),(15,.v (.int .i64 (i:Int))),(18,.v (.int .i64 (c:Int))),(19,.v (.int .i64 (k:Int)))]) (fun k=>[(6,.box 24 [.c (.val (.int .i64 0)),.c (.val (.int .i64 0)),.c (.val (.slice none 0 0))]),(7,.box 24 [.c (.val (.int .i64 (r:Int))),.c (.val (.int .i64 (c:Int))),.own 100]),(100,.row 33 2 (i*c+k) ((fJ c val i++aem val i k).flatMap zC))]) (fun k=>c - k) 0 (zq8 _) (fun k hk=>?_)
   (by
    have e:Ent.row 33 2 (i*c) ((fJ c val i).flatMap zC)=Ent.row 33 2 (i*c+0) ((fJ c val i++aem val i 0).flatMap zC):=by simp[aem]
    refine St.aS [] z6 ?_ ?_ rfl
    ·exact yd
    ·exact⟨ay.same rfl rfl,ay.same rfl rfl,ay.eq rfl e rfl,trivial⟩)
  by_cases h2:k < c
  ·have hf:=hx i k h h2;have cR:=alc (hL i k h h2) hK;have hlen:i*c+k<=20000:=by
    have:=zxd (show i<=100 by omega) hc
    omega
   refine zg ?_;refine W.next (k+1) h2 zE (by
    have e2:(fJ c val i++aem val i k).flatMap zC++zC (val i k)=(fJ c val i++aem val i (k+1)).flatMap zC:=by
     rw[aoS,<-zqj,zvc (xs:=fJ c val i++aem val i k)];simp
    refine St.aS [(100,some 34)] z6 ?_ ?_ rfl
    ·exact yd
    ·exact⟨ay.same rfl rfl,ay.jE rfl rfl ⟨aB.same rfl,aB.same rfl,aB.own rfl,trivial⟩,ay.row rfl rfl zE e2,trivial⟩)
  ·obtain rfl:k=c:=zE
   refine zg ?_;refine W.next (i+1) h zE (by
    have e2:Ent.row 33 2 (i*k+k) ((fJ k val i++aem val i k).flatMap zC)=Ent.row 33 2 ((i+1)*k) ((fJ k val (i+1)).flatMap zC):=by rw[zv8,aas];rfl
    refine St.aS [] z6 ?_ ?_ rfl
    ·exact yd
    ·exact⟨ay.same rfl rfl,ay.same rfl rfl,ay.eq rfl e2 rfl,trivial⟩)
 ·obtain rfl:i=r:=zE
  refine zg ?_;have hm:nG i c (fJ c val i)=[.c (.val (.int .i64 (i:Int))),.c (.val (.int .i64 (c:Int))),.c (.sat (aP 2 (i*c) ((fJ c val i).flatMap zC)))]:=by
   show [_,_,Atom.c (.sat (aP 2 (fJ c val i).length _))]=_;rw[dM]
  rw[hm];refine aJ.frz 100 ?_;exact jG aj.aW rfl
def azY(h1: -9223372036854775808<=z)(h2:z<=9223372036854775807):z.natAbs < WB ^ 1:=by
 rw[zxh,bf];omega
end
section
open Go.RowKit QM SX LA
section
section
attribute [local irreducible] qv
def aol{r i:Nat}{l:List Z2}{d:Z2}(hM:MZ l zs K)(hl:l.length=r*c)(hr:r<=64)(hc:c<=64)(hi:i < r)(hk:k < c)(hK:K<=1000000):
  ah prog 42 [.v (.int .i64 (i:Int)),.v (.int .i64 (k:Int)),.r (dL [.val (.int .i64 (r:Int)),.val (.int .i64 (c:Int)),.sat (aD 2 z2C l)]),.r (dL [.val (.bool d.1),.sat d.2])] (.agg (q4A ((z2v (zat zs c i k)).1,(z2v (zat zs c i k)).2,d.1,d.2))):=by
 have cA:=ab9 hM hl hr hc hi hk hK;refine ah.fq func42 ?_;intros
 refine zg ?_;exact jG aj.wh rfl
def auh{r:Nat}{l:List Z2}{d:Z2}(hM:MZ l zs K)(hl:l.length=r*c)(hr:r<=64)(hc:c<=64)(hd:ZQ d y L)(hy:y≠0)(hK:K<=10000)(hL:L<=10000)(hKL:K<=L):
  ah prog 26 [.agg (og r c l),.agg (z2A d)] (.tup [.agg (ahB r c (ku c (fun i k=>qv (zat zs c i k) y) r)),eNo 0]):=by
 have cF:=pY (ag:=l.flatMap z2C) (gX.nat hr hc hl)
 haveI:=hd.zi
 have cS:=(vk (l:=z2A d) (x:=y)).h zE
 have hs:¬bG y=0:=fun e=>hy ((agy y).1 e)
 have cM:=zw r c (.sat (jR 42 [] [.sat (dL [.val (.int .i64 (r:Int)),.val (.int .i64 (c:Int)),.sat (aD 2 z2C l)]),.sat (dL [.val (.bool d.1),.sat d.2])])) (fun i k=>((z2v (zat zs c i k)).1,(z2v (zat zs c i k)).2,d.1,d.2)) (fun i k=>qv (zat zs c i k) y) (max K L) zE zE zE
  (fun i k hi hk=>FnV.clo (aol hM hl hr hc hi hk zE))
  (fun i k hi hk=>by
   obtain⟨q,_,hz⟩:=hM.at hl hi hk;exact(ZQ.made hz.b).ra hd) rfl
 refine ah.fq func26 fun _ _ _ _ hB=>?_
 refine zg ?_;refine WP.dG 2 hB rfl rfl ?_;refine WP.dG 3 hB rfl rfl ?_;refine WP.aG ?_;refine zg ?_;exact .ok (aA.mk2 aj.aW (aj.tmp rfl))
def zq1:ZQ (z2v 1) 1 1:=ZQ.made (by rw[zxh,bf];decide)
def aiN{r:Nat}{l:List Z2}(hM:MZ l zs K)(hl:l.length=r*c)(hr:r<=64)(hc:c<=64)(hK:K<=10000)(hK1:1<=K):
  ah prog 15 [.agg (og r c l)] (.tup [.agg (ahB r c (ku c (fun i k=>qv (zat zs c i k) 1) r)),eNo 0]):=by
 have o1:=anC;have cO:=auh hM hl hr hc (zq1.mono hK1) zc hK hK (zq6 _)
 refine ah.fq func15 ?_;intros
 refine zg ?_;exact .ok (aA.mk2 aj.aW (aj.tmp rfl))
end
end
section
def awV:List Rat:=ku 2 (fun i k=>qv (zat (fJ 2 (zat [1,2,3,4] 2) 2) 2 i k) 1) 2
section
attribute [local irreducible] qv awV
end
end
end
