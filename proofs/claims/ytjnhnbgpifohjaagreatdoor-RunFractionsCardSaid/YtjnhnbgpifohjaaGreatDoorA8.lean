import Derived.Test.YtjnhnbgpifohjaaGreatDoorA23
import Derived.Test.YtjnhnbgpifohjaaGreatDoorA1
import Derived.Test.YtjnhnbgpifohjaaGreatDoorA27
import Derived.Test.YtjnhnbgpifohjaaGreatDoorA2
import Derived.Test.YtjnhnbgpifohjaaGreatDoorA28
set_option linter.unusedVariables false
set_option linter.unusedSimpArgs false
open Go.Proofs.Tryz
namespace Go.Proofs.YtjnhnbgpifohjaaGreatDoor
open Go.RowKit QM SX
section
def dM(l:List Nat):Rep where
 has S w v:=Sm WB l∧(aL 1 l.length (l.map fun x:Nat=> .val (.int .u64 (x:Int)))).has S w v
 one h:=(aL _ _ _).one h.2
 step h ho hs:=⟨h.1,(aL _ _ _).step h.2 ho hs⟩
theorem dM.rn{l:List Nat}{S:Nat→Prop}{w:World}{v:Value}(h:(dM l).has S w v):RN w v l:=by
 obtain⟨hs,h⟩:=h;obtain⟨oa,cap,h1,h2,h3,h4,h5,h6⟩:=bB.1 h;refine⟨oa,cap,h1,h2,h3,h4,hs,fun i hi=>?_⟩
 obtain⟨b,o,u,e1,e2,e3,e4⟩:=h6 i (.val (.int .u64 ((gd l i:Nat):Int))) (by simp[gd,zq3,hi])
 exact⟨b,o,e1,by rw[e3,show u=_ from e4]⟩
def bI(n:Nat):Rep where
 has S w v:=∃l,Nrm l∧nval WB l=n∧(l=[]→v= .slice none 0 0)∧(dM l).has S w v
 one h:=by obtain⟨l,_,_,_,h⟩:=h;exact(dM l).one h
 step h ho hs:=by obtain⟨l,h1,h2,h3,h⟩:=h;exact⟨l,h1,h2,h3,(dM l).step h ho hs⟩
theorem bI.acs{n base:Nat}{S:Nat→Prop}{w:World}{v:Value}(h:ON base w v n)(hS:∀k,S k→k < base):(bI n).has S w v:=by
 obtain⟨l,h1,h2,h3,h4,h5⟩:=h;refine⟨l,h3,h4,h5,h2,?_⟩;rcases h1.2 with⟨rfl,h0⟩|⟨g,cap,cur,rfl,hb,hg,hn,hm,hcs,htk⟩
 ·have hl:l=[]:=List.eq_nil_of_length_eq_zero h0;subst hl;exact bB.2 ⟨none,0,rfl,Nat.le_refl _,by simp[maxLen],fun _=>rfl,by simp,fun i c hc=>by simp at hc⟩
 ·refine bB.2 ⟨some ⟨g,0,none⟩,cap,rfl,hn,hm,fun e=>(by cases e),by simp,fun i c hc=>?_⟩
  have hi:i < l.length:=by have:=(List.getElem?_eq_some_iff.1 hc).1;simpa using this
  refine⟨g,0,.int .u64 ((gd l i:Nat):Int),rfl,fun h=>by have:=hS g h;omega,?_,?_⟩
  ·rw[Nat.zero_add,h1.cellAt i (by omega)]
   simp[wv,List.getElem?_map,zq2 hi,gd,zq3]
  ·simp[List.getElem?_map,zq2 hi]at hc
   subst hc;simp[CA.has,gd,zq3,hi]
theorem bI.zero{S:Nat→Prop}{w:World}:(bI 0).has S w (.slice none 0 0):=
 ⟨[],Nrm.nil,rfl,fun _=>rfl,Sm.nil,bB.2 ⟨none,0,rfl,Nat.le_refl _,by simp[maxLen],fun _=>rfl,by simp,fun i c hc=>by simp at hc⟩⟩
def aaU(B:Nat):Nat→Nat→List Nat
 |0,_=>[]
 |_+1,0=>[]
 |f+1,n+1=>((n+1) % B)::aaU B f ((n+1) / B)
theorem rF{B:Nat}(hB:1 < B):∀(f n:Nat),n≤f→Sm B (aaU B f n)∧nval B (aaU B f n)=n∧Nrm (aaU B f n)
 |0,n,h=>by
  have:n=0:=by omega
  subst this;exact⟨Sm.nil,rfl,Nrm.nil⟩
 |f+1,0,_=>⟨Sm.nil,rfl,Nrm.nil⟩
 |f+1,n+1,h=>by
  have hlt:(n+1) / B < n+1:=Nat.div_lt_self (by omega) hB
  obtain⟨h1,h2,h3⟩:=rF hB f ((n+1) / B) (by omega)
  have hv:nval B (aaU B (f+1) (n+1))=n+1:=by
   show (n+1) % B+B*nval B (aaU B f ((n+1) / B))=n+1;rw[h2];exact Nat.mod_add_div _ _
  refine⟨h1.cons (Nat.mod_lt _ (by omega)),hv,.inr ?_⟩
  have hc:aaU B (f+1) (n+1)=(n+1) % B::aaU B f ((n+1) / B):=rfl;rw[hc];generalize aaU B f ((n+1) / B)=l at*;rcases h3 with h3|h3
  ·subst h3;have h5:(n+1) / B=0:=h2.symm;have:(n+1) % B=n+1:=by have:=Nat.mod_add_div (n+1) B;rw[h5]at this;simpa using this
   simp[this]
  ·have h6:l.length≠0:=by
    intro h0;rw[List.eq_nil_of_length_eq_zero h0]at h3;simp at h3
   obtain⟨m,hm⟩:∃m,l.length=m+1:=⟨l.length - 1,by omega⟩
   rw[hm]at h3;simp only[List.length_cons,hm,Nat.add_sub_cancel,zq3,List.getElem?_cons_succ]at*
   exact h3
def wds(n:Nat):List Nat:=aaU WB n n
theorem ad9(n:Nat):Sm WB (wds n):=(rF qL n n (Nat.le_refl n)).1
theorem nU(n:Nat):nval WB (wds n)=n:=(rF qL n n (Nat.le_refl n)).2.1
theorem yF(n:Nat):Nrm (wds n):=(rF qL n n (Nat.le_refl n)).2.2
theorem uR{l:List Nat}(hs:Sm WB l)(hn:Nrm l):l=wds (nval WB l):=anj aS hs (ad9 _) hn (yF _) (nU _).symm
theorem mQ{n k:Nat}(h:n < WB ^ k):(wds n).length≤k:=(yF n).qg aS (by rw[nU];exact h)
theorem qw(n:Nat):(wds n).length=0↔n=0:=by
 constructor
 ·intro h;have:=nU n;rw[List.eq_nil_of_length_eq_zero h]at this;exact this.symm
 ·intro h;subst h;rfl
instance(l:List Nat):jd (dM l) 1 l.length (l.map fun x:Nat=> .val (.int .u64 (x:Int))):=⟨fun _ _ _ h=>h.2⟩
instance(n:Nat):jd (bI n) 1 (wds n).length ((wds n).map fun x:Nat=> .val (.int .u64 (x:Int))):=⟨fun _ _ _ h=>by
 obtain⟨l,h1,h2,_,h4⟩:=h;have:=uR h4.1 h1;rw[h2]at this;rw[←this];exact h4.2⟩
class Bd(z:Int)(k:outParam Nat):Prop where
 h:z.natAbs < WB ^ k
def acU(n k:Nat):Rep where
 has S w v:=∃l,nval WB l=n∧l.length≤k∧(dM l).has S w v
 one h:=by obtain⟨l,_,_,h⟩:=h;exact(dM l).one h
 step h ho hs:=by obtain⟨l,h1,h2,h⟩:=h;exact⟨l,h1,h2,(dM l).step h ho hs⟩
class NI(a:CA)(n:outParam Nat)(k:outParam Nat):Prop where
 p:∀S w v,a.has S w v→(acU n k).has S w v
theorem NI.h{a:CA}{n k:Nat}(x:NI a n k):∀S w v,a.has S w v→∃l,RN w v l∧nval WB l=n∧l.length≤k:=fun S w v h=>by
 obtain⟨l,h1,h2,h3⟩:=x.p S w v h;exact⟨l,dM.rn h3,h1,h2⟩
instance NI.nat(n k:Nat):NI (.sat (acU n k)) n k:=⟨fun _ _ _ h=>h⟩
instance NI.raw(l:List Nat):NI (.sat (dM l)) (nval WB l) l.length:=⟨fun S w v h=>⟨l,rfl,Nat.le_refl _,h⟩⟩
instance NI.nil:NI (.val (.slice none 0 0)) 0 0:=⟨fun S w v h=>by
 rw[show v=_ from h]
 exact⟨[],rfl,Nat.le_refl _,Sm.nil,bB.2 ⟨none,0,rfl,Nat.le_refl _,by simp[maxLen],fun _=>rfl,by simp,fun i c hc=>by simp at hc⟩⟩⟩
theorem NI.acC{n k:Nat}(hk:n < WB ^ k):NI (.sat (bI n)) n k:=⟨fun S w v h=>by
 obtain⟨l,h1,h2,_,h4⟩:=h;exact⟨l,h2,h1.qg aS (by rw[h2];exact hk),h4⟩⟩
class BdN(n:Nat)(k:outParam Nat):Prop where
 h:n < WB ^ k
instance NI.nrm(n k:Nat)[h:BdN n k]:NI (.sat (bI n)) n k:=NI.acC h.h
instance BdN.abs(z:Int)(k:Nat)[h:Bd z k]:BdN z.natAbs k:=⟨h.h⟩
theorem fF(k:Nat):1≤WB ^ k:=Nat.one_le_pow k WB aS
theorem Bd.mono{z:Int}{k m:Nat}(h:z.natAbs < WB ^ k)(hm:k≤m):z.natAbs < WB ^ m:=Nat.lt_of_lt_of_le h (Nat.pow_le_pow_right aS hm)
theorem agF(k m:Nat):WB ^ k+WB ^ m≤WB ^ (k+m)+1:=by
 have h1:=fF k;have h2:=fF m;rw[Nat.pow_add];generalize WB ^ k=a at*;generalize WB ^ m=b at*;obtain⟨a,rfl⟩:∃a',a=a'+1:=⟨a - 1,by omega⟩
 obtain⟨b,rfl⟩:∃b',b=b'+1:=⟨b - 1,by omega⟩
 rw[Nat.add_mul,Nat.mul_add];have:0≤a*b:=Nat.zero_le _;omega
theorem adr{x y:Int}{k m:Nat}(hx:x.natAbs < WB ^ k)(hy:y.natAbs < WB ^ m):(x+y).natAbs < WB ^ (k+m+1):=by
 have h1:=agF k m;have h2:WB ^ (k+m)*2≤WB ^ (k+m+1):=by rw[Nat.pow_succ];exact Nat.mul_le_mul_left _ (by decide)
 have h3:=fF (k+m);omega
instance Bd.add(x y:Int)(k m:Nat)[hx:Bd x k][hy:Bd y m]:Bd (x+y) (k+m+1):=⟨adr hx.h hy.h⟩
instance Bd.sub(x y:Int)(k m:Nat)[hx:Bd x k][hy:Bd y m]:Bd (x - y) (k+m+1):=⟨by rw[Int.sub_eq_add_neg];exact adr hx.h (by rw[Int.natAbs_neg];exact hy.h)⟩
instance Bd.neg(x:Int)(k:Nat)[hx:Bd x k]:Bd (-x) k:=⟨by rw[Int.natAbs_neg];exact hx.h⟩
instance Bd.mul(x y:Int)(k m:Nat)[hx:Bd x k][hy:Bd y m]:Bd (x*y) (k+m):=⟨by
 rw[Int.natAbs_mul,Nat.pow_add];exact Nat.mul_lt_mul_of_lt_of_le hx.h (Nat.le_of_lt hy.h) (fF m)⟩
theorem apP{x y:Nat}{k m:Nat}(hx:x < WB ^ k)(hy:y < WB ^ m):x+y < WB ^ (k+m+1):=by
 have:=adr (x:=(x:Int)) (y:=(y:Int)) (k:=k) (m:=m) (by simpa using hx) (by simpa using hy)
 omega
instance BdN.add(x y k m:Nat)[hx:BdN x k][hy:BdN y m]:BdN (x+y) (k+m+1):=⟨apP hx.h hy.h⟩
instance BdN.mul(x y k m:Nat)[hx:BdN x k][hy:BdN y m]:BdN (x*y) (k+m):=⟨by
 rw[Nat.pow_add];exact Nat.mul_lt_mul_of_lt_of_le hx.h (Nat.le_of_lt hy.h) (fF m)⟩
instance BdN.sub(x y k:Nat)[hx:BdN x k]:BdN (x - y) k:=⟨Nat.lt_of_le_of_lt (Nat.sub_le _ _) hx.h⟩
instance BdN.div(x y k:Nat)[hx:BdN x k]:BdN (x / y) k:=⟨Nat.lt_of_le_of_lt (Nat.div_le_self _ _) hx.h⟩
instance BdN.mod(x y k:Nat)[hx:BdN x k]:BdN (x % y) k:=⟨Nat.lt_of_le_of_lt (Nat.mod_le _ _) hx.h⟩
instance BdN.ite(c:Prop)[Decidable c](x k:Nat)[hx:BdN x k]:BdN (if c then 0 else x) k:=⟨by split;exact Nat.lt_of_lt_of_le (by decide) (fF k);exact hx.h⟩
instance BdN.gcd(x y k m:Nat)[hx:BdN x k][hy:BdN y m]:BdN (Nat.gcd x y) (k+m):=⟨by
 rcases Nat.eq_zero_or_pos x with h0|h0
 ·subst h0;rw[Nat.gcd_zero_left];exact Nat.lt_of_lt_of_le hy.h (Nat.pow_le_pow_right aS (by omega))
 ·exact Nat.lt_of_le_of_lt (Nat.gcd_le_left y h0) (Nat.lt_of_lt_of_le hx.h (Nat.pow_le_pow_right aS (by omega)))⟩
instance Bd.nat(n k:Nat)[h:BdN n k]:Bd (n:Int) k:=⟨by simpa using h.h⟩
instance Bd.zero:Bd 0 0:=⟨by simp⟩
instance Bd.one:Bd 1 1:=⟨by simp[WB]⟩
theorem att(x:Int)(h1: -9223372036854775808≤x)(h2:x≤9223372036854775807):x.natAbs < WB ^ 1:=by rw[Nat.pow_one,bV];omega
section
variable{a b:CA}{x y k m:Nat}
theorem nat2{f:FuncId}{r:Nat}[ha:NI a x k][hb:NI b y m](he:∃fn,prog.funcs[f]? =some fn∧(fn.name== "runtime.NumGoroutine")=false∧fn.body.isNone=false)
  (h:∀w va vb la lb,RN w va la→RN w vb lb→nval WB la=x→nval WB lb=y→la.length≤k→lb.length≤m→Calls prog f #[va,vb] w fun e w'=>(∃v,e= .returned v∧ON w.heap.size w' v r)∧Ext w w'):
  ah prog f [.it (.one (.c a)),.it (.one (.c b))] (.r (bI r)):=
 ah.iB he rfl fun E S w vs hl hv=>by
  match vs,hv with
  |[va,vb],⟨h1,h2,_⟩=>
   obtain⟨la,ra,ea,ka⟩:=ha.h S w va h1;obtain⟨lb,rb,eb,kb⟩:=hb.h S w vb h2;refine(h w va vb la lb ra rb ea eb ka kb).mono ?_;rintro e w' ⟨⟨v,rfl,ho⟩,hx⟩;exact⟨v,rfl,bI.acs ho hl,Off.of_below hx⟩
theorem nat1{f:FuncId}{r:Nat}[ha:NI a x k](he:∃fn,prog.funcs[f]? =some fn∧(fn.name== "runtime.NumGoroutine")=false∧fn.body.isNone=false)
  (h:∀w va la,RN w va la→nval WB la=x→la.length≤k→Calls prog f #[va] w fun e w'=>(∃v,e= .returned v∧ON w.heap.size w' v r)∧Ext w w'):
  ah prog f [.it (.one (.c a))] (.r (bI r)):=
 ah.iB he rfl fun E S w vs hl hv=>by
  match vs,hv with
  |[va],⟨h1,_⟩=>
   obtain⟨la,ra,ea,ka⟩:=ha.h S w va h1;refine(h w va la ra ea ka).mono ?_;rintro e w' ⟨⟨v,rfl,ho⟩,hx⟩;exact⟨v,rfl,bI.acs ho hl,Off.of_below hx⟩
theorem ar2[ha:NI a x k](hk:k≤1099511627775):ah prog 100 [.it (.one (.c a))] (.r (bI x)):=
 nat1 ⟨_,func100,rfl,rfl⟩ fun w va la h1 h2 h3=>by subst h2;exact gD h1 (by omega)
theorem nAdd[ha:NI a x k][hb:NI b y m](hk:k+m≤1099511627775):ah prog 176 [.it (.one (.c a)),.it (.one (.c b))] (.r (bI (x+y))):=
 nat2 ⟨_,func176,rfl,rfl⟩ fun w va vb la lb h1 h2 h3 h4 h5 h6=>by subst h3 h4;exact vL h1 h2 (by omega) (by omega)
theorem mMul[ha:NI a x k][hb:NI b y m](hk:k+m≤274877906944):ah prog 104 [.it (.one (.c a)),.it (.one (.c b))] (.r (bI (x*y))):=
 nat2 ⟨_,func104,rfl,rfl⟩ fun w va vb la lb h1 h2 h3 h4 h5 h6=>by subst h3 h4;exact aq2 h1 h2 (by omega) (by omega)
theorem dGcd[ha:NI a x k][hb:NI b y m](hk:k+m≤1099511627770):ah prog 101 [.it (.one (.c a)),.it (.one (.c b))] (.r (bI (Nat.gcd x y))):=
 nat2 ⟨_,func101,rfl,rfl⟩ fun w va vb la lb h1 h2 h3 h4 h5 h6=>by subst h3 h4;exact ap3 h1 h2 hk (by omega) (by omega)
theorem nOf(x:Nat)(hx:x < WB):ah prog 60 [.v (.int .u64 (x:Int))] (.r (bI x)):=
 ah.iB ⟨_,func60,rfl,rfl⟩ rfl fun E S w vs hl hv=>by
  match vs,hv with
  |[va],⟨h1,_⟩=>
   have h1':va= .int .u64 (x:Int):=h1;subst h1';refine(al3 x hx w).mono ?_;rintro e w' ⟨⟨v,rfl,ho⟩,hx⟩;exact⟨v,rfl,bI.acs ho hl,Off.of_below hx⟩
theorem nCmp[ha:NI a x k][hb:NI b y m](hk:k+m≤1099511627775):ah prog 215 [.it (.one (.c a)),.it (.one (.c b))] (.v (.int .i64 (ku x y))):=
 ah.iB ⟨_,func215,rfl,rfl⟩ rfl fun E S w vs hl hv=>by
  match vs,hv with
  |[va,vb],⟨h1,h2,_⟩=>
   obtain⟨la,ra,ea,ka⟩:=ha.h S w va h1;obtain⟨lb,rb,eb,kb⟩:=hb.h S w vb h2;subst ea eb;refine(yO ra rb (by omega) (by omega)).mono ?_
   rintro e w' ⟨rfl,hx⟩;exact⟨_,rfl,rfl,Off.of_below hx⟩
theorem af2[ha:NI a x k](hk:k≤1099511627775):ah prog 102 [.it (.one (.c a))] (.v (.int .i64 (bitLen x:Int))):=
 ah.iB ⟨_,func102,rfl,rfl⟩ rfl fun E S w vs hl hv=>by
  match vs,hv with
  |[va],⟨h1,_⟩=>
   obtain⟨la,ra,ea,ka⟩:=ha.h S w va h1;subst ea;refine(anQ ra (by omega)).mono ?_
   rintro e w' ⟨rfl,rfl⟩;exact⟨_,rfl,rfl,Off.refl _ _⟩
theorem arb[ha:NI a x k](hk:k≤1099511627775):ah prog 114 [.it (.one (.c a))] (.tup [.one (.c (.val (.int .u64 ((if x < WB then x else 0:Nat):Int)))),.one (.c (.val (.bool (decide (x < WB)))))]):=
 ah.iB ⟨_,func114,rfl,rfl⟩ rfl fun E S w vs hl hv=>by
  match vs,hv with
  |[va],⟨h1,_⟩=>
   obtain⟨la,ra,ea,ka⟩:=ha.h S w va h1;subst ea;refine(anK ra (by omega)).mono ?_
   rintro e w' ⟨rfl,rfl⟩;exact⟨_,rfl,⟨[_,_],rfl,rfl,rfl,trivial⟩,Off.refl _ _⟩
theorem nSub[ha:NI a x k][hb:NI b y m](hk:k+m≤1099511627775):ah prog 177 [.it (.one (.c a)),.it (.one (.c b))] (.tup [.one (.c (.sat (bI (x - y)))),.one (.c (.val (.bool (decide (y≤x)))))]):=
 ah.iB ⟨_,func177,rfl,rfl⟩ rfl fun E S w vs hl hv=>by
  match vs,hv with
  |[va,vb],⟨h1,h2,_⟩=>
   obtain⟨la,ra,ea,ka⟩:=ha.h S w va h1;obtain⟨lb,rb,eb,kb⟩:=hb.h S w vb h2;subst ea eb;rcases Nat.lt_or_ge (nval WB la) (nval WB lb)with hlt|hge
   ·refine(ao2 ra rb (by omega) (by omega) hlt).mono ?_
    rintro e w' ⟨rfl,hx⟩;refine⟨_,rfl,⟨[_,_],rfl,?_,?_,trivial⟩,Off.of_below hx⟩
    ·show (bI _).has _ _ _;rw[Nat.sub_eq_zero_of_le (by omega)];exact bI.zero
    ·show _=_;rw[decide_eq_false (by omega)]
   ·refine(anm ra rb (by omega) (by omega) hge).mono ?_
    rintro e w' ⟨⟨v,rfl,ho⟩,hx⟩;refine⟨_,rfl,⟨[_,_],rfl,bI.acs ho hl,?_,trivial⟩,Off.of_below hx⟩;show _=_;rw[decide_eq_true hge]
theorem acO[ha:NI a x k][hb:NI b y m](hk:k+m≤1099511627770):ah prog 196 [.it (.one (.c a)),.it (.one (.c b))] (.tup [.one (.c (.sat (bI (x / y)))),.one (.c (.sat (bI (if y=0 then 0 else x % y)))),.one (.c (.val (.bool (decide (y≠0)))))]):=
 ah.iB ⟨_,func196,rfl,rfl⟩ rfl fun E S w vs hl hv=>by
  match vs,hv with
  |[va,vb],⟨h1,h2,_⟩=>
   obtain⟨la,ra,ea,ka⟩:=ha.h S w va h1;obtain⟨lb,rb,eb,kb⟩:=hb.h S w vb h2;subst ea eb;by_cases h0:nval WB lb=0
   ·refine(aeb ra rb (by omega) (by omega) h0).mono ?_
    rintro e w' ⟨rfl,hx⟩;rw[h0];exact⟨_,rfl,⟨[_,_,_],rfl,by show (bI _).has _ _ _;rw[Nat.div_zero];exact bI.zero,bI.zero,rfl,trivial⟩,Off.of_below hx⟩
   ·refine(aaz ra rb (by omega) (by omega) (Nat.pos_of_ne_zero h0)).mono ?_
    rintro e w' ⟨⟨vq,vr,rfl,hq,hr⟩,hx⟩;refine⟨_,rfl,⟨[_,_,_],rfl,bI.acs hq hl,?_,?_,trivial⟩,Off.of_below hx⟩
    ·rw[if_neg h0];exact bI.acs hr hl
    ·show _=_;rw[decide_eq_true h0]
end
theorem nk{l:List Nat}{S:Nat→Prop}{w:World}{v:Value}:(dM l).has S w v↔Sm WB l∧(aL 1 l.length (l.map fun x:Nat=> .val (.int .u64 (x:Int)))).has S w v:=Iff.rfl
theorem uJ{n k:Nat}{S:Nat→Prop}{w:World}{v:Value}:(acU n k).has S w v↔∃l,nval WB l=n∧l.length≤k∧(dM l).has S w v:=Iff.rfl
theorem af7{n:Nat}{S:Nat→Prop}{w:World}{v:Value}:(bI n).has S w v↔∃l,Nrm l∧nval WB l=n∧(l=[]→v= .slice none 0 0)∧(dM l).has S w v:=Iff.rfl
attribute [irreducible] acU dM bI wds
end
section
attribute [local irreducible] IntKind.wrap bitLen ku nval Go1 Reg WP aR aU bR aF ak aj aY Sat
def sgn(neg:Bool)(n:Nat):Int:=if neg then -(n:Int)else(n:Int)
theorem acD(z:Int):sgn (decide (z < 0)) z.natAbs=z:=by unfold sgn;split <;> simp_all <;> omega
theorem gJ(neg:Bool)(n:Nat):(sgn neg n).natAbs=n:=by unfold sgn;split <;> omega
abbrev zN(z:Int):List Atom:=[.c (.val (.bool (decide (z < 0)))),.c (.sat (bI z.natAbs))]
abbrev zR(neg:Bool)(n k:Nat):List Atom:=[.c (.val (.bool neg)),.c (.sat (acU n k))]
class ZI(l:List Atom)(z:outParam Int)(k:outParam Nat):Prop where
 h:∃neg n,z=sgn neg n∧∀E S w v,(AV.agg l).has E S w v→(AV.agg (zR neg n k)).has E S w v
theorem ZI.mk'{neg:Bool}{a:CA}{n k:Nat}(h:NI a n k):ZI [.c (.val (.bool neg)),.c a] (sgn neg n) k:=⟨neg,n,rfl,fun E S w v hv=>by
 obtain⟨vs,hv,hall⟩:=hv
 match vs,hall with
 |[x,y],⟨h1,h2,_⟩=>exact⟨[x,y],hv,h1,h.p S w y h2,trivial⟩⟩
instance ZI.nat(neg:Bool)(n k:Nat):ZI [.c (.val (.bool neg)),.c (.sat (acU n k))] (sgn neg n) k:=ZI.mk' inferInstance
instance ZI.nrm(z:Int)(k:Nat)[h:Bd z k]:ZI [.c (.val (.bool (decide (z < 0)))),.c (.sat (bI z.natAbs))] z k:=by
 have:=ZI.mk' (neg:=decide (z < 0)) (NI.acC h.h)
 rwa [acD]at this
instance ZI.raw(neg:Bool)(l:List Nat):ZI [.c (.val (.bool neg)),.c (.sat (dM l))] (sgn neg (nval WB l)) l.length:=ZI.mk' inferInstance
instance ZI.zero:ZI [.c (.val (.bool false)),.c (.val (.slice none 0 0))] 0 0:=ZI.mk' (neg:=false) (n:=0) inferInstance
theorem apE{n k:Nat}{S:Nat→Prop}{w:World}{v:Value}(h:(acU n k).has S w v):n < WB ^ k:=by
 obtain⟨l,h1,h2,h3⟩:=uJ.1 h;rw[←h1];exact acg (dM.rn h3).sm h2
theorem vD{neg:Bool}{n k:Nat}{E:Env}{S:Nat→Prop}{w:World}{v:Value}(h:(AV.agg (zR neg n k)).has E S w v):n < WB ^ k:=by
 obtain⟨vs,_,hall⟩:=h
 match vs,hall with
 |[_,_],⟨_,h2,_⟩=>exact apE h2
theorem z1{f:FuncId}{r:AV}{l:List Atom}{z:Int}{k:Nat}[h:ZI l z k](he:∃fn,prog.funcs[f]? =some fn∧(fn.name== "runtime.NumGoroutine")=false∧fn.body.isNone=false)
  (hf:∀neg n,z=sgn neg n→BdN n k→ah prog f [.agg (zR neg n k)] r):ah prog f [.agg l] r:=by
 obtain⟨neg,n,hz,hm⟩:=h.h;refine ah.fact he (fun hb=>hf neg n hz hb) fun E S w vs hv=>?_
 match vs,hv with
 |[x],⟨h1,_⟩=>exact⟨⟨hm E S w x h1,trivial⟩,⟨vD (hm E S w x h1)⟩⟩
theorem z2{f:FuncId}{r:AV}{l l':List Atom}{z z':Int}{k k':Nat}[h:ZI l z k][h':ZI l' z' k'](he:∃fn,prog.funcs[f]? =some fn∧(fn.name== "runtime.NumGoroutine")=false∧fn.body.isNone=false)
  (hf:∀neg n neg' n',z=sgn neg n→z'=sgn neg' n'→BdN n k→BdN n' k'→ah prog f [.agg (zR neg n k),.agg (zR neg' n' k')] r):ah prog f [.agg l,.agg l'] r:=by
 obtain⟨neg,n,hz,hm⟩:=h.h;obtain⟨neg',n',hz',hm'⟩:=h'.h;refine ah.fact (φ:=BdN n k∧BdN n' k') he (fun hb=>hf neg n neg' n' hz hz' hb.1 hb.2) fun E S w vs hv=>?_
 match vs,hv with
 |[x,y],⟨h1,h2,_⟩=>exact⟨⟨hm E S w x h1,hm' E S w y h2,trivial⟩,⟨vD (hm E S w x h1)⟩,⟨vD (hm' E S w y h2)⟩⟩
instance Bd.sgn(neg:Bool)(n k:Nat)[h:BdN n k]:Bd (sgn neg n) k:=⟨by rw[gJ];exact h.h⟩
theorem asB(neg:Bool)(n:Nat):zN (sgn neg n)=[.c (.val (.bool (neg&&decide (0 < n)))),.c (.sat (bI n))]:=by
 have h1:decide (sgn neg n < 0)=(neg&&decide (0 < n)):=by
  unfold sgn;cases neg <;> simp
 unfold zN;rw[gJ,h1]
theorem qQ{a:CA}{x k:Nat}[ha:NI a x k](neg:Bool)(hk:k≤1099511627775):ah prog 50 [.it (.one (.c a)),.v (.bool neg)] (.agg (zN (sgn neg x))):=by
 rw[asB];refine ah.args (args':=[.r (acU x k),.v (.bool neg)]) ?_ (fun E S w vs hv=>?_)
 rotate_left
 ·match vs,hv with
  |[u,v],⟨h1,h2,_⟩=>exact⟨ha.p S w u h1,h2,trivial⟩
 refine ah.fn func50 results50 ntmps50 rfl rfl rfl (by simp[AV.ids,AV0.ids,Atom.ids]) rfl (fun w0 T B E0 hB=>?_)
 cases neg
 ·repeat(first|refine SX.goM ?_|(refine SX.Go1.is ?_;refine SX.Go1.dY ?_;first
     |refine SX.Go1.call rfl (ar2 hk) rfl rfl ?_))
  exact aF.eq1 (ak.iV rfl rfl rfl) rfl
 ·repeat(first|refine SX.goM ?_|(refine SX.Go1.is ?_;refine SX.Go1.dY ?_;first
     |refine SX.Go1.call rfl (ar2 hk) rfl rfl ?_))
  refine aF.eq1 (ak.iV rfl rfl rfl) ?_;have h:decide (0 < ((wds x).length:Int))=decide (0 < x):=by
   have:=qw x;rw[decide_eq_decide];omega
  show AV0.agg [Atom.c (CA.val (.bool (decide (0 < ((wds x).length:Int))))),_]=_;rw[h];rfl
def bq(z:Int):Int:=if z=0 then 0 else if z < 0 then -1 else 1
theorem mE{n:Nat}:bitLen n=0↔n=0:=by
 unfold bitLen;split <;> simp_all
theorem aiu{l:List Atom}{z:Int}{k:Nat}[h:ZI l z k](hk:k≤1099511627775):ah prog 62 [.agg l] (.v (.int .i64 (bq z))):=by
 refine z1 ⟨_,func62,rfl,rfl⟩ fun neg n hz hn=>?_
 subst hz;refine ah.fn func62 results62 ntmps62 rfl rfl rfl (by simp[AV.ids,AV0.ids,Atom.ids]) rfl (fun w0 T B E0 hB=>?_)
 have hb:=mE (n:=n);repeat(first|refine SX.goM ?_|(refine SX.Go1.is ?_;refine SX.Go1.dY ?_;first
    |refine SX.Go1.call rfl (af2 hk) rfl rfl ?_))
 refine WP.cond rfl (fun hc=>?_) (fun hc=>?_)
 ·repeat(first|refine SX.goM ?_)
  refine aF.eq1 (ak.tmp rfl) ?_;have:n=0:=by simp at hc;omega
  subst this;cases neg <;> rfl
 ·repeat(first|refine SX.goM ?_)
  have hn:0 < n:=by simp at hc;omega
  cases neg
  ·repeat(first|refine SX.goM ?_)
   refine aF.eq1 (ak.tmp rfl) ?_;have:bq (sgn false n)=1:=by unfold bq sgn;simp;omega
   rw[this]
  ·repeat(first|refine SX.goM ?_)
   refine aF.eq1 (ak.tmp rfl) ?_;have:bq (sgn true n)= -1:=by unfold bq sgn;simp;omega
   rw[this]
theorem aqK(neg:Bool)(n:Nat):sgn (!neg) n= -sgn neg n:=by unfold sgn;cases neg <;> simp
theorem zNeg{l:List Atom}{z:Int}{k:Nat}[h:ZI l z k](hk:k≤1099511627775):ah prog 55 [.agg l] (.agg (zN (-z))):=by
 refine z1 ⟨_,func55,rfl,rfl⟩ fun neg n hz hn=>?_
 subst hz;rw[←aqK];refine ah.fn func55 results55 ntmps55 rfl rfl rfl (by simp[AV.ids,AV0.ids,Atom.ids]) rfl (fun w0 T B E0 hB=>?_)
 repeat(first|refine SX.goM ?_|(refine SX.Go1.is ?_;refine SX.Go1.dY ?_;first
    |refine SX.Go1.call rfl (qQ _ hk) rfl rfl ?_))
 exact aF.eq1 (ak.iV rfl rfl rfl) rfl
end
section
attribute [local irreducible] IntKind.wrap bitLen ku nval Go1 Reg WP aR aU bR aF ak aj aY Sat
attribute [local irreducible] sgn bq
theorem amM(z:Int)(h0:0≤z)(h1:z < 18446744073709551616):ah prog 60 [.v (.int .u64 z)] (.r (bI z.natAbs)):=by
 have:=nOf z.natAbs (by rw[bV];omega)
 rwa [show ((z.natAbs:Nat):Int)=z by omega]at this
theorem zOf(z:Int)(h1: -9223372036854775808≤z)(h2:z≤9223372036854775807):ah prog 18 [.v (.int .i64 z)] (.agg (zN z)):=by
 have hb:NI (.sat (bI z.natAbs)) z.natAbs 1:=NI.acC (att z h1 h2);refine ah.fn func18 results18 ntmps18 rfl rfl rfl (by simp[AV.ids,AV0.ids,Atom.ids]) rfl (fun w0 T B E0 hB=>?_)
 repeat(first|refine SX.goM ?_)
 refine WP.cond rfl (fun hc=>?_) (fun hc=>?_)
 ·have hz:z < 0:=by simpa using hc
  have hw:IntKind.u64.wrap (0 - IntKind.u64.wrap z)=(z.natAbs:Int):=by
   simp only[IntKind.wrap,IntKind.bits,IntKind.signed];simp;omega
  have hs:sgn true z.natAbs=z:=by unfold sgn;simp;omega
  have hcc:=nOf (z.natAbs) (by rw[bV];omega)
  repeat(first|refine SX.goM ?_|(refine SX.Go1.is ?_;refine SX.Go1.dY ?_;first
     |refine SX.Go1.call rfl (hcc) rfl rfl ?_
     |refine SX.Go1.call rfl (qQ true (by omega)) rfl rfl ?_))
  rw[hs];exact aF.eq1 (ak.iV rfl rfl rfl) rfl
 ·have hz:0≤z:=by simpa using hc
  have hw:IntKind.u64.wrap z=(z.natAbs:Int):=by
   simp only[IntKind.wrap,IntKind.bits,IntKind.signed];simp;omega
  have hs:sgn false z.natAbs=z:=by unfold sgn;simp;omega
  have hcc:=nOf (z.natAbs) (by rw[bV];omega)
  repeat(first|refine SX.goM ?_|(refine SX.Go1.is ?_;refine SX.Go1.dY ?_;first
     |refine SX.Go1.call rfl (hcc) rfl rfl ?_
     |refine SX.Go1.call rfl (amM _ hz (by omega)) rfl rfl ?_
     |refine SX.Go1.call rfl (qQ false (by omega)) rfl rfl ?_))
  rw[hs];exact aF.eq1 (ak.iV rfl rfl rfl) rfl
theorem ac7(neg:Bool)(n m:Nat):sgn neg (n+m)=sgn neg n+sgn neg m:=by unfold sgn;split <;> omega
theorem afG(neg:Bool){n m:Nat}(h:m≤n):sgn neg (n - m)=sgn neg n+sgn (!neg) m:=by unfold sgn;cases neg <;> simp <;> omega
theorem agZ(neg:Bool){n m:Nat}(h:n≤m):sgn (!neg) (m - n)=sgn neg n+sgn (!neg) m:=by unfold sgn;cases neg <;> simp <;> omega
theorem zAdd{l l':List Atom}{x y:Int}{k m:Nat}[h:ZI l x k][h':ZI l' y m](hk:k+m≤1099511627774):ah prog 88 [.agg l,.agg l'] (.agg (zN (x+y))):=by
 refine z2 ⟨_,func88,rfl,rfl⟩ fun neg n neg2 n2 hz hz2 hn hn2=>?_
 subst hz hz2;refine ah.fn func88 results88 ntmps88 rfl rfl rfl (by simp[AV.ids,AV0.ids,Atom.ids]) rfl (fun w0 T B E0 hB=>?_)
 repeat(first|refine SX.goM ?_)
 refine WP.cond rfl (fun hc=>?_) (fun hc=>?_)
 ·have hq:neg=neg2:=by simpa using hc
  subst hq;repeat(first|refine SX.goM ?_|(refine SX.Go1.is ?_;refine SX.Go1.dY ?_;first
     |refine SX.Go1.call rfl (nAdd (by omega)) rfl rfl ?_
     |refine SX.Go1.call rfl (qQ _ (by omega)) rfl rfl ?_))
  rw[←ac7];exact aF.eq1 (ak.iV rfl rfl rfl) rfl
 ·have hq:neg2=!neg:=by cases neg <;> cases neg2 <;> simp_all
  subst hq;repeat(first|refine SX.goM ?_|(refine SX.Go1.is ?_;refine SX.Go1.dY ?_;first
     |refine SX.Go1.call rfl (nSub (by omega)) rfl rfl ?_))
  refine WP.cond rfl (fun hc2=>?_) (fun hc2=>?_)
  ·have hle:n2≤n:=by simpa using hc2
   repeat(first|refine SX.goM ?_|(refine SX.Go1.is ?_;refine SX.Go1.dY ?_;first
      |refine SX.Go1.call rfl (qQ _ (by omega)) rfl rfl ?_))
   rw[←afG neg hle];exact aF.eq1 (ak.iV rfl rfl rfl) rfl
  ·have hle:n≤n2:=by simp at hc2;omega
   repeat(first|refine SX.goM ?_|(refine SX.Go1.is ?_;refine SX.Go1.dY ?_;first
      |refine SX.Go1.call rfl (nSub (by omega)) rfl rfl ?_
      |refine SX.Go1.call rfl (qQ _ (by omega)) rfl rfl ?_))
   rw[←agZ neg hle];exact aF.eq1 (ak.iV rfl rfl rfl) rfl
theorem zSub{l l':List Atom}{x y:Int}{k m:Nat}[h:ZI l x k][h':ZI l' y m](hk:k+m≤1099511627774):ah prog 75 [.agg l,.agg l'] (.agg (zN (x - y))):=by
 refine z2 ⟨_,func75,rfl,rfl⟩ fun neg n neg2 n2 hz hz2 hn hn2=>?_
 subst hz hz2;rw[Int.sub_eq_add_neg];refine ah.fn func75 results75 ntmps75 rfl rfl rfl (by simp[AV.ids,AV0.ids,Atom.ids]) rfl (fun w0 T B E0 hB=>?_)
 repeat(first|refine SX.goM ?_|(refine SX.Go1.is ?_;refine SX.Go1.dY ?_;first
    |refine SX.Go1.call rfl (zNeg (by omega)) rfl rfl ?_
    |refine SX.Go1.call rfl (zAdd (by omega)) rfl rfl ?_))
 exact aF.eq1 (ak.iV rfl rfl rfl) rfl
theorem apz(a b:Bool)(n m:Nat):sgn (!(a==b)) (n*m)=sgn a n*sgn b m:=by unfold sgn;cases a <;> cases b <;> simp[Int.neg_mul,Int.mul_neg]
theorem zMul{l l':List Atom}{x y:Int}{k m:Nat}[h:ZI l x k][h':ZI l' y m](hk:k+m≤274877906944):ah prog 58 [.agg l,.agg l'] (.agg (zN (x*y))):=by
 refine z2 ⟨_,func58,rfl,rfl⟩ fun neg n neg2 n2 hz hz2 hn hn2=>?_
 subst hz hz2;rw[←apz];refine ah.fn func58 results58 ntmps58 rfl rfl rfl (by simp[AV.ids,AV0.ids,Atom.ids]) rfl (fun w0 T B E0 hB=>?_)
 repeat(first|refine SX.goM ?_|(refine SX.Go1.is ?_;refine SX.Go1.dY ?_;first
    |refine SX.Go1.call rfl (mMul (by omega)) rfl rfl ?_
    |refine SX.Go1.call rfl (qQ _ (by omega)) rfl rfl ?_))
 exact aF.eq1 (ak.iV rfl rfl rfl) rfl
def yC(x y:Int):Int:=if x < y then -1 else if x=y then 0 else 1
theorem ajB(n m:Nat):yC (sgn true n) (sgn true m)=ku m n:=by
 unfold yC sgn ku;simp;repeat' split <;> omega
theorem alM(n m:Nat):yC (sgn false n) (sgn false m)=ku n m:=by
 unfold yC sgn ku;simp;repeat' split <;> omega
theorem zCmp{l l':List Atom}{x y:Int}{k m:Nat}[h:ZI l x k][h':ZI l' y m](hk:k+m≤1099511627774):ah prog 119 [.agg l,.agg l'] (.v (.int .i64 (yC x y))):=by
 refine z2 ⟨_,func119,rfl,rfl⟩ fun neg n neg2 n2 hz hz2 hn hn2=>?_
 subst hz hz2;refine ah.fn func119 results119 ntmps119 rfl rfl rfl (by simp[AV.ids,AV0.ids,Atom.ids]) rfl (fun w0 T B E0 hB=>?_)
 repeat(first|refine SX.goM ?_|(refine SX.Go1.is ?_;refine SX.Go1.dY ?_;first
    |refine SX.Go1.call rfl (aiu (by omega)) rfl rfl ?_))
 have hx:bq (sgn neg n) < 0↔sgn neg n < 0:=by unfold bq;repeat' split <;> omega
 have hx0:0 < bq (sgn neg n)↔0 < sgn neg n:=by unfold bq;repeat' split <;> omega
 have hy:bq (sgn neg2 n2) < 0↔sgn neg2 n2 < 0:=by unfold bq;repeat' split <;> omega
 have hy0:0 < bq (sgn neg2 n2)↔0 < sgn neg2 n2:=by unfold bq;repeat' split <;> omega
 have hxr: -1≤bq (sgn neg n)∧bq (sgn neg n)≤1:=by unfold bq;repeat' split <;> omega
 have hyr: -1≤bq (sgn neg2 n2)∧bq (sgn neg2 n2)≤1:=by unfold bq;repeat' split <;> omega
 refine WP.cond rfl (fun hc=>?_) (fun hc=>?_)
 ·repeat(first|refine SX.goM ?_)
  refine aF.eq1 (ak.tmp rfl) ?_;have:yC (sgn neg n) (sgn neg2 n2)= -1:=by unfold yC;rw[if_pos (by simp at hc;omega)]
  rw[this]
 ·repeat(first|refine SX.goM ?_)
  refine WP.cond rfl (fun hc2=>?_) (fun hc2=>?_)
  ·repeat(first|refine SX.goM ?_)
   refine aF.eq1 (ak.tmp rfl) ?_;have:yC (sgn neg n) (sgn neg2 n2)=1:=by unfold yC;rw[if_neg (by simp at hc2;omega),if_neg (by simp at hc2;omega)]
   rw[this]
  ·repeat(first|refine SX.goM ?_)
   refine WP.cond rfl (fun hc3=>?_) (fun hc3=>?_)
   ·have e1:sgn neg n=sgn true n:=by simp at hc hc2 hc3;unfold sgn at*;cases neg <;> simp at* <;> omega
    have e2:sgn neg2 n2=sgn true n2:=by simp at hc hc2 hc3;unfold sgn at*;cases neg2 <;> simp at* <;> omega
    repeat(first|refine SX.goM ?_|(refine SX.Go1.is ?_;refine SX.Go1.dY ?_;first
       |refine SX.Go1.call rfl (nCmp (by omega)) rfl rfl ?_))
    rw[e1,e2,ajB];exact aF.eq1 (ak.tmp rfl) rfl
   ·have e1:sgn neg n=sgn false n:=by simp at hc hc2 hc3;unfold sgn at*;cases neg <;> simp at* <;> omega
    have e2:sgn neg2 n2=sgn false n2:=by simp at hc hc2 hc3;unfold sgn at*;cases neg2 <;> simp at* <;> omega
    repeat(first|refine SX.goM ?_|(refine SX.Go1.is ?_;refine SX.Go1.dY ?_;first
       |refine SX.Go1.call rfl (nCmp (by omega)) rfl rfl ?_))
    rw[e1,e2,alM];exact aF.eq1 (ak.tmp rfl) rfl
theorem akJ(x y:Int):decide (yC x y=0)=decide (x=y):=by
 unfold yC;rw[decide_eq_decide];repeat' split <;> omega
theorem zSame{l l':List Atom}{x y:Int}{k m:Nat}[h:ZI l x k][h':ZI l' y m](hk:k+m≤1099511627774):ah prog 72 [.agg l,.agg l'] (.v (.bool (decide (x=y)))):=by
 refine z2 ⟨_,func72,rfl,rfl⟩ fun neg n neg2 n2 hz hz2 hn hn2=>?_
 subst hz hz2;rw[←akJ];refine ah.fn func72 results72 ntmps72 rfl rfl rfl (by simp[AV.ids,AV0.ids,Atom.ids]) rfl (fun w0 T B E0 hB=>?_)
 repeat(first|refine SX.goM ?_|(refine SX.Go1.is ?_;refine SX.Go1.dY ?_;first
    |refine SX.Go1.call rfl (zCmp (by omega)) rfl rfl ?_))
 exact aF.eq1 (ak.tmp rfl) rfl
theorem zBits{l:List Atom}{z:Int}{k:Nat}[h:ZI l z k](hk:k≤1099511627775):ah prog 314 [.agg l] (.v (.int .i64 (bitLen z.natAbs:Int))):=by
 refine z1 ⟨_,func314,rfl,rfl⟩ fun neg n hz hn=>?_
 subst hz;rw[gJ];refine ah.fn func314 results314 ntmps314 rfl rfl rfl (by simp[AV.ids,AV0.ids,Atom.ids]) rfl (fun w0 T B E0 hB=>?_)
 repeat(first|refine SX.goM ?_|(refine SX.Go1.is ?_;refine SX.Go1.dY ?_;first
    |refine SX.Go1.call rfl (af2 (by omega)) rfl rfl ?_))
 exact aF.eq1 (ak.tmp rfl) rfl
def mJ(z:Int):Bool:=decide (-9223372036854775808≤z)&&decide (z≤9223372036854775807)
def rW(z:Int):Int:=if mJ z then z else 0
theorem aty{l:List Atom}{z:Int}{k:Nat}[h:ZI l z k](hk:k≤1099511627775):ah prog 228 [.agg l] (.tup [.one (.c (.val (.int .i64 (rW z)))),.one (.c (.val (.bool (mJ z))))]):=by
 refine z1 ⟨_,func228,rfl,rfl⟩ fun neg n hz hn=>?_
 subst hz;refine ah.fn func228 results228 ntmps228 rfl rfl rfl (by simp[AV.ids,AV0.ids,Atom.ids]) rfl (fun w0 T B E0 hB=>?_)
 repeat(first|refine SX.goM ?_|(refine SX.Go1.is ?_;refine SX.Go1.dY ?_;first
    |refine SX.Go1.call rfl (arb (by omega)) rfl rfl ?_
    |refine SX.Go1.call rfl (aiu (by omega)) rfl rfl ?_))
 have hsg:decide (bq (sgn neg n) < 0)=decide (sgn neg n < 0):=by
  rw[decide_eq_decide];unfold bq;repeat' split <;> omega
 have hab:=gJ neg n;have hW:=bV;generalize sgn neg n=z at*;generalize hd:decide (bq z < 0)=s at*;generalize hX:(if n < WB then n else 0)=X at*
 refine WP.cond rfl (fun hc=>?_) (fun hc=>?_)
 ·have hb:mJ z=false:=by unfold mJ;simp at hc ⊢;omega
  repeat(first|refine SX.goM ?_)
  refine aF.eq2 (ak.tmp rfl) (ak.tmp rfl) ?_ ?_
  ·unfold rW;rw[hb];rfl
  ·rw[hb]
 ·have hlt:n < WB:=by simpa using hc
  rw[if_pos hlt]at hX;subst hX;cases s with
  |true=>
   have hz:z < 0:=by simpa using hsg.symm
   repeat(first|refine SX.goM ?_)
   refine WP.cond rfl (fun hc=>?_) (fun hc=>?_)
   ·have hb:mJ z=false:=by unfold mJ;simp at hc ⊢;omega
    repeat(first|refine SX.goM ?_)
    refine aF.eq2 (ak.tmp rfl) (ak.tmp rfl) ?_ ?_
    ·unfold rW;rw[hb];rfl
    ·rw[hb]
   ·have hb:mJ z=true:=by unfold mJ;simp at hc ⊢;omega
    repeat(first|refine SX.goM ?_)
    refine aF.eq2 (ak.tmp rfl) (ak.tmp rfl) ?_ ?_
    ·have e:rW z=z:=by unfold rW;rw[hb];rfl
     have e2:IntKind.i64.wrap (0 - IntKind.i64.wrap (n:Int))=z:=by simp at hc;simp only[IntKind.wrap_i64];omega
     rw[e,e2]
    ·rw[hb]
  |false=>
   have hz:0≤z:=by simpa using hsg.symm
   repeat(first|refine SX.goM ?_)
   refine WP.cond rfl (fun hc=>?_) (fun hc=>?_)
   ·have hb:mJ z=false:=by unfold mJ;simp at hc ⊢;omega
    repeat(first|refine SX.goM ?_)
    refine aF.eq2 (ak.tmp rfl) (ak.tmp rfl) ?_ ?_
    ·unfold rW;rw[hb];rfl
    ·rw[hb]
   ·have hb:mJ z=true:=by unfold mJ;simp at hc ⊢;omega
    repeat(first|refine SX.goM ?_)
    refine aF.eq2 (ak.tmp rfl) (ak.tmp rfl) ?_ ?_
    ·have e:rW z=z:=by unfold rW;rw[hb];rfl
     have e2:IntKind.i64.wrap (n:Int)=z:=by simp at hc;simp only[IntKind.wrap_i64];omega
     rw[e,e2]
    ·rw[hb]
end
section
attribute [local irreducible] IntKind.wrap bitLen ku nval Go1 Reg WP aR aU bR aF ak aj aY Sat
def rR(x y:Int):Int:=if y=0 then 0 else x.tmod y
theorem aqv(a b:Bool)(n m:Nat):sgn (!(a==b)) (n / m)=(sgn a n).tdiv (sgn b m):=by
 unfold sgn;cases a <;> cases b <;> simp[Int.neg_tdiv,Int.tdiv_neg]
theorem pY{b:Bool}{m:Nat}:sgn b m=0↔m=0:=by unfold sgn;cases b <;> simp
theorem apv(a b:Bool)(n m:Nat):sgn a (if m=0 then 0 else n % m)=rR (sgn a n) (sgn b m):=by
 unfold rR;by_cases h:m=0
 ·rw[if_pos h,if_pos (pY.2 h)];cases a <;> rfl
 ·rw[if_neg h,if_neg (fun e=>h (pY.1 e))]
  unfold sgn;cases a <;> cases b <;> simp[Int.neg_tmod,Int.tmod_neg,Int.tmod_eq_emod_of_nonneg (Int.natCast_nonneg n)]
instance Bd.tdiv(x y:Int)(k:Nat)[h:Bd x k]:Bd (x.tdiv y) k:=⟨by rw[Int.natAbs_tdiv];exact Nat.lt_of_le_of_lt (Nat.div_le_self _ _) h.h⟩
instance Bd.rR(x y:Int)(k:Nat)[h:Bd x k]:Bd (rR x y) k:=⟨by
 unfold Proofs.YtjnhnbgpifohjaaGreatDoor.rR
 split
 ·exact Nat.lt_of_lt_of_le (by decide) (fF k)
 ·rw[Int.natAbs_tmod];exact Nat.lt_of_le_of_lt (Nat.mod_le _ _) h.h⟩
attribute [local irreducible] sgn bq rR
theorem zQuo{l l':List Atom}{x y:Int}{k m:Nat}[h:ZI l x k][h':ZI l' y m](hk:k+m≤1099511627770):ah prog 205 [.agg l,.agg l'] (.tup [.agg (zN (x.tdiv y)),.agg (zN (rR x y)),.one (.c (.val (.bool (decide (y≠0)))))]):=by
 refine z2 ⟨_,func205,rfl,rfl⟩ fun neg n neg2 n2 hz hz2 hn hn2=>?_
 subst hz hz2;rw[←aqv,←apv,show decide (sgn neg2 n2≠0)=decide (n2≠0)by rw[decide_eq_decide,ne_eq,ne_eq,pY]]
 refine ah.fn func205 results205 ntmps205 rfl rfl rfl (by simp[AV.ids,AV0.ids,Atom.ids]) rfl (fun w0 T B E0 hB=>?_)
 repeat(first|refine SX.goM ?_|(refine SX.Go1.is ?_;refine SX.Go1.dY ?_;first
    |refine SX.Go1.call rfl (acO (by omega)) rfl rfl ?_
    |refine SX.Go1.call rfl (qQ _ (by omega)) rfl rfl ?_))
 exact aF.eq3 (ak.iV rfl rfl rfl) (ak.iV rfl rfl rfl) (ak.tmp rfl) rfl rfl rfl
def zfq(x y:Int):Int:=if y=0 then 0 else x.fdiv y
def zfr(x y:Int):Int:=if y=0 then 0 else x.fmod y
theorem zU{x y:Int}(hy:y≠0)(h:x.tmod y*y < 0):x.tdiv y - 1=x.fdiv y∧x.tmod y+y=x.fmod y:=by
 have h1:=Int.tmod_add_mul_tdiv x y;have h2:=Int.fmod_add_mul_fdiv x y;have hq:x.tdiv y - 1=x.fdiv y:=by
  have h0:¬y ∣ x:=fun hd=>by rw[Int.tmod_eq_zero_of_dvd hd]at h;simp at h
  rw[Int.tdiv_eq_ediv,Int.fdiv_eq_ediv];have hs:(x.tmod y < 0∧0 < y)∨(0 < x.tmod y∧y < 0):=by
   rcases Int.lt_trichotomy (x.tmod y) 0 with ha|ha|ha
   ·refine .inl ⟨ha,?_⟩;rcases Int.lt_trichotomy y 0 with hb|hb|hb
    ·have:=Int.mul_pos_of_neg_of_neg ha hb;omega
    ·exact absurd hb hy
    ·exact hb
   ·rw[ha]at h;simp at h
   ·refine .inr ⟨ha,?_⟩;rcases Int.lt_trichotomy y 0 with hb|hb|hb
    ·exact hb
    ·exact absurd hb hy
    ·have:=Int.mul_pos ha hb;omega
  rcases hs with⟨a,b⟩|⟨a,b⟩
  ·have hx:x < 0:=by
    rcases Int.lt_or_le x 0 with hx|hx
    ·exact hx
    ·have:=Int.tmod_nonneg y hx;omega
   rw[if_neg (by simp[h0];omega),if_pos (by left;omega)]
   rw[Int.sign_eq_one_of_pos b];omega
  ·have hx:0 < x:=by
    rcases Int.lt_or_le 0 x with hx|hx
    ·exact hx
    ·have:=Int.tmod_nonneg y (show 0≤ -x by omega);rw[Int.neg_tmod]at this;omega
   rw[if_pos (by left;omega),if_neg (by simp[h0];omega)];omega
 refine⟨hq,?_⟩;rw[←hq,Int.mul_sub]at h2;omega
theorem aa0{x y:Int}(hy:y≠0)(h:¬x.tmod y*y < 0):x.tdiv y=x.fdiv y∧x.tmod y=x.fmod y:=by
 have h1:=Int.tmod_add_mul_tdiv x y;have h2:=Int.fmod_add_mul_fdiv x y;have hq:x.tdiv y=x.fdiv y:=by
  rw[Int.tdiv_eq_ediv,Int.fdiv_eq_ediv];by_cases hd:y ∣ x
  ·rw[if_pos (.inr hd),if_pos (.inr hd)];omega
  ·have h0:x.tmod y≠0:=fun e=>hd (Int.dvd_of_tmod_eq_zero e)
   rcases Int.lt_trichotomy y 0 with hb|hb|hb
   ·have:x.tmod y < 0:=by
     rcases Int.lt_trichotomy (x.tmod y) 0 with ha|ha|ha
     ·exact ha
     ·exact absurd ha h0
     ·have:=Int.mul_neg_of_pos_of_neg ha hb;omega
    have hx:x < 0:=by
     rcases Int.lt_or_le x 0 with hx|hx
     ·exact hx
     ·have:=Int.tmod_nonneg y hx;omega
    rw[if_neg (by simp[hd];omega),if_neg (by simp[hd];omega),Int.sign_eq_neg_one_of_neg hb];omega
   ·exact absurd hb hy
   ·have:0 < x.tmod y:=by
     rcases Int.lt_trichotomy (x.tmod y) 0 with ha|ha|ha
     ·have:=Int.mul_neg_of_neg_of_pos ha hb;omega
     ·exact absurd ha h0
     ·exact ha
    have hx:0≤x:=by
     rcases Int.lt_or_le x 0 with hx|hx
     ·have:=Int.tmod_nonneg y (show 0≤ -x by omega);rw[Int.neg_tmod]at this;omega
     ·exact hx
    rw[if_pos (.inl hx),if_pos (.inl (by omega))];omega
 refine⟨hq,?_⟩;rw[←hq]at h2;omega
instance Bd.zfq(x y:Int)(k:Nat)[h:Bd x k]:Bd (zfq x y) (k+1+1):=⟨by
 unfold Proofs.YtjnhnbgpifohjaaGreatDoor.zfq
 split
 ·exact Nat.lt_of_lt_of_le (by decide) (fF _)
 ·by_cases h0:x.tmod y*y < 0
  ·rw[←(zU (by assumption) h0).1];exact(Bd.sub (x.tdiv y) 1 k 1).h
  ·rw[←(aa0 (by assumption) h0).1];exact Bd.mono (Bd.tdiv x y k).h (by omega)⟩
instance Bd.zfr(x y:Int)(k m:Nat)[h:Bd x k][h':Bd y m]:Bd (zfr x y) (k+m+1):=⟨by
 unfold Proofs.YtjnhnbgpifohjaaGreatDoor.zfr
 split
 ·exact Nat.lt_of_lt_of_le (by decide) (fF _)
 ·have hb:Bd (x.tmod y) k:=⟨by rw[Int.natAbs_tmod];exact Nat.lt_of_le_of_lt (Nat.mod_le _ _) h.h⟩
  by_cases h0:x.tmod y*y < 0
  ·rw[←(zU (by assumption) h0).2];exact(Bd.add (x.tmod y) y k m).h
  ·rw[←(aa0 (by assumption) h0).2];exact Bd.mono hb.h (by omega)⟩
attribute [local irreducible] zfq zfr
theorem ag7(z:Int):decide (bq z=0)=decide (z=0):=by
 rw[decide_eq_decide];unfold bq;repeat' split <;> omega
end
section
attribute [local irreducible] IntKind.wrap bitLen ku nval Go1 Reg WP aR aU bR aF ak aj aY Sat
attribute [local irreducible] sgn bq rR zfq zfr
def acB(x y:Int):Int:=if y < 0 then zfq (-x+ -x+ -y) (-y+ -y)else zfq (x+x+y) (y+y)
theorem zN0:AV0.imp (.agg [.c (.val (.bool false)),.c (.val (.slice none 0 0))]) (.agg (zN 0)):=by
 rintro E S w v ⟨vs,hv,hall⟩
 match vs,hall with
 |[a,b],⟨h1,h2,_⟩=>
  refine⟨[a,b],hv,h1,?_,trivial⟩;rw[show b=_ from h2]
  exact bI.zero
def nK(x y:Int):Bool:=decide (y≠0)&&decide (rR x y=0)
def fZ(x y:Int):Int:=if nK x y then x.tdiv y else 0
instance Bd.fZ(x y:Int)(k:Nat)[h:Bd x k]:Bd (fZ x y) k:=⟨by
 unfold Proofs.YtjnhnbgpifohjaaGreatDoor.fZ
 split
 ·exact(Bd.tdiv x y k).h
 ·exact Nat.lt_of_lt_of_le (by decide) (fF _)⟩
theorem asF{l l':List Atom}{x y:Int}{k m:Nat}[h:ZI l x k][h':ZI l' y m](hk:k+m≤1099511627760):ah prog 109 [.agg l,.agg l'] (.tup [.agg (zN (fZ x y)),.one (.c (.val (.bool (nK x y))))]):=by
 refine z2 ⟨_,func109,rfl,rfl⟩ fun neg n neg2 n2 hz hz2 hn hn2=>?_
 refine ah.fn func109 results109 ntmps109 rfl rfl rfl (by simp[AV.ids,AV0.ids,Atom.ids]) rfl (fun w0 T B E0 hB=>?_)
 by_cases hy:y=0
 ·have hok:decide (y≠0)=false:=by simp[hy]
  have hok2:(!decide (y≠0))=true:=by simp[hy]
  have he:nK x y=false:=by unfold nK;rw[hok];rfl
  have hq:fZ x y=0:=by unfold fZ;rw[he];rfl
  rw[he,hq];rw[hz2]at hok hok2;subst hz hz2;repeat(first|refine SX.goM ?_|(refine SX.Go1.is ?_;refine SX.Go1.dY ?_;first
     |refine SX.Go1.call rfl (zQuo (by omega)) rfl rfl ?_))
  exact aF.mk2 (ak.imp (ak.iV rfl rfl rfl) zN0) (ak.tmp rfl)
 ·have hok:decide (y≠0)=true:=by simp[hy]
  have hok2:(!decide (y≠0))=false:=by simp[hy]
  rw[hz2]at hok hok2;subst hz hz2;repeat(first|refine SX.goM ?_|(refine SX.Go1.is ?_;refine SX.Go1.dY ?_;first
     |refine SX.Go1.call rfl (zQuo (by omega)) rfl rfl ?_
     |refine SX.Go1.call rfl (aiu (by omega)) rfl rfl ?_))
  have hne:decide (bq (rR (sgn neg n) (sgn neg2 n2))≠0)=decide (rR (sgn neg n) (sgn neg2 n2)≠0):=by
   have:=ag7 (rR (sgn neg n) (sgn neg2 n2));rw[decide_eq_decide]at*;omega
  rw[hne];refine WP.cond rfl (fun hc=>?_) (fun hc=>?_)
  ·have hz0:rR (sgn neg n) (sgn neg2 n2)≠0:=by simpa using hc
   have he:nK (sgn neg n) (sgn neg2 n2)=false:=by unfold nK;simp[hz0]
   have hq:fZ (sgn neg n) (sgn neg2 n2)=0:=by unfold fZ;rw[he];rfl
   rw[he,hq];repeat(first|refine SX.goM ?_)
   exact aF.mk2 (ak.imp (ak.iV rfl rfl rfl) zN0) (ak.tmp rfl)
  ·have hz0:rR (sgn neg n) (sgn neg2 n2)=0:=by simpa using hc
   have he:nK (sgn neg n) (sgn neg2 n2)=true:=by unfold nK;rw[hok];simp[hz0]
   have hq:fZ (sgn neg n) (sgn neg2 n2)=(sgn neg n).tdiv (sgn neg2 n2):=by unfold fZ;rw[he];rfl
   rw[he,hq];repeat(first|refine SX.goM ?_)
   exact aF.mk2 (ak.iV rfl rfl rfl) (ak.tmp rfl)
theorem aj0(n:Nat):sgn false n=(n:Int):=by unfold sgn;simp
theorem zGcd{l l':List Atom}{x y:Int}{k m:Nat}[h:ZI l x k][h':ZI l' y m](hk:k+m≤1099511627760):ah prog 89 [.agg l,.agg l'] (.agg (zN (Int.gcd x y:Int))):=by
 refine z2 ⟨_,func89,rfl,rfl⟩ fun neg n neg2 n2 hz hz2 hn hn2=>?_
 subst hz hz2;rw[show (Int.gcd (sgn neg n) (sgn neg2 n2):Int)=sgn false (Nat.gcd n n2)by rw[aj0];unfold Int.gcd;rw[gJ,gJ]]
 refine ah.fn func89 results89 ntmps89 rfl rfl rfl (by simp[AV.ids,AV0.ids,Atom.ids]) rfl (fun w0 T B E0 hB=>?_)
 repeat(first|refine SX.goM ?_|(refine SX.Go1.is ?_;refine SX.Go1.dY ?_;first
    |refine SX.Go1.call rfl (dGcd (by omega)) rfl rfl ?_
    |refine SX.Go1.call rfl (qQ _ (by omega)) rfl rfl ?_))
 exact aF.eq1 (ak.iV rfl rfl rfl) rfl
instance BdN.igcd(x y:Int)(k m:Nat)[hx:Bd x k][hy:Bd y m]:BdN (Int.gcd x y) (k+m):=⟨(BdN.gcd x.natAbs y.natAbs k m).h⟩
end
section
attribute [local irreducible] IntKind.wrap bitLen ku nval Go1 Reg WP aR aU bR aF ak aj aY Sat
theorem apX{a:CA}{x k:Nat}[ha:NI a x k](hk:k+k≤274877906944):ah prog 572 [.it (.one (.c a))] (.r (bI (x*x))):=by
 refine ah.fn func572 results572 ntmps572 rfl rfl rfl (by simp[AV.ids,AV0.ids,Atom.ids]) rfl (fun w0 T B E0 hB=>?_)
 repeat(first|refine SX.goM ?_|(refine SX.Go1.is ?_;refine SX.Go1.dY ?_;first
    |refine SX.Go1.call rfl (mMul (by omega)) rfl rfl ?_))
 exact aF.eq1 (ak.tmp rfl) rfl
def abI(x:Nat)(n:Int):Bool:=decide (0≤n)&&(decide (bitLen x=0)||decide (n≤((1048576 / bitLen x:Nat):Int)))
def afX(x:Nat)(n:Int):Nat:=if abI x n=true then x ^ n.toNat else 0
theorem asJ{x e N b K W:Nat}(hW:1 < W)(hx:x < 2 ^ b)(he:e≤N)(hN:N*b≤64*K)(hK:0 < K)(hw:W=2 ^ 64):x ^ e < W ^ K:=by
 subst hw;rw[←Nat.pow_mul];cases e with
 |zero=>rw[Nat.pow_zero];exact Nat.one_lt_two_pow (by omega)
 |succ e=>
  refine Nat.lt_of_lt_of_le (Nat.pow_lt_pow_left hx (by omega)) ?_
  rw[←Nat.pow_mul];exact Nat.pow_le_pow_right (by omega) (Nat.le_trans (by rw[Nat.mul_comm];exact Nat.mul_le_mul_right b he) hN)
@[irreducible] def pwK:Nat:=16384
theorem alc:pwK=16384:=by unfold pwK;rfl
theorem atm{x e N:Nat}(he:e≤N)(hN:N*bitLen x≤1048576):BdN (x ^ e) pwK:=⟨asJ (K:=pwK) qL (bitLen_spec x).1 he (by rw[alc];omega) (by rw[alc];omega) jG⟩
attribute [local irreducible] abI afX
theorem aiZ(x:Nat)(n:Int):afX x n < WB ^ pwK:=by
 unfold afX
 split
 ·rename_i h;unfold abI at h;simp only[Bool.and_eq_true,Bool.or_eq_true,decide_eq_true_eq]at h;refine(atm (N:=n.toNat) (Nat.le_refl _) ?_).h;rcases h.2 with hb|hb
  ·rw[hb];omega
  ·have h5:n.toNat≤1048576 / bitLen x:=by omega
   exact Nat.le_trans (Nat.mul_le_mul_right _ h5) (Nat.div_mul_le_self ..)
 ·exact Nat.lt_of_lt_of_le (by decide) (fF pwK)
instance BdN.afX(x:Nat)(n:Int):BdN (afX x n) pwK:=⟨aiZ x n⟩
def abD(z:Int)(n:Int):Int:=if abI z.natAbs n=true then z ^ n.toNat else 0
theorem aqu(neg:Bool)(x:Nat)(n:Int):sgn (neg&&decide (n.tmod 2≠0)) (afX x n)=abD (sgn neg x) n:=by
 unfold afX abD;rw[gJ]
 split
 ·rename_i h;have h0:0≤n:=by unfold abI at h;simp at h;exact h.1
  have ht:n.tmod 2=((n.toNat % 2:Nat):Int):=by rw[Int.tmod_eq_emod_of_nonneg h0];omega
  unfold sgn;cases neg
  ·simp
  ·rcases Nat.mod_two_eq_zero_or_one n.toNat with e|e
   ·rw[ht,e];simp;rw[show (-(x:Int)) ^ n.toNat=(x:Int) ^ n.toNat from ?_]
    obtain⟨m,hm⟩:∃m,n.toNat=2*m:=⟨n.toNat / 2,by omega⟩
    rw[hm,Int.pow_mul,Int.pow_mul];congr 1;simp[Int.pow_succ,Int.neg_mul_neg]
   ·rw[ht,e];simp;obtain⟨m,hm⟩:∃m,n.toNat=2*m+1:=⟨n.toNat / 2,by omega⟩
    rw[hm,Int.pow_succ,Int.pow_succ,Int.pow_mul,Int.pow_mul,show (-(x:Int)) ^ 2=(x:Int) ^ 2 by simp[Int.pow_succ,Int.neg_mul_neg],Int.mul_neg]
 ·unfold sgn;simp
instance Bd.abD(z:Int)(n:Int):Bd (abD z n) pwK:=⟨by
 have h:=aqu (decide (z < 0)) z.natAbs n;rw[acD]at h;rw[←h,gJ];exact aiZ _ _⟩
attribute [local irreducible] sgn abD
end
section
def jk:Nat→Nat→List UInt8
 |0,_=>[]
 |n+1,x=>jk n (x / 10)++[UInt8.ofNat (48+x % 10)]
theorem vo:∀n x,(jk n x).length=n
 |0,_=>rfl
 |n+1,x=>by rw[jk,List.length_append,vo n];rfl
theorem adX:∀(m n x:Nat),jk (n+m) x=jk n (x / 10 ^ m)++jk m (x % 10 ^ m)
 |0,n,x=>by simp[jk]
 |m+1,n,x=>by
  have e1:x / 10 ^ (m+1)=x / 10 / 10 ^ m:=by rw[Nat.div_div_eq_div_mul,Nat.pow_succ,Nat.mul_comm]
  have e2:x % 10 ^ (m+1) / 10=x / 10 % 10 ^ m:=by rw[Nat.pow_succ,Nat.mul_comm,Nat.mod_mul_right_div_self]
  have e3:x % 10 ^ (m+1) % 10=x % 10:=by rw[Nat.pow_succ,Nat.mul_comm,Nat.mod_mul_right_mod]
  rw[←Nat.add_assoc,jk,adX m n,jk,e1,e2,e3,List.append_assoc]
def dig(x:Nat):List UInt8:=if h:x=0 then []else dig (x / 10)++[UInt8.ofNat (48+x % 10)]
decreasing_by omega
theorem jB:dig 0=[]:=by rw[dig];rfl
theorem nG{x:Nat}(h:x≠0):dig x=dig (x / 10)++[UInt8.ofNat (48+x % 10)]:=by rw[dig,dif_neg h]
theorem abq:∀n,(jk n 0).all (· ==48)=true
 |0=>rfl
 |n+1=>by rw[jk,List.all_append,show 0 / 10=0 from rfl,abq n];decide
theorem rX{p:UInt8→Bool}:∀{l:List UInt8},l.all p=true→∀m,(l++m).dropWhile p=m.dropWhile p
 |[],_,m=>rfl
 |a::l,h,m=>by
  rw[List.all_cons,Bool.and_eq_true]at h;rw[List.cons_append,List.dropWhile_cons,if_pos h.1];exact rX h.2 m
theorem uM{p:UInt8→Bool}:∀{l:List UInt8} (m:List UInt8),l.dropWhile p≠[]→(l++m).dropWhile p=l.dropWhile p++m
 |[],m,h=>absurd rfl h
 |a::l,m,h=>by
  rw[List.cons_append,List.dropWhile_cons,List.dropWhile_cons]at*;cases hp:p a
  ·simp
  ·simp only[hp,if_true]at h ⊢;exact uM m h
theorem agi{x:Nat}(h:x≠0):dig x≠[]:=by rw[nG h];simp
theorem aqM{d:Nat}(h0:d≠0)(h1:d < 10):(UInt8.ofNat (48+d)==48)=false:=by
 rw[beq_eq_false_iff_ne];intro e;have:=congrArg UInt8.toNat e;rw[UInt8.toNat_ofNat']at this;have h48:(48:UInt8).toNat=48:=rfl;omega
theorem xC:∀(n x:Nat),x < 10 ^ n→(jk n x).dropWhile (· ==48)=dig x
 |0,x,h=>by
  have:x=0:=by simpa using h
  subst this;rw[jB];rfl
 |n+1,x,h=>by
  have hx:x / 10 < 10 ^ n:=by rw[Nat.pow_succ]at h;omega
  have ih:=xC n (x / 10) hx;rw[jk];by_cases h0:x / 10=0
  ·rw[h0,rX (abq n)];by_cases hx0:x=0
   ·subst hx0;rw[jB];decide
   ·rw[nG hx0,h0,jB,List.dropWhile_cons,aqM (by omega) (by omega)];rfl
  ·rw[uM _ (by rw[ih];exact agi h0),ih,←nG (by omega)]
def nD:Nat→Nat
 |0=>18
 |j+1=>nD j+nD j
def pw(j:Nat):Nat:=10 ^ nD j
theorem ah2:pw 0=1000000000000000000:=rfl
theorem adn(j:Nat):pw (j+1)=pw j*pw j:=by unfold pw;rw[nD,Nat.pow_add]
theorem aoe(j:Nat):0 < pw j:=Nat.pow_pos (by decide)
theorem abt:∀j,j+18≤nD j
 |0=>Nat.le_refl _
 |j+1=>by have:=abt j;rw[nD];omega
instance BdN.pw(j:Nat):BdN (pw j) (nD j):=⟨by
 show 10 ^ nD j < WB ^ nD j;exact Nat.pow_lt_pow_left (by rw[bV];decide) (by have:=abt j;omega)⟩
theorem yX(j:Nat):nD j≤bitLen (pw j):=by
 have h:=(bitLen_spec (pw j)).1;have h2:2 ^ nD j≤pw j:=Nat.pow_le_pow_left (by decide) _
 exact Nat.le_of_lt ((Nat.pow_lt_pow_iff_right (by decide)).1 (Nat.lt_of_le_of_lt h2 h))
theorem adC{x k:Nat}(h:x < WB ^ k):bitLen x≤64*k:=by
 have hs:=(bitLen_spec x).2;by_cases h0:x=0
 ·subst h0;exact Nat.zero_le _
 ·have h1:=hs h0;have e:WB ^ k=2 ^ (64*k):=by rw[Nat.pow_mul];rfl
  rw[e]at h;have:=(Nat.pow_lt_pow_iff_right (a:=2) (by decide)).1 (Nat.lt_of_le_of_lt h1 h)
  omega
def pwM(x:Nat):Nat→Nat→Nat
 |0,j=>j
 |f+1,j=>if 2*bitLen (pw j)≤bitLen x+1 then pwM x f (j+1)else j
def pwm(x:Nat):Nat:=pwM x (bitLen x+2) 0
theorem akI{x j:Nat}(h:¬2*bitLen (pw j)≤bitLen x+1):x < pw (j+1):=by
 have h1:=(bitLen_spec x).1;have h2:=(bitLen_spec (pw j)).2 (Nat.ne_of_gt (aoe j));have h3:=yX j;have h4:=abt j;rw[adn];refine Nat.lt_of_lt_of_le h1 (Nat.le_trans ?_ (Nat.mul_le_mul h2 h2));rw[←Nat.pow_add];exact Nat.pow_le_pow_right (by decide) (by omega)
def aV(x:Nat):List UInt8:=if x=0 then [48]else dig x
theorem acK{x n:Nat}(h:x < 10 ^ n):(dig x).length≤n:=by
 rw[←xC n x h];exact Nat.le_trans (List.dropWhile_sublist _).length_le (Nat.le_of_eq (vo n x))
end
section
attribute [local irreducible] IntKind.wrap Go1 Reg WP aR aU bR bO aN aF ak aj aY Sat
attribute [local irreducible] jk pw nD pwM pwm aV
section
variable{a b:CA}{x y k m:Nat}
instance wY[ha:NI a x k]:Con prog 102 [.it (.one (.c a))] (k≤1099511627775) (.v (.int .i64 (bitLen x:Int))):=⟨fun h=>af2 h⟩
instance arv[ha:NI a x k]:Con prog 572 [.it (.one (.c a))] (k+k≤274877906944) (.r (bI (x*x))):=⟨fun h=>apX h⟩
end
theorem asI(x:Nat):jk 0 x=[]:=by unfold jk;rfl
theorem arP(n x:Nat):jk (n+1) x=jk n (x / 10)++[UInt8.ofNat (48+x % 10)]:=by rw[jk]
theorem pureS{f:FuncId}{args:List Value}{r:Value}(he:∃fn,prog.funcs[f]? =some fn∧(fn.name== "runtime.NumGoroutine")=false∧fn.body.isNone=false)(h:∀w,Calls prog f args.toArray w fun e w'=>e= .returned r∧w'=w):ah prog f (args.map AV.v) (.v r):=
 ah.iB he rfl fun E S w vs hl hv=>by
  have hvs:vs=args:=by
   clear h
   induction args generalizing vs with
   |nil=>cases vs with|nil=>rfl|cons _ _=>exact hv.elim
   |cons a l ih=>cases vs with|nil=>exact hv.elim|cons b m=>rw[ih m hv.2,show b=a from hv.1]
  subst hvs;exact(h w).mono fun e w' ⟨h1,h2⟩=>⟨r,h1,rfl,by subst h2;exact Off.refl _ _⟩
theorem asX(d:Nat):((UInt8.ofNat (48+d % 10)).toNat:Int)=((48+d % 10:Nat):Int):=by
 rw[UInt8.toNat_ofNat'];omega
theorem ao5(x:Nat)(hx:x < WB):nE prog 571 [.v (.int .u64 (x:Int))] 5 1 18 ((jk 18 x).flatMap jR):=by
 rw[bV]at hx;refine nE.fnF func571 results571 ntmps571 rfl rfl rfl (by simp[AV.ids,AV0.ids,Atom.ids]) (fun w0 T B E0 hB=>?_)
 refine SX.goM ?_;refine W.amH (fun(k y:Nat) (tl:List UInt8)=>k+tl.length=18∧y < 18446744073709551616∧jk k y++tl=jk 18 x) (fun k y tl=>[(0,.v (.int .u64 (y:Int))),(3,.own 100),(4,.v (.int .i64 ((k:Int) - 1)))])
  (fun k y tl=>[(100,.row 5 1 18 ((List.replicate k 0++tl).flatMap jR))]) (fun k _ _=>k) 18 x [] ⟨rfl,hx,by simp⟩ (fun k y tl ⟨hk,hy,hd⟩=>?_)
 cases k with
 |zero=>
  have e:(List.replicate 0 0++tl).flatMap jR=(jk 18 x).flatMap jR:=by rw[←hd,asI];rfl
  refine SX.goM ?_;exact retO
 |succ k=>
  rw[show ((k+1:Nat):Int) - 1=(k:Int)by omega]
  have e:spl ((List.replicate (k+1) 0++tl).flatMap jR) (k*1) [.val (.int .u8 ((48+y % 10:Nat):Int))]=(List.replicate k 0++(UInt8.ofNat (48+y % 10)::tl)).flatMap jR:=by
   rw[←asX,show [CA.val (.int .u8 ((UInt8.ofNat (48+y % 10)).toNat:Int))]=jR (UInt8.ofNat (48+y % 10))from rfl,pJ _ _ _ (by simp;omega),List.replicate_succ']
   congr 1
   rw[List.append_assoc,List.set_append_right _ _ (by simp)]
   simp
  refine SX.goM ?_
  -- ??
  exact W.anE k (y / 10) (UInt8.ofNat (48+y % 10)::tl) ⟨by simp at hk ⊢;omega,by omega,by rw[←hd,arP];simp⟩ (by omega)
def acI(n:Nat):List CA:=[.sat (bI n)]
instance:dH acI 1:=⟨fun _=>rfl⟩
def pws(j:Nat):List Nat:=(List.range j).map pw
theorem ado(j:Nat):(pws j).length=j:=by simp[pws]
theorem ai3{i j:Nat}(h:i < j):(pws j)[i]? =some (pw i):=by simp[pws,h]
theorem ami{i j:Nat}(h:i≤j):(pws j).take i=pws i:=by
 unfold pws;rw[←List.map_take,List.take_range,Nat.min_eq_left h]
theorem an2(j:Nat):pws (j+1)=pws j++[pw j]:=by simp[pws,List.range_succ]
theorem anT:pw 0=1000000000000000000:=ah2
theorem agq{a:CA}{x k:Nat}[ha:NI a x k](hx:x < WB ^ k)(hk:k≤1000000000):ah prog 561 [.it (.one (.c a))] (.r (aA 1 acI (pws (pwm x+1)))):=by
 have cO:ah prog 60 [.v (.int .u64 1000000000000000000)] (.r (bI (pw 0))):=by rw[ah2];exact nOf 1000000000000000000 (by rw[bV];decide)
 have hb:=adC hx;have mark:aaO 5:=⟨⟩;have e0:[CA.sat (bI (pw 0))]=(pws (0+1)).flatMap acI:=rfl;refine ah.fnF func561 results561 ntmps561 rfl rfl rfl (by simp[AV.ids,AV0.ids,Atom.ids]) rfl (fun w0 T B E0 hB=>?_)
 refine SX.goM ?_;have hpm:pwM x (bitLen x+2) 0=pwm x:=by unfold pwm;rfl
 refine W.mH (fun(j f:Nat)=>(j=0∨nD j≤bitLen x+1)∧pwM x f j=pwm x∧f+j=bitLen x+2) (fun j f=>[(0,.it (.one (.c a))),(3,.own 100)]) (fun j f=>[(100,.row 29 1 (j+1) ((pws (j+1)).flatMap acI))]) (fun j f=>f) 0 (bitLen x+2) ⟨.inl rfl,hpm,rfl⟩ (fun j f ⟨h1,h2,h3⟩=>?_)
 have hn:nD j≤64000000001:=by
  rcases h1 with rfl|h1
  ·have:nD 0=18:=by unfold nD;rfl
   omega
  ·omega
 have hg:(pws (j+1))[j+1 - 1]? =some (pw j):=ai3 (by omega)
 have hbp:=yX j;have hbj:=abt j;have hbu:=adC (BdN.pw j).h;by_cases hq:2*bitLen (pw j)≤bitLen x+1
 ·cases f with
  |zero=>exact absurd hq (by omega)
  |succ f=>
   have e1:(pws (j+1)).flatMap acI++[CA.sat (bI (pw j*pw j))]=(pws (j+1+1)).flatMap acI:=by
    rw[an2 (j+1),List.flatMap_append,adn];rfl
   have h2':pwM x f (j+1)=pwm x:=by rw[←h2];conv=>rhs;unfold pwM;rw[if_pos hq]
   have hs:nD (j+1)=nD j+nD j:=by conv=>lhs;unfold nD
   refine SX.goM ?_;exact W.lS (j+1) f ⟨.inr (by omega),h2',by omega⟩ (by omega)
 ·have hjm:j=pwm x:=by
   rw[←h2];cases f with
   |zero=>unfold pwM;rfl
   |succ f=>conv=>rhs;unfold pwM;rw[if_neg hq]
  refine SX.goM ?_;refine aN.frz 100 ?_;refine adW ?_;rw[←hjm];show AV0.imp _ (.one (.c (.sat (aL 1 (pws (j+1)).length ((pws (j+1)).flatMap acI)))));rw[ado];exact AV0.imp.refl _
theorem tK:∀(j:Nat) {a:CA} {x k:Nat} [ha:NI a x k] (L:List Nat),L=pws j→x < pw j→nD j≤200000000000→k≤500000000000→
  nE prog 560 [.it (.one (.c a)),.r (aA 1 acI L)] 5 1 (nD j) ((jk (nD j) x).flatMap jR)
 |0,a,x,k,ha,L,hL,hx,hn,hk=>by
  have e18:nD 0=18:=by unfold nD;rfl
  have hxw:x < WB:=by rw[anT]at hx;rw[bV];omega
  have cW:=arb (a:=a) (x:=x) (k:=k) (by omega)
  rw[if_pos hxw]at cW;have cw:=ao5 x hxw;have hl0:L.length=0:=by rw[hL,ado]
  rw[e18];refine nE.fnF func560 results560 ntmps560 rfl rfl rfl (by simp[AV.ids,AV0.ids,Atom.ids]) (fun w0 T B E0 hB=>?_)
  refine SX.goM ?_;exact retO
 |j+1,a,x,k,ha,L,hL,hx,hn,hk=>by
  have hs:nD (j+1)=nD j+nD j:=by conv=>lhs;unfold nD
  have hj:=abt j;have hl1:L.length=j+1:=by rw[hL,ado]
  have hg:L[L.length - 1]? =some (pw j):=by rw[hl1,hL];exact ai3 (by omega)
  have ht:L.take (L.length - 1)=pws j:=by rw[hl1,hL];exact ami (by omega)
  have hp:=aoe j;rw[adn]at hx;have hq:x / pw j < pw j:=Nat.div_lt_of_lt_mul hx;have hr:x % pw j < pw j:=Nat.mod_lt _ hp;have cD:=acO (a:=a) (x:=x) (k:=k) (b:= .sat (bI (pw j))) (y:=pw j) (m:=nD j) (by omega)
  rw[if_neg (by omega)]at cD
  haveI b1:BdN (x / pw j) (nD j):=⟨Nat.lt_trans hq (BdN.pw j).h⟩
  haveI b2:BdN (x % pw j) (nD j):=⟨Nat.lt_trans hr (BdN.pw j).h⟩
  have c1:=tK j (a:= .sat (bI (x / pw j))) (k:=nD j) (L.take (L.length - 1)) ht hq (by omega) (by omega)
  have c2:=(tK j (a:= .sat (bI (x % pw j))) (k:=nD j) (L.take (L.length - 1)) ht hr (by omega) (by omega)).pure
  have e1:(jk (nD j) (x / pw j)).flatMap jR++(jk (nD j) (x % pw j)).flatMap jR=(jk (nD j+nD j) x).flatMap jR:=by
   rw[adX,List.flatMap_append,show 10 ^ nD j=pw j by unfold pw;rfl]
  rw[hs];refine nE.fnF func560 results560 ntmps560 rfl rfl rfl (by simp[AV.ids,AV0.ids,Atom.ids]) (fun w0 T B E0 hB=>?_)
  refine SX.goM ?_;exact retO
theorem adt(l:List UInt8):ah prog 559 [.v (str l),.v (str [48])] (.v (str (l.dropWhile (· ==48)))):=
 pureS (args:=[str l,str [48]]) ⟨_,func559,rfl,rfl⟩ fun w=>(strings_TrimLeft_one ⟨⟨l⟩⟩ 48 (by decide) w).mono fun e w' ⟨h1,h2⟩=>⟨h1,h2⟩
theorem amS(x:Nat):x < pw (pwm x+1):=by
 have key:∀(f j:Nat),f+j=bitLen x+2→¬2*bitLen (pw (pwM x f j))≤bitLen x+1:=by
  intro f
  induction f with
  |zero=>
   intro j hj;have h1:=yX j;have h2:=abt j;unfold pwM;omega
  |succ f ih=>
   intro j hj;unfold pwM
   split
   ·exact ih (j+1) (by omega)
   ·assumption
 have:=key (bitLen x+2) 0 rfl;exact akI (by unfold pwm;exact this)
theorem asW{x k:Nat}(hx:x < WB ^ k)(hk:k≤1000000000):nD (pwm x+1)≤200000000000:=by
 have hb:=adC hx;have key:∀(f j:Nat),(j=0∨nD j≤bitLen x+1)→nD (pwM x f j)≤64000000001:=by
  intro f
  induction f with
  |zero=>
   intro j hj;unfold pwM;rcases hj with rfl|hj
   ·have:nD 0=18:=by unfold nD;rfl
    omega
   ·omega
  |succ f ih=>
   intro j hj;unfold pwM
   split
   ·rename_i h;have h1:=yX j;exact ih (j+1) (.inr (by
                  conv=>lhs;unfold nD
                  omega))
   ·rcases hj with rfl|hj
    ·have:nD 0=18:=by unfold nD;rfl
     omega
    ·omega
 have h1:=key (bitLen x+2) 0 (.inl rfl);have h2:nD (pwm x+1)=nD (pwm x)+nD (pwm x):=by conv=>lhs;unfold nD
 have h3:nD (pwm x)≤64000000001:=by unfold pwm;exact h1
 omega
theorem ake{a:CA}{x k:Nat}[ha:NI a x k](hx:x < WB ^ k)(hk:k≤1000000000):ah prog 550 [.it (.one (.c a))] (.v (str (aV x))):=by
 have cP:=agq (a:=a) hx hk;have cD:=(tK (pwm x+1) (a:=a) (k:=k) (pws (pwm x+1)) rfl (amS x) (asW hx hk) (by omega)).pure
 have el:nD (pwm x+1)=(jk (nD (pwm x+1)) x).length:=(vo _ _).symm;have cD':ah prog 560 [.it (.one (.c a)),.r (aA 1 acI (pws (pwm x+1)))] (.r (aA 1 jR (jk (nD (pwm x+1)) x))):=by
  show ah _ _ _ (.r (aL 1 (jk (nD (pwm x+1)) x).length _));rw[vo];exact cD
 clear cD;have cT:=adt (jk (nD (pwm x+1)) x);have hd:=xC (nD (pwm x+1)) x (by have:=amS x;unfold pw at this;exact this)
 rw[hd]at cT;have hS:aV x=if x=0 then [48]else dig x:=by unfold aV;rfl
 refine ah.fnF func550 results550 ntmps550 rfl rfl rfl (by simp[AV.ids,AV0.ids,Atom.ids]) rfl (fun w0 T B E0 hB=>?_)
 by_cases h0:x=0
 ·have hz:decide (dig x=[])=true:=by subst h0;rw[jB];rfl
  refine SX.goM ?_;refine aga ?_;rw[hS,if_pos h0]
 ·have hz:decide (dig x=[])=false:=decide_eq_false (agi h0);refine SX.goM ?_;refine aga ?_;rw[hS,if_neg h0]
end
section
attribute [local irreducible] IntKind.wrap Go1 Reg WP aR aU bR bO aN aF ak aj aY Sat
section
variable{l l':List Atom}{a:CA}{x y:Int}{n k m:Nat}
instance qZ[h:ZI l x k]:Con prog 62 [.agg l] (k≤1099511627775) (.v (.int .i64 (bq x))):=⟨fun h=>aiu h⟩
instance con_zNeg[h:ZI l x k]:Con prog 55 [.agg l] (k≤1099511627775) (.agg (zN (-x))):=⟨fun h=>zNeg h⟩
instance ad8:Con prog 18 [.v (.int .i64 x)] (-9223372036854775808≤x∧x≤9223372036854775807) (.agg (zN x)):=⟨fun h=>zOf x h.1 h.2⟩
instance con_zAdd[h:ZI l x k][h':ZI l' y m]:Con prog 88 [.agg l,.agg l'] (k+m≤1099511627774) (.agg (zN (x+y))):=⟨fun h=>zAdd h⟩
instance amO[h:ZI l x k][h':ZI l' y m]:Con prog 75 [.agg l,.agg l'] (k+m≤1099511627774) (.agg (zN (x - y))):=⟨fun h=>zSub h⟩
instance con_zMul[h:ZI l x k][h':ZI l' y m]:Con prog 58 [.agg l,.agg l'] (k+m≤274877906944) (.agg (zN (x*y))):=⟨fun h=>zMul h⟩
instance akN[h:ZI l x k][h':ZI l' y m]:Con prog 72 [.agg l,.agg l'] (k+m≤1099511627774) (.v (.bool (decide (x=y)))):=⟨fun h=>zSame h⟩
instance dX[h:ZI l x k]:Con prog 314 [.agg l] (k≤1099511627775) (.v (.int .i64 (bitLen x.natAbs:Int))):=⟨fun h=>zBits h⟩
instance atp[h:ZI l x k][h':ZI l' y m]:Con prog 109 [.agg l,.agg l'] (k+m≤1099511627760) (.tup [.agg (zN (fZ x y)),.one (.c (.val (.bool (nK x y))))]):=⟨fun h=>asF h⟩
instance alu[h:ZI l x k][h':ZI l' y m]:Con prog 89 [.agg l,.agg l'] (k+m≤1099511627760) (.agg (zN (Int.gcd x y:Int))):=⟨fun h=>zGcd h⟩
instance abQ[h:NI a n k](neg:Bool):Con prog 50 [.it (.one (.c a)),.v (.bool neg)] (k≤1099511627775) (.agg (zN (sgn neg n))):=⟨fun h=>qQ neg h⟩
end
theorem ac4(z:Int):bq z=0↔z=0:=by unfold bq;(repeat' split) <;> omega
theorem agJ(z:Int):bq z < 0↔z < 0:=by unfold bq;(repeat' split) <;> omega
theorem agH(a b:Int):IntKind.i64.wrap (bq a*bq b)=bq (a*b):=by
 have h:bq a*bq b=bq (a*b):=by
  unfold bq;by_cases ha:a=0
  ·simp[ha]
  ·by_cases hb:b=0
   ·simp[hb]
   ·have hab:a*b≠0:=Int.mul_ne_zero ha hb;rw[if_neg ha,if_neg hb,if_neg hab];by_cases h1:a < 0
    ·by_cases h2:b < 0
     ·have:=Int.mul_pos_of_neg_of_neg h1 h2;rw[if_pos h1,if_pos h2,if_neg (by omega)];rfl
     ·have:=Int.mul_neg_of_neg_of_pos h1 (show 0 < b by omega)
      rw[if_pos h1,if_neg h2,if_pos (by omega)];rfl
    ·by_cases h2:b < 0
     ·have:=Int.mul_neg_of_pos_of_neg (show 0 < a by omega) h2
      rw[if_neg h1,if_pos h2,if_pos (by omega)];rfl
     ·have:=Int.mul_pos (show 0 < a by omega) (show 0 < b by omega)
      rw[if_neg h1,if_neg h2,if_neg (by omega)];rfl
 rw[h];have h1: -1≤bq (a*b)∧bq (a*b)≤1:=by unfold bq;(repeat' split) <;> omega
 exact nV (by omega) (by omega)
def zS(z:Int):List UInt8:=if z < 0 then 45::aV z.natAbs else aV z.natAbs
theorem aeA{x k:Nat}(h:x < WB ^ k):(aV x).length≤20*k+1:=by
 unfold aV
 split
 ·simp
 ·have:WB ^ k≤10 ^ (20*k):=by rw[Nat.pow_mul];exact Nat.pow_le_pow_left (by rw[bV];decide) _
  have:=acK (Nat.lt_of_lt_of_le h this);omega
theorem alb{z:Int}{k:Nat}[h:Bd z k]:(zS z).length≤20*k+2:=by
 have:=aeA h.h;unfold zS;split
 ·rw[List.length_cons];omega
 ·omega
instance as4{l:List Atom}{z:Int}{k:Nat}[h:ZI l z k]:Con prog 523 [.agg l] (k≤1000000000) (.v (str (zS z))):=⟨fun hk=>by
 refine z1 ⟨_,func523,rfl,rfl⟩ fun neg n hz hn=>?_
 subst hz;have hb:=(inferInstance:BdN n k).h;have cP:=ake (a:= .sat (acU n k)) hb hk;have hl:=aeA hb;have hS:zS (sgn neg n)=if sgn neg n < 0 then 45::aV n else aV n:=by unfold zS;rw[gJ]
 have hs:=agJ (sgn neg n);refine ah.fnF func523 results523 ntmps523 rfl rfl rfl (by simp[AV.ids,AV0.ids,Atom.ids]) rfl (fun w0 T B E0 hB=>?_)
 by_cases h0:sgn neg n < 0
 ·refine SX.goM ?_;refine aga ?_;rw[hS,if_pos h0];rfl
 ·refine SX.goM ?_;refine aga ?_;rw[hS,if_neg h0]⟩
def rmk(x y:Int):Int×Int:=if y=0 then(0,1)else if y < 0 then(fZ (-x) (Int.gcd (-x) (-y)),fZ (-y) (Int.gcd (-x) (-y)))else(fZ x (Int.gcd x y),fZ y (Int.gcd x y))
abbrev rU(q:Int×Int):List Atom:=[.c (.val (.bool (decide (q.1 < 0)))),.c (.sat (bI q.1.natAbs)),.c (.val (.bool (decide (q.2 < 0)))),.c (.sat (bI q.2.natAbs))]
instance Bd.anU(x y:Int)(k m:Nat)[h:Bd x k][h':Bd y m]:Bd (rmk x y).1 (k+m+1):=⟨by
 unfold rmk;repeat' split
 ·exact Bd.mono (Bd.zero).h (by omega)
 ·exact Bd.mono (Bd.fZ (-x) _ k).h (by omega)
 ·exact Bd.mono (Bd.fZ x _ k).h (by omega)⟩
instance Bd.al6(x y:Int)(k m:Nat)[h:Bd x k][h':Bd y m]:Bd (rmk x y).2 (k+m+1):=⟨by
 unfold rmk;repeat' split
 ·exact Bd.mono (Bd.one).h (by omega)
 ·exact Bd.mono (Bd.fZ (-y) _ m).h (by omega)
 ·exact Bd.mono (Bd.fZ y _ m).h (by omega)⟩
instance mM{l:List Atom}{z:Int}{k:Nat}[h:ZI l z k]:Con prog 14 [.agg l] (k≤1000000000) (.agg (rU (z,1))):=⟨fun hk=>by
 refine z1 ⟨_,func14,rfl,rfl⟩ fun neg n hz hn=>?_
 subst hz;refine ah.fnF func14 results14 ntmps14 rfl rfl rfl (by simp[AV.ids,AV0.ids,Atom.ids]) rfl (fun w0 T B E0 hB=>?_)
 refine SX.goM ?_;exact kR (ak.mZ rfl rfl rfl) rfl⟩
instance atC:Con prog 108 [] True (.agg (rU (0,1))):=⟨fun hk=>by
 refine ah.fnF func108 results108 ntmps108 rfl rfl rfl (by simp[AV.ids,AV0.ids,Atom.ids]) rfl (fun w0 T B E0 hB=>?_)
 refine SX.goM ?_;exact kR (ak.mZ rfl rfl rfl) rfl⟩
instance atD{l l':List Atom}{x y:Int}{k m:Nat}[h:ZI l x k][h':ZI l' y m]:Con prog 57 [.agg l,.agg l'] (k+m≤1000000000) (.tup [.agg (rU (rmk x y)),.one (.c (.val (.bool (decide (y≠0)))))]):=⟨fun hk=>by
 refine z2 ⟨_,func57,rfl,rfl⟩ fun neg n neg2 n2 hz hz2 hn hn2=>?_
 subst hz;subst hz2;have hs0:=ac4 (sgn neg2 n2);have hsn:=agJ (sgn neg2 n2);refine ah.fnF func57 results57 ntmps57 rfl rfl rfl (by simp[AV.ids,AV0.ids,Atom.ids]) rfl (fun w0 T B E0 hB=>?_)
 by_cases h0:sgn neg2 n2=0
 ·refine SX.goM ?_;have e:rmk (sgn neg n) (sgn neg2 n2)=(0,1):=by unfold rmk;rw[if_pos h0]
  rw[e];exact oW (ak.mZ rfl rfl rfl) (ak.tmp rfl) (AV0.imp.refl _) (AV0.imp.of_eq (cb (by simp[h0])))
 ·by_cases h1:sgn neg2 n2 < 0
  ·refine SX.goM ?_;have e:rmk (sgn neg n) (sgn neg2 n2)=(fZ (-sgn neg n) (Int.gcd (-sgn neg n) (-sgn neg2 n2)),fZ (-sgn neg2 n2) (Int.gcd (-sgn neg n) (-sgn neg2 n2))):=by unfold rmk;rw[if_neg h0,if_pos h1]
   rw[e];exact oW (ak.mZ rfl rfl rfl) (ak.tmp rfl) (AV0.imp.refl _) (AV0.imp.of_eq (cb (by simp[h0])))
  ·refine SX.goM ?_;have e:rmk (sgn neg n) (sgn neg2 n2)=(fZ (sgn neg n) (Int.gcd (sgn neg n) (sgn neg2 n2)),fZ (sgn neg2 n2) (Int.gcd (sgn neg n) (sgn neg2 n2))):=by unfold rmk;rw[if_neg h0,if_neg h1]
   rw[e];exact oW (ak.mZ rfl rfl rfl) (ak.tmp rfl) (AV0.imp.refl _) (AV0.imp.of_eq (cb (by simp[h0])))⟩
theorem q1{f:FuncId}{r:AV}{x0 x1 x2 x3:Atom}{p q:Int}{k m:Nat}[h:ZI [x0,x1] p k][h':ZI [x2,x3] q m](he:∃fn,prog.funcs[f]? =some fn∧(fn.name== "runtime.NumGoroutine")=false∧fn.body.isNone=false)
  (hf:∀neg n neg' n',p=sgn neg n→q=sgn neg' n'→BdN n k→BdN n' m→ah prog f [.agg (zR neg n k++zR neg' n' m)] r):ah prog f [.agg [x0,x1,x2,x3]] r:=by
 obtain⟨neg,n,hz,hm⟩:=h.h;obtain⟨neg',n',hz',hm'⟩:=h'.h;refine ah.fact (φ:=BdN n k∧BdN n' m) he (fun hb=>hf neg n neg' n' hz hz' hb.1 hb.2) fun E S w vs hv=>?_
 match vs,hv with
 |[_],⟨⟨[v0,v1,v2,v3],rfl,h0,h1,h2,h3,_⟩,_⟩=>
  have a1:=hm E S w _ ⟨[v0,v1],rfl,h0,h1,trivial⟩;have a2:=hm' E S w _ ⟨[v2,v3],rfl,h2,h3,trivial⟩;refine⟨⟨⟨[v0,v1,v2,v3],rfl,?_⟩,trivial⟩,⟨vD a1⟩,⟨vD a2⟩⟩;obtain⟨us,e1,b1⟩:=a1;obtain⟨us',e2,b2⟩:=a2
  match us,us',b1,b2 with
  |[_,_],[_,_],⟨c0,c1,_⟩,⟨d0,d1,_⟩=>
   cases e1;cases e2;exact⟨c0,c1,d0,d1,trivial⟩
theorem q2{f:FuncId}{r:AV}{x0 x1 x2 x3 y0 y1 y2 y3:Atom}{p q p' q':Int}{k m k' m':Nat}[h:ZI [x0,x1] p k][h':ZI [x2,x3] q m][g:ZI [y0,y1] p' k'][g':ZI [y2,y3] q' m'](he:∃fn,prog.funcs[f]? =some fn∧(fn.name== "runtime.NumGoroutine")=false∧fn.body.isNone=false)
  (hf:∀neg n neg' n' neg2 n2 neg3 n3,p=sgn neg n→q=sgn neg' n'→p'=sgn neg2 n2→q'=sgn neg3 n3→BdN n k→BdN n' m→BdN n2 k'→BdN n3 m'→ah prog f [.agg (zR neg n k++zR neg' n' m),.agg (zR neg2 n2 k'++zR neg3 n3 m')] r):ah prog f [.agg [x0,x1,x2,x3],.agg [y0,y1,y2,y3]] r:=by
 obtain⟨neg,n,hz,hm⟩:=h.h;obtain⟨neg',n',hz',hm'⟩:=h'.h;obtain⟨neg2,n2,hz2,hm2⟩:=g.h;obtain⟨neg3,n3,hz3,hm3⟩:=g'.h;refine ah.fact (φ:=BdN n k∧BdN n' m∧BdN n2 k'∧BdN n3 m') he (fun hb=>hf neg n neg' n' neg2 n2 neg3 n3 hz hz' hz2 hz3 hb.1 hb.2.1 hb.2.2.1 hb.2.2.2) fun E S w vs hv=>?_
 match vs,hv with
 |[_,_],⟨⟨[v0,v1,v2,v3],rfl,h0,h1,h2,h3,_⟩,⟨[w0,w1,w2,w3],rfl,i0,i1,i2,i3,_⟩,_⟩=>
  have a1:=hm E S w _ ⟨[v0,v1],rfl,h0,h1,trivial⟩;have a2:=hm' E S w _ ⟨[v2,v3],rfl,h2,h3,trivial⟩;have a3:=hm2 E S w _ ⟨[w0,w1],rfl,i0,i1,trivial⟩;have a4:=hm3 E S w _ ⟨[w2,w3],rfl,i2,i3,trivial⟩;refine⟨⟨⟨[v0,v1,v2,v3],rfl,?_⟩,⟨[w0,w1,w2,w3],rfl,?_⟩,trivial⟩,⟨vD a1⟩,⟨vD a2⟩,⟨vD a3⟩,⟨vD a4⟩⟩
  ·obtain⟨us,e1,b1⟩:=a1;obtain⟨us',e2,b2⟩:=a2
   match us,us',b1,b2 with
   |[_,_],[_,_],⟨c0,c1,_⟩,⟨d0,d1,_⟩=>
    cases e1;cases e2;exact⟨c0,c1,d0,d1,trivial⟩
  ·obtain⟨us,e1,b1⟩:=a3;obtain⟨us',e2,b2⟩:=a4
   match us,us',b1,b2 with
   |[_,_],[_,_],⟨c0,c1,_⟩,⟨d0,d1,_⟩=>
    cases e1;cases e2;exact⟨c0,c1,d0,d1,trivial⟩
attribute [irreducible] rmk
section
variable{x0 x1 x2 x3 y0 y1 y2 y3:Atom}{p q r s:Int}{k m k' m':Nat}
abbrev qn(p q:Int):Int×Int:=rmk p q
instance atI[h:ZI [x0,x1] p k][h':ZI [x2,x3] q m]:Con prog 56 [.agg [x0,x1,x2,x3]] (k+m≤1000000000) (.agg (rU (rmk p q))):=⟨fun hk=>by
 refine q1 ⟨_,func56,rfl,rfl⟩ fun neg n neg2 n2 hz hz2 hn hn2=>?_
 subst hz;subst hz2;refine ah.fnF func56 results56 ntmps56 rfl rfl rfl (by simp[AV.ids,AV0.ids,Atom.ids]) rfl (fun w0 T B E0 hB=>?_)
 refine SX.goM ?_;exact kR (ak.mZ rfl rfl rfl) rfl⟩
instance aj7[h:ZI [x0,x1] p k][h':ZI [x2,x3] q m]:Con prog 171 [.agg [x0,x1,x2,x3]] (k+m≤1000000000) (.v (.int .i64 (bq (p*q)))):=⟨fun hk=>by
 refine q1 ⟨_,func171,rfl,rfl⟩ fun neg n neg2 n2 hz hz2 hn hn2=>?_
 subst hz;subst hz2;have hw:IntKind.i64.wrap (bq (sgn neg n)*bq (sgn neg2 n2))=bq (sgn neg n*sgn neg2 n2):=agH _ _;refine ah.fnF func171 results171 ntmps171 rfl rfl rfl (by simp[AV.ids,AV0.ids,Atom.ids]) rfl (fun w0 T B E0 hB=>?_)
 refine SX.goM ?_;exact gM rfl⟩
instance alz[h:ZI [x0,x1] p k][h':ZI [x2,x3] q m]:Con prog 172 [.agg [x0,x1,x2,x3]] (k+m≤1000000000) (.agg (rU (-(rmk p q).1,(rmk p q).2))):=⟨fun hk=>by
 refine q1 ⟨_,func172,rfl,rfl⟩ fun neg n neg2 n2 hz hz2 hn hn2=>?_
 subst hz;subst hz2;refine ah.fnF func172 results172 ntmps172 rfl rfl rfl (by simp[AV.ids,AV0.ids,Atom.ids]) rfl (fun w0 T B E0 hB=>?_)
 refine SX.goM ?_;exact kR (ak.mZ rfl rfl rfl) rfl⟩
def dh(p q r s:Int):Int×Int:=rmk ((rmk p q).1*(rmk r s).2+(rmk r s).1*(rmk p q).2) ((rmk p q).2*(rmk r s).2)
def dn(p q r s:Int):Int×Int:=rmk ((rmk p q).1*(rmk r s).1) ((rmk p q).2*(rmk r s).2)
def cK(p q r s:Int):Int×Int:=rmk ((rmk p q).1*(rmk r s).2) ((rmk p q).2*(rmk r s).1)
instance ama[h:ZI [x0,x1] p k][h':ZI [x2,x3] q m][g:ZI [y0,y1] r k'][g':ZI [y2,y3] s m']:Con prog 40 [.agg [x0,x1,x2,x3],.agg [y0,y1,y2,y3]] (k+m+k'+m'≤10000000) (.agg (rU (dh p q r s))):=⟨fun hk=>by
 refine q2 ⟨_,func40,rfl,rfl⟩ fun neg n neg2 n2 neg3 n3 neg4 n4 hz hz2 hz3 hz4 hn hn2 hn3 hn4=>?_
 subst hz;subst hz2;subst hz3;subst hz4;refine ah.fnF func40 results40 ntmps40 rfl rfl rfl (by simp[AV.ids,AV0.ids,Atom.ids]) rfl (fun w0 T B E0 hB=>?_)
 refine SX.goM ?_;exact kR (ak.mZ rfl rfl rfl) rfl⟩
end
end
section
attribute [local irreducible] IntKind.wrap Go1 Reg WP aR aU bR bO aN aF ak aj aY Sat
attribute [local irreducible] aV zS
theorem arO(z:Int):0 < bq z↔0 < z:=by unfold bq;(repeat' split) <;> omega
theorem uh:AV0.imp (.agg [.c (.val (.bool false)),.c (.val (.slice none 0 0))]) (.agg (zN 0)):=fun E S w v h=>by
 obtain⟨vs,rfl,hall⟩:=h
 match vs,hall with
 |[a,b],⟨h1,h2,_⟩=>
  have h2':b= .slice none 0 0:=h2;subst h2';exact⟨[a,_],rfl,h1,bI.zero,trivial⟩
def bS(p q r s:Int):Int×Int:=dh p q (-(rmk r s).1) (rmk r s).2
section
variable{x0 x1 x2 x3 y0 y1 y2 y3:Atom}{p q r s:Int}{k m k' m':Nat}
instance Bd.ar8(p q r s:Int)(k m k' m':Nat)[Bd p k][Bd q m][Bd r k'][Bd s m']:Bd (dh p q r s).1 (3*(k+m+k'+m')+12):=⟨by unfold dh;exact Bd.mono (Bd.anU _ _ _ _).h (by omega)⟩
instance Bd.arl(p q r s:Int)(k m k' m':Nat)[Bd p k][Bd q m][Bd r k'][Bd s m']:Bd (dh p q r s).2 (3*(k+m+k'+m')+12):=⟨by unfold dh;exact Bd.mono (Bd.al6 _ _ _ _).h (by omega)⟩
instance Bd.qsub1(p q r s:Int)(k m k' m':Nat)[Bd p k][Bd q m][Bd r k'][Bd s m']:Bd (bS p q r s).1 (6*(k+m+k'+m')+20):=⟨by unfold bS;exact Bd.mono (Bd.ar8 _ _ _ _ _ _ _ _).h (by omega)⟩
instance Bd.qsub2(p q r s:Int)(k m k' m':Nat)[Bd p k][Bd q m][Bd r k'][Bd s m']:Bd (bS p q r s).2 (6*(k+m+k'+m')+20):=⟨by unfold bS;exact Bd.mono (Bd.arl _ _ _ _ _ _ _ _).h (by omega)⟩
instance Bd.qmul1(p q r s:Int)(k m k' m':Nat)[Bd p k][Bd q m][Bd r k'][Bd s m']:Bd (dn p q r s).1 (3*(k+m+k'+m')+12):=⟨by unfold dn;exact Bd.mono (Bd.anU _ _ _ _).h (by omega)⟩
instance Bd.qmul2(p q r s:Int)(k m k' m':Nat)[Bd p k][Bd q m][Bd r k'][Bd s m']:Bd (dn p q r s).2 (3*(k+m+k'+m')+12):=⟨by unfold dn;exact Bd.mono (Bd.al6 _ _ _ _).h (by omega)⟩
instance Bd.qquo1(p q r s:Int)(k m k' m':Nat)[Bd p k][Bd q m][Bd r k'][Bd s m']:Bd (cK p q r s).1 (3*(k+m+k'+m')+12):=⟨by unfold cK;exact Bd.mono (Bd.anU _ _ _ _).h (by omega)⟩
instance Bd.qquo2(p q r s:Int)(k m k' m':Nat)[Bd p k][Bd q m][Bd r k'][Bd s m']:Bd (cK p q r s).2 (3*(k+m+k'+m')+12):=⟨by unfold cK;exact Bd.mono (Bd.al6 _ _ _ _).h (by omega)⟩
instance aoH[h:ZI [x0,x1] p k][h':ZI [x2,x3] q m][g:ZI [y0,y1] r k'][g':ZI [y2,y3] s m']:Con prog 295 [.agg [x0,x1,x2,x3],.agg [y0,y1,y2,y3]] (k+m+k'+m'≤1000000) (.agg (rU (bS p q r s))):=⟨fun hk=>by
 refine q2 ⟨_,func295,rfl,rfl⟩ fun neg n neg2 n2 neg3 n3 neg4 n4 hz hz2 hz3 hz4 hn hn2 hn3 hn4=>?_
 subst hz;subst hz2;subst hz3;subst hz4;refine ah.fnF func295 results295 ntmps295 rfl rfl rfl (by simp[AV.ids,AV0.ids,Atom.ids]) rfl (fun w0 T B E0 hB=>?_)
 refine SX.goM ?_;exact kR (ak.mZ rfl rfl rfl) rfl⟩
instance an1[h:ZI [x0,x1] p k][h':ZI [x2,x3] q m][g:ZI [y0,y1] r k'][g':ZI [y2,y3] s m']:Con prog 53 [.agg [x0,x1,x2,x3],.agg [y0,y1,y2,y3]] (k+m+k'+m'≤10000000) (.agg (rU (dn p q r s))):=⟨fun hk=>by
 refine q2 ⟨_,func53,rfl,rfl⟩ fun neg n neg2 n2 neg3 n3 neg4 n4 hz hz2 hz3 hz4 hn hn2 hn3 hn4=>?_
 subst hz;subst hz2;subst hz3;subst hz4;refine ah.fnF func53 results53 ntmps53 rfl rfl rfl (by simp[AV.ids,AV0.ids,Atom.ids]) rfl (fun w0 T B E0 hB=>?_)
 refine SX.goM ?_;exact kR (ak.mZ rfl rfl rfl) rfl⟩
instance anP[h:ZI [x0,x1] p k][h':ZI [x2,x3] q m][g:ZI [y0,y1] r k'][g':ZI [y2,y3] s m']:Con prog 15 [.agg [x0,x1,x2,x3],.agg [y0,y1,y2,y3]] (k+m+k'+m'≤10000000) (.tup [.agg (rU (cK p q r s)),.one (.c (.val (.bool (decide ((rmk p q).2*(rmk r s).1≠0)))))]):=⟨fun hk=>by
 refine q2 ⟨_,func15,rfl,rfl⟩ fun neg n neg2 n2 neg3 n3 neg4 n4 hz hz2 hz3 hz4 hn hn2 hn3 hn4=>?_
 subst hz;subst hz2;subst hz3;subst hz4;refine ah.fnF func15 results15 ntmps15 rfl rfl rfl (by simp[AV.ids,AV0.ids,Atom.ids]) rfl (fun w0 T B E0 hB=>?_)
 refine SX.goM ?_;exact oW (ak.mZ rfl rfl rfl) (ak.tmp rfl) (AV0.imp.refl _) (AV0.imp.refl _)⟩
def dD(p q r s:Int):Int:=bq ((bS p q r s).1*(bS p q r s).2)
instance akY[h:ZI [x0,x1] p k][h':ZI [x2,x3] q m][g:ZI [y0,y1] r k'][g':ZI [y2,y3] s m']:Con prog 206 [.agg [x0,x1,x2,x3],.agg [y0,y1,y2,y3]] (k+m+k'+m'≤1000000) (.v (.int .i64 (dD p q r s))):=⟨fun hk=>by
 refine q2 ⟨_,func206,rfl,rfl⟩ fun neg n neg2 n2 neg3 n3 neg4 n4 hz hz2 hz3 hz4 hn hn2 hn3 hn4=>?_
 subst hz;subst hz2;subst hz3;subst hz4;refine ah.fnF func206 results206 ntmps206 rfl rfl rfl (by simp[AV.ids,AV0.ids,Atom.ids]) rfl (fun w0 T B E0 hB=>?_)
 refine SX.goM ?_;exact gM rfl⟩
def qE(p q:Int):Int:=if(rmk p q).2=1 then(rmk p q).1 else 0
instance aaF[h:ZI [x0,x1] p k][h':ZI [x2,x3] q m]:Con prog 52 [.agg [x0,x1,x2,x3]] (k+m≤1000000) (.tup [.agg (zN (qE p q)),.one (.c (.val (.bool (decide ((rmk p q).2=1)))))]):=⟨fun hk=>by
 refine q1 ⟨_,func52,rfl,rfl⟩ fun neg n neg2 n2 hz hz2 hn hn2=>?_
 subst hz;subst hz2;refine ah.fnF func52 results52 ntmps52 rfl rfl rfl (by simp[AV.ids,AV0.ids,Atom.ids]) rfl (fun w0 T B E0 hB=>?_)
 by_cases h1:(rmk (sgn neg n) (sgn neg2 n2)).2=1
 ·refine SX.goM ?_;exact oW (ak.iV rfl rfl rfl) (ak.tmp rfl) (AV0.imp.of_eq (by unfold qE;rw[if_pos h1])) (AV0.imp.of_eq (cb (decide_eq_true h1).symm))
 ·refine SX.goM ?_;have e:qE (sgn neg n) (sgn neg2 n2)=0:=by unfold qE;rw[if_neg h1]
  rw[e];exact oW (ak.iV rfl rfl rfl) (ak.tmp rfl) uh (AV0.imp.of_eq (cb (decide_eq_false h1).symm))⟩
def rS(q:Int×Int):List UInt8:=if q.2=1 then zS q.1 else zS q.1++[47]++zS q.2
instance afS[h:ZI [x0,x1] p k][h':ZI [x2,x3] q m]:Con prog 518 [.agg [x0,x1,x2,x3]] (k+m≤1000000) (.v (str (rS (rmk p q)))):=⟨fun hk=>by
 refine q1 ⟨_,func518,rfl,rfl⟩ fun neg n neg2 n2 hz hz2 hn hn2=>?_
 subst hz;subst hz2;have l1:=alb (z:=(rmk (sgn neg n) (sgn neg2 n2)).1);have l2:=alb (z:=(rmk (sgn neg n) (sgn neg2 n2)).2);refine ah.fnF func518 results518 ntmps518 rfl rfl rfl (by simp[AV.ids,AV0.ids,Atom.ids]) rfl (fun w0 T B E0 hB=>?_)
 by_cases h1:(rmk (sgn neg n) (sgn neg2 n2)).2=1
 ·refine SX.goM ?_;refine aga ?_;unfold rS;rw[if_pos h1]
 ·refine SX.goM ?_;refine aga ?_;unfold rS;rw[if_neg h1]⟩
end
def isR(p q x y:Int):Prop:=(0 < q∧(Int.gcd p q:Int)=1)∧p*y=x*q
attribute [irreducible] isR
end
section
attribute [local irreducible] IntKind.wrap Go1 Reg WP aR aU bR bO aN aF ak aj aY Sat
attribute [local irreducible] aV zS qE bS dn cK dD rS
theorem aeu{x y:Int}(hy:y≠0)(h:y ∣ x):fZ x y=x.tdiv y:=by
 have hz:rR x y=0:=by unfold rR;first|(rw[if_neg hy];exact Int.tmod_eq_zero_of_dvd h)|exact Int.tmod_eq_zero_of_dvd h
 unfold fZ nK;rw[hz];simp[hy]
theorem aaS{x y:Int}(hy:y≠0):0 < (rmk x y).2∧Int.gcd (rmk x y).1 (rmk x y).2=1∧(rmk x y).1*y=x*(rmk x y).2:=by
 have key:∀x y:Int,0 < y→0 < fZ y (Int.gcd x y)∧Int.gcd (fZ x (Int.gcd x y)) (fZ y (Int.gcd x y))=1∧fZ x (Int.gcd x y)*y=x*fZ y (Int.gcd x y):=by
  intro x y hy;have hg:(Int.gcd x y:Int)≠0:=by
   have:=Int.gcd_ne_zero_right (a:=x) (b:=y) (by omega)
   omega
  have hgp:(0:Int) < Int.gcd x y:=by omega
  obtain⟨a,ha⟩:=Int.gcd_dvd_left x y;obtain⟨b,hb⟩:=Int.gcd_dvd_right x y;have e1:fZ x (Int.gcd x y)=a:=by
   rw[aeu hg (Int.gcd_dvd_left x y)]
   conv=>lhs;arg 1;rw[ha]
   exact Int.mul_tdiv_cancel_left _ hg
  have e2:fZ y (Int.gcd x y)=b:=by
   rw[aeu hg (Int.gcd_dvd_right x y)]
   conv=>lhs;arg 1;rw[hb]
   exact Int.mul_tdiv_cancel_left _ hg
  rw[e1,e2];generalize hG:Int.gcd x y=g at*;have hbp:0 < b:=by
   rw[hb]at hy;exact Int.pos_of_mul_pos_right hy (by omega)
  refine⟨hbp,?_,?_⟩
  ·have h1:Int.gcd ((g:Int)*a) ((g:Int)*b)=g*Int.gcd a b:=by rw[Int.gcd_mul_left];simp
   rw[←ha,←hb,hG]at h1;have hgn:0 < g:=by omega
   exact Nat.eq_of_mul_eq_mul_left hgn (by omega)
  ·rw[ha,hb];grind
 unfold rmk;rw[if_neg hy];by_cases h:y < 0
 ·rw[if_pos h];have:=key (-x) (-y) (by omega)
  refine⟨this.1,this.2.1,?_⟩;have h3:=this.2.2
  grind
 ·rw[if_neg h];exact key x y (by omega)
theorem aaw(x:Int):rmk x 0=(0,1):=by unfold rmk;rfl
abbrev qW(b:Bool)(l:List Nat)(c:Bool)(m:List Nat):List Atom:=[.c (.val (.bool b)),.c (.sat (dM l)),.c (.val (.bool c)),.c (.sat (dM m))]
end
section
attribute [local irreducible] bS dn cK dD dh
def qv(p q:Int):Rat:=(p:Rat) / (q:Rat)
theorem c0{z:Int}(h:z≠0):(z:Rat)≠0:=fun e=>h (Rat.intCast_inj.1 e)
theorem aoY{a b c d:Int}(hb:b≠0)(hd:d≠0)(h:a*d=c*b):qv a b=qv c d:=by
 have h1:=c0 hb;have h2:=c0 hd;have h3:(a:Rat)*d=c*b:=by rw[←Rat.intCast_mul,←Rat.intCast_mul,h]
 unfold qv;grind
theorem mR(p q:Int):0 < (rmk p q).2:=by
 by_cases h:q=0
 ·rw[h,aaw];decide
 ·exact(aaS h).1
theorem yL(p q:Int):Int.gcd (rmk p q).1 (rmk p q).2=1:=by
 by_cases h:q=0
 ·rw[h,aaw];decide
 ·exact(aaS h).2.1
theorem gZ(p q:Int):qv (rmk p q).1 (rmk p q).2=qv p q:=by
 by_cases h:q=0
 ·rw[h,aaw];unfold qv;grind
 ·have hs:=aaS (x:=p) h;exact aoY (by omega) h hs.2.2
structure Rd(X:Int×Int)(v:Rat)(K:Nat):Prop where
 v:qv X.1 X.2=v
 d:0 < X.2
 g:Int.gcd X.1 X.2=1
 b1:Bd X.1 K
 b2:Bd X.2 K
theorem Rd.rmk{p q:Int}{k m K:Nat}{v:Rat}(h:Bd p k)(h':Bd q m)(hv:qv p q=v)(hK:k+m+1≤K):Rd (rmk p q) v K:=
 ⟨(gZ p q).trans hv,mR p q,yL p q,⟨Bd.mono (Bd.anU p q k m).h hK⟩,⟨Bd.mono (Bd.al6 p q k m).h hK⟩⟩
class Ra(l:List Atom)(v:outParam Rat)(K:outParam Nat):Prop where
 h:∃x0 x1 x2 x3 p q k m,l=[x0,x1,x2,x3]∧ZI [x0,x1] p k∧ZI [x2,x3] q m∧k≤K∧m≤K∧Bd p k∧Bd q m∧qv p q=v
theorem Ra.raw{b c:Bool}{l m:List Nat}{K:Nat}(i1:BdN (nval WB l) l.length)(i2:BdN (nval WB m) m.length)(h1:l.length≤K)(h2:m.length≤K):Ra (qW b l c m) (qv (sgn b (nval WB l)) (sgn c (nval WB m))) K:=
 ⟨_,_,_,_,_,_,_,_,rfl,inferInstance,inferInstance,h1,h2,inferInstance,inferInstance,rfl⟩
section
variable{l l':List Atom}{v v':Rat}{K K':Nat}
theorem am5{a b c d:Int}:qv (a*d) (b*c)=qv a b / qv c d:=by
 unfold qv;rw[Rat.intCast_mul,Rat.intCast_mul];grind
theorem alq{a b c d:Int}:qv (a*c) (b*d)=qv a b*qv c d:=by
 unfold qv;rw[Rat.intCast_mul,Rat.intCast_mul];grind
theorem amg{a b c d:Int}(hb:b≠0)(hd:d≠0):qv (a*d+c*b) (b*d)=qv a b+qv c d:=by
 have h1:=c0 hb;have h2:=c0 hd;unfold qv;rw[Rat.intCast_add,Rat.intCast_mul,Rat.intCast_mul,Rat.intCast_mul];grind
theorem agj{a b:Int}:qv (-a) b= -qv a b:=by
 unfold qv;rw[Rat.intCast_neg];grind
theorem aep(p q r s:Int):qv (dh p q r s).1 (dh p q r s).2=qv p q+qv r s:=by
 have h1:=mR p q;have h2:=mR r s;unfold dh;rw[gZ,amg (by omega) (by omega),gZ,gZ]
theorem amo(p q r s:Int):qv (dn p q r s).1 (dn p q r s).2=qv p q*qv r s:=by
 unfold dn;rw[gZ,alq,gZ,gZ]
theorem ams(p q r s:Int):qv (cK p q r s).1 (cK p q r s).2=qv p q / qv r s:=by
 unfold cK;rw[gZ,am5,gZ,gZ]
theorem afv(p q r s:Int):qv (bS p q r s).1 (bS p q r s).2=qv p q - qv r s:=by
 unfold bS;rw[aep,agj,gZ];grind
theorem acA(p q r s:Int):∃x y,dh p q r s=rmk x y:=⟨_,_,by unfold dh;rfl⟩
theorem aiN(p q r s:Int):∃x y,dn p q r s=rmk x y:=⟨_,_,by unfold dn;rfl⟩
theorem aia(p q r s:Int):∃x y,cK p q r s=rmk x y:=⟨_,_,by unfold cK;rfl⟩
theorem ai0(p q r s:Int):∃x y,bS p q r s=rmk x y:=by unfold bS;exact acA _ _ _ _
theorem mk_pos{X:Int×Int}(h:∃x y,X=rmk x y):0 < X.2∧Int.gcd X.1 X.2=1:=by
 obtain⟨x,y,rfl⟩:=h;exact⟨mR x y,yL x y⟩
theorem ade{a b:Int}:(bq (a*b)=0↔qv a b=0)∧(bq (a*b) < 0↔qv a b < 0):=by
 have key:∀a b:Int,0 < b→(a*b=0↔qv a b=0)∧(a*b < 0↔qv a b < 0):=by
  intro a b hb;have h1:(0:Rat) < b:=by rw[show (0:Rat)=((0:Int):Rat)from rfl];exact Rat.intCast_lt_intCast.2 hb
  have ea:(a:Rat)=qv a b*b:=by unfold qv;grind
  constructor
  ·rw[Int.mul_eq_zero];constructor
   ·rintro(h|h)
    ·unfold qv;rw[h];grind
    ·omega
   ·intro h;rw[h]at ea;left;exact Rat.intCast_inj.1 (by rw[ea];grind)
  ·have hneg:a*b < 0↔a < 0:=by
    constructor
    ·intro h;exact Decidable.byContradiction fun hn=>by
      have:=Int.mul_nonneg (show 0≤a by omega) (show 0≤b by omega)
      omega
    ·intro h;exact Int.mul_neg_of_neg_of_pos h hb
   have ha:a < 0↔(a:Rat) < 0:=by rw[show (0:Rat)=((0:Int):Rat)from rfl,Rat.intCast_lt_intCast]
   rw[hneg,ha,ea];generalize qv a b=v at*;generalize (b:Rat)=c at*;constructor
   ·intro h;exact Decidable.byContradiction fun hn=>by
     have:=Rat.mul_nonneg (show 0≤v by grind) (show 0≤c by grind)
     grind
   ·intro h;have:=Rat.mul_pos (show 0 < -v by grind) h1
    grind
 have hn:bq (a*b) < 0↔a*b < 0:=agJ _;have hz:bq (a*b)=0↔a*b=0:=ac4 _;rw[hn,hz];by_cases hb:b=0
 ·subst hb;have:qv a 0=0:=by unfold qv;grind
  rw[this];simp
 ·by_cases hb0:0 < b
  ·exact key a b hb0
  ·have h:=key (-a) (-b) (by omega)
   have e:qv (-a) (-b)=qv a b:=aoY (by omega) hb (by grind)
   rw[e,show -a* -b=a*b by grind]at h
   exact h
theorem am1{p q r s:Int}:(dD p q r s=0↔qv p q=qv r s)∧(dD p q r s < 0↔qv p q < qv r s)∧(0 < dD p q r s↔qv r s < qv p q):=by
 have h:=ade (a:=(bS p q r s).1) (b:=(bS p q r s).2);rw[afv]at h;unfold dD;generalize bq ((bS p q r s).1*(bS p q r s).2)=z at*;have h1:z=0↔qv p q=qv r s:=by rw[h.1];constructor <;> intro <;> grind
 have h2:z < 0↔qv p q < qv r s:=by rw[h.2];constructor <;> intro <;> grind
 refine⟨h1,h2,?_⟩;have:0 < z↔¬z=0∧¬z < 0:=by omega
 rw[this,h1,h2];constructor
 ·intro ⟨a,b⟩;grind
 ·intro a;constructor <;> grind
theorem eAdd(l l':List Atom)[a:Ra l v K][b:Ra l' v' K'](h:K+K'≤1000000):∃X,ah prog 40 [.agg l,.agg l'] (.agg (rU X))∧Rd X (v+v') (6*(K+K')+20):=by
 obtain⟨x0,x1,x2,x3,p,q,k,m,rfl,z1,z2,hk,hm,b1,b2,hv⟩:=a.h;obtain⟨y0,y1,y2,y3,r,s,k',m',rfl,z3,z4,hk',hm',b3,b4,hv'⟩:=b.h;exact⟨_,(ama (h:=z1) (h':=z2) (g:=z3) (g':=z4)).h (by omega),⟨by rw[aep,hv,hv'],(mk_pos (acA ..)).1,(mk_pos (acA ..)).2,⟨Bd.mono (Bd.ar8 p q r s k m k' m').h (by omega)⟩,⟨Bd.mono (Bd.arl p q r s k m k' m').h (by omega)⟩⟩⟩
theorem eSub(l l':List Atom)[a:Ra l v K][b:Ra l' v' K'](h:K+K'≤400000):∃X,ah prog 295 [.agg l,.agg l'] (.agg (rU X))∧Rd X (v - v') (12*(K+K')+20):=by
 obtain⟨x0,x1,x2,x3,p,q,k,m,rfl,z1,z2,hk,hm,b1,b2,hv⟩:=a.h;obtain⟨y0,y1,y2,y3,r,s,k',m',rfl,z3,z4,hk',hm',b3,b4,hv'⟩:=b.h;exact⟨_,(aoH (h:=z1) (h':=z2) (g:=z3) (g':=z4)).h (by omega),⟨by rw[afv,hv,hv'],(mk_pos (ai0 ..)).1,(mk_pos (ai0 ..)).2,⟨Bd.mono (Bd.qsub1 p q r s k m k' m').h (by omega)⟩,⟨Bd.mono (Bd.qsub2 p q r s k m k' m').h (by omega)⟩⟩⟩
theorem eMul(l l':List Atom)[a:Ra l v K][b:Ra l' v' K'](h:K+K'≤1000000):∃X,ah prog 53 [.agg l,.agg l'] (.agg (rU X))∧Rd X (v*v') (6*(K+K')+20):=by
 obtain⟨x0,x1,x2,x3,p,q,k,m,rfl,z1,z2,hk,hm,b1,b2,hv⟩:=a.h;obtain⟨y0,y1,y2,y3,r,s,k',m',rfl,z3,z4,hk',hm',b3,b4,hv'⟩:=b.h;exact⟨_,(an1 (h:=z1) (h':=z2) (g:=z3) (g':=z4)).h (by omega),⟨by rw[amo,hv,hv'],(mk_pos (aiN ..)).1,(mk_pos (aiN ..)).2,⟨Bd.mono (Bd.qmul1 p q r s k m k' m').h (by omega)⟩,⟨Bd.mono (Bd.qmul2 p q r s k m k' m').h (by omega)⟩⟩⟩
theorem eQuo(l l':List Atom)[a:Ra l v K][b:Ra l' v' K'](h:K+K'≤1000000):∃X ok,ah prog 15 [.agg l,.agg l'] (.tup [.agg (rU X),.one (.c (.val (.bool ok)))])∧Rd X (v / v') (6*(K+K')+20)∧(ok=true↔v'≠0):=by
 obtain⟨x0,x1,x2,x3,p,q,k,m,rfl,z1,z2,hk,hm,b1,b2,hv⟩:=a.h;obtain⟨y0,y1,y2,y3,r,s,k',m',rfl,z3,z4,hk',hm',b3,b4,hv'⟩:=b.h;refine⟨_,_,(anP (h:=z1) (h':=z2) (g:=z3) (g':=z4)).h (by omega),⟨by rw[ams,hv,hv'],(mk_pos (aia ..)).1,(mk_pos (aia ..)).2,⟨Bd.mono (Bd.qquo1 p q r s k m k' m').h (by omega)⟩,⟨Bd.mono (Bd.qquo2 p q r s k m k' m').h (by omega)⟩⟩,?_⟩
 have h1:=mR p q;have h2:=mR r s;rw[decide_eq_true_iff,←hv',←gZ r s];have e:qv (rmk r s).1 (rmk r s).2=0↔(rmk r s).1=0:=by
  have:=(ade (a:=(rmk r s).1) (b:=(rmk r s).2)).1;rw[←this,ac4,Int.mul_eq_zero];omega
 rw[Ne,Ne,e,Int.mul_eq_zero];omega
theorem eCmp(l l':List Atom)[a:Ra l v K][b:Ra l' v' K'](h:K+K'≤400000):∃z:Int,ah prog 206 [.agg l,.agg l'] (.v (.int .i64 z))∧(z=0↔v=v')∧(z < 0↔v < v')∧(0 < z↔v' < v):=by
 obtain⟨x0,x1,x2,x3,p,q,k,m,rfl,z1,z2,hk,hm,b1,b2,hv⟩:=a.h;obtain⟨y0,y1,y2,y3,r,s,k',m',rfl,z3,z4,hk',hm',b3,b4,hv'⟩:=b.h;exact⟨_,(akY (h:=z1) (h':=z2) (g:=z3) (g':=z4)).h (by omega),by rw[←hv,←hv'];exact am1⟩
theorem eSign(l:List Atom)[a:Ra l v K](h:K≤400000):∃z:Int,ah prog 171 [.agg l] (.v (.int .i64 z))∧(z=0↔v=0)∧(z < 0↔v < 0):=by
 obtain⟨x0,x1,x2,x3,p,q,k,m,rfl,z1,z2,hk,hm,b1,b2,hv⟩:=a.h;exact⟨_,(aj7 (h:=z1) (h':=z2)).h (by omega),by rw[←hv];exact ade⟩
theorem eNeg(l:List Atom)[a:Ra l v K](h:K≤400000):∃X,ah prog 172 [.agg l] (.agg (rU X))∧Rd X (-v) (2*K+1):=by
 obtain⟨x0,x1,x2,x3,p,q,k,m,rfl,z1,z2,hk,hm,b1,b2,hv⟩:=a.h;exact⟨_,(alz (h:=z1) (h':=z2)).h (by omega),⟨by show qv (-(rmk p q).1) (rmk p q).2=_;rw[agj,gZ,hv],mR p q,by show Int.gcd (-(rmk p q).1) _=1;rw[Int.neg_gcd];exact yL p q,⟨by show (-(rmk p q).1).natAbs < _;rw[Int.natAbs_neg];exact Bd.mono (Bd.anU p q k m).h (by omega)⟩,⟨Bd.mono (Bd.al6 p q k m).h (by omega)⟩⟩⟩
end
end
section
attribute [local irreducible] IntKind.wrap Go1 Reg WP aR aU bR bO aN aF ak aj aY Sat
attribute [local irreducible] bS dn cK dD dh qv
section
instance apj(b:Bool)(l:List Nat)(c:Bool)(m:List Nat)(z:Int):Con prog 38 [.agg (qW b l c m),.v (.int .i64 z)] True (.v (.bool (decide ((l.length:Int)≤z∧(m.length:Int)≤z)))):=⟨fun _=>by
 refine ah.fnF func38 results38 ntmps38 rfl rfl rfl (by simp[AV.ids,AV0.ids,Atom.ids]) rfl (fun w0 T B E0 hB=>?_)
 by_cases h1:(l.length:Int)≤z
 ·refine SX.goM ?_;refine aP ?_;rw[decide_eq_decide];exact⟨fun h=>⟨h1,h⟩,fun h=>h.2⟩
 ·refine SX.goM ?_;refine aP ?_;rw[eq_comm];exact decide_eq_false (fun h=>h1 h.1)⟩
instance Bd.acB(x y:Int)(k m:Nat)[hx:Bd x k][hy:Bd y m]:Bd (acB x y) (k+k+1+m+1+1+1):=⟨by
 unfold Proofs.YtjnhnbgpifohjaaGreatDoor.acB
 split
 ·exact(Bd.zfq (-x+ -x+ -y) (-y+ -y) _).h
 ·exact(Bd.zfq (x+x+y) (y+y) _).h⟩
attribute [local irreducible] acB zfq
end
section
theorem qv_lt{n d m e:Int}(hd:0 < d)(he:0 < e):(qv n d < qv m e↔n*e < m*d)∧(qv n d=qv m e↔n*e=m*d):=by
 have hd':(0:Rat) < d:=by rw[show (0:Rat)=((0:Int):Rat)from rfl];exact Rat.intCast_lt_intCast.2 hd
 have he':(0:Rat) < e:=by rw[show (0:Rat)=((0:Int):Rat)from rfl];exact Rat.intCast_lt_intCast.2 he
 have en:(n:Rat)=qv n d*d:=by unfold qv;grind
 have em:(m:Rat)=qv m e*e:=by unfold qv;grind
 have hde:=Rat.mul_pos hd' he';constructor
 ·rw[←Rat.intCast_lt_intCast (a:=n*e),Rat.intCast_mul,Rat.intCast_mul,en,em];generalize qv n d=v at*;generalize qv m e=u at*;constructor
  ·intro h;have:=Rat.mul_pos (show 0 < u - v by grind) hde
   grind
  ·intro h;exact Decidable.byContradiction fun hn=>by
    have:=Rat.mul_nonneg (show 0≤v - u by grind) (show (0:Rat)≤(d:Rat)*e by grind)
    grind
 ·rw[←Rat.intCast_inj (a:=n*e),Rat.intCast_mul,Rat.intCast_mul,en,em];generalize qv n d=v at*;generalize qv m e=u at*;constructor
  ·intro h;rw[h];grind
  ·intro h;have h0:(v - u)*((d:Rat)*e)=0:=by grind
   rcases Rat.mul_eq_zero.1 h0 with h1|h1
   ·grind
   ·rw[h1]at hde;grind
attribute [local irreducible] bq yC sgn
end
section
theorem Rd.uniq{p q r s:Int}(h1:0 < q)(g1:Int.gcd p q=1)(h2:0 < s)(g2:Int.gcd r s=1)(hv:qv p q=qv r s):p=r∧q=s:=by
 have he:=(qv_lt (n:=p) (m:=r) h1 h2).2.1 hv;have d1:q ∣ s:=by
  have:q ∣ p*s:=⟨r,by rw[he,Int.mul_comm]⟩
  exact Int.natAbs_dvd_natAbs.1 (Nat.Coprime.dvd_of_dvd_mul_left (show Nat.gcd q.natAbs p.natAbs=1 by rw[Nat.gcd_comm];exact g1) (by rw[←Int.natAbs_mul];exact Int.natAbs_dvd_natAbs.2 this))
 have d2:s ∣ q:=by
  have:s ∣ r*q:=⟨p,by rw[←he,Int.mul_comm]⟩
  exact Int.natAbs_dvd_natAbs.1 (Nat.Coprime.dvd_of_dvd_mul_left (show Nat.gcd s.natAbs r.natAbs=1 by rw[Nat.gcd_comm];exact g2) (by rw[←Int.natAbs_mul];exact Int.natAbs_dvd_natAbs.2 this))
 have e:q=s:=Int.dvd_antisymm (by omega) (by omega) d1 d2
 subst e;exact⟨Int.eq_of_mul_eq_mul_right (by omega) he,rfl⟩
attribute [local irreducible] abD abI sgn bq
section
variable{x0 x1 x2 x3:Atom}{p q:Int}{k m:Nat}
end
end
end
end Go.Proofs.YtjnhnbgpifohjaaGreatDoor