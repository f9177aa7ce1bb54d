import Derived.Test.YtegehclknhmkgaaGreatDoorS21
import Derived.Test.YtegehclknhmkgaaGreatDoorS1
import Derived.Test.YtegehclknhmkgaaGreatDoorS25
import Derived.Test.YtegehclknhmkgaaGreatDoorS2
import Derived.Test.YtegehclknhmkgaaGreatDoorS26
set_option linter.unusedVariables false
set_option linter.unusedSimpArgs false
open Go.Proofs.Tryz
namespace Go.Proofs.YtegehclknhmkgaaGreatDoor
open Go.RowKit QM SX
section
def dN(l:List Nat):Rep where
 has S w v:=Sm WB l∧(aM 1 l.length (l.map fun x:Nat=> .val (.int .u64 (x:Int)))).has S w v
 one h:=(aM _ _ _).one h.2
 step h ho hs:=⟨h.1,(aM _ _ _).step h.2 ho hs⟩
theorem dN.rn{l:List Nat}{S:Nat→Prop}{w:World}{v:Value}(h:(dN l).has S w v):RN w v l:=by
 obtain⟨hs,h⟩:=h;obtain⟨oa,cap,h1,h2,h3,h4,h5,h6⟩:=bG.1 h;refine⟨oa,cap,h1,h2,h3,h4,hs,fun i hi=>?_⟩
 obtain⟨b,o,u,e1,e2,e3,e4⟩:=h6 i (.val (.int .u64 ((gd l i:Nat):Int))) (by simp[gd,zq3,hi])
 exact⟨b,o,e1,by rw[e3,show u=_ from e4]⟩
def bD(n:Nat):Rep where
 has S w v:=∃l,Nrm l∧nval WB l=n∧(l=[]→v= .slice none 0 0)∧(dN l).has S w v
 one h:=by obtain⟨l,_,_,_,h⟩:=h;exact(dN l).one h
 step h ho hs:=by obtain⟨l,h1,h2,h3,h⟩:=h;exact⟨l,h1,h2,h3,(dN l).step h ho hs⟩
theorem bD.abP{n base:Nat}{S:Nat→Prop}{w:World}{v:Value}(h:ON base w v n)(hS:∀k,S k→k < base):(bD n).has S w v:=by
 obtain⟨l,h1,h2,h3,h4,h5⟩:=h;refine⟨l,h3,h4,h5,h2,?_⟩;rcases h1.2 with⟨rfl,h0⟩|⟨g,cap,cur,rfl,hb,hg,hn,hm,hcs,htk⟩
 ·have hl:l=[]:=List.eq_nil_of_length_eq_zero h0;subst hl;exact bG.2 ⟨none,0,rfl,Nat.le_refl _,by simp[maxLen],fun _=>rfl,by simp,fun i c hc=>by simp at hc⟩
 ·refine bG.2 ⟨some ⟨g,0,none⟩,cap,rfl,hn,hm,fun e=>(by cases e),by simp,fun i c hc=>?_⟩
  have hi:i < l.length:=by have:=(List.getElem?_eq_some_iff.1 hc).1;simpa using this
  refine⟨g,0,.int .u64 ((gd l i:Nat):Int),rfl,fun h=>by have:=hS g h;omega,?_,?_⟩
  ·rw[Nat.zero_add,h1.cellAt i (by omega)]
   simp[wv,List.getElem?_map,zq2 hi,gd,zq3]
  ·simp[List.getElem?_map,zq2 hi]at hc
   subst hc;simp[CA.has,gd,zq3,hi]
theorem bD.zero{S:Nat→Prop}{w:World}:(bD 0).has S w (.slice none 0 0):=
 ⟨[],Nrm.nil,rfl,fun _=>rfl,Sm.nil,bG.2 ⟨none,0,rfl,Nat.le_refl _,by simp[maxLen],fun _=>rfl,by simp,fun i c hc=>by simp at hc⟩⟩
def ab0(B:Nat):Nat→Nat→List Nat
 |0,_=>[]
 |_+1,0=>[]
 |f+1,n+1=>((n+1) % B)::ab0 B f ((n+1) / B)
theorem qU{B:Nat}(hB:1 < B):∀(f n:Nat),n≤f→Sm B (ab0 B f n)∧nval B (ab0 B f n)=n∧Nrm (ab0 B f n)
 |0,n,h=>by
  have:n=0:=by omega
  subst this;exact⟨Sm.nil,rfl,Nrm.nil⟩
 |f+1,0,_=>⟨Sm.nil,rfl,Nrm.nil⟩
 |f+1,n+1,h=>by
  have hlt:(n+1) / B < n+1:=Nat.div_lt_self (by omega) hB
  obtain⟨h1,h2,h3⟩:=qU hB f ((n+1) / B) (by omega)
  have hv:nval B (ab0 B (f+1) (n+1))=n+1:=by
   show (n+1) % B+B*nval B (ab0 B f ((n+1) / B))=n+1;rw[h2];exact Nat.mod_add_div _ _
  refine⟨h1.cons (Nat.mod_lt _ (by omega)),hv,.inr ?_⟩
  have hc:ab0 B (f+1) (n+1)=(n+1) % B::ab0 B f ((n+1) / B):=rfl;rw[hc];generalize ab0 B f ((n+1) / B)=l at*;rcases h3 with h3|h3
  ·subst h3;have h5:(n+1) / B=0:=h2.symm;have:(n+1) % B=n+1:=by have:=Nat.mod_add_div (n+1) B;rw[h5]at this;simpa using this
   simp[this]
  ·have h6:l.length≠0:=by
    intro h0;rw[List.eq_nil_of_length_eq_zero h0]at h3;simp at h3
   obtain⟨m,hm⟩:∃m,l.length=m+1:=⟨l.length - 1,by omega⟩
   rw[hm]at h3;simp only[List.length_cons,hm,Nat.add_sub_cancel,zq3,List.getElem?_cons_succ]at*
   exact h3
def wds(n:Nat):List Nat:=ab0 WB n n
theorem adr(n:Nat):Sm WB (wds n):=(qU pK n n (Nat.le_refl n)).1
theorem oq(n:Nat):nval WB (wds n)=n:=(qU pK n n (Nat.le_refl n)).2.1
theorem yN(n:Nat):Nrm (wds n):=(qU pK n n (Nat.le_refl n)).2.2
theorem vo{l:List Nat}(hs:Sm WB l)(hn:Nrm l):l=wds (nval WB l):=amx aW hs (adr _) hn (yN _) (oq _).symm
theorem lg{n k:Nat}(h:n < WB ^ k):(wds n).length≤k:=(yN n).qK aW (by rw[oq];exact h)
theorem pO(n:Nat):(wds n).length=0↔n=0:=by
 constructor
 ·intro h;have:=oq n;rw[List.eq_nil_of_length_eq_zero h]at this;exact this.symm
 ·intro h;subst h;rfl
instance(l:List Nat):iX (dN l) 1 l.length (l.map fun x:Nat=> .val (.int .u64 (x:Int))):=⟨fun _ _ _ h=>h.2⟩
instance(n:Nat):iX (bD n) 1 (wds n).length ((wds n).map fun x:Nat=> .val (.int .u64 (x:Int))):=⟨fun _ _ _ h=>by
 obtain⟨l,h1,h2,_,h4⟩:=h;have:=vo h4.1 h1;rw[h2]at this;rw[←this];exact h4.2⟩
class Bd(z:Int)(k:outParam Nat):Prop where
 h:z.natAbs < WB ^ k
def adl(n k:Nat):Rep where
 has S w v:=∃l,nval WB l=n∧l.length≤k∧(dN l).has S w v
 one h:=by obtain⟨l,_,_,h⟩:=h;exact(dN l).one h
 step h ho hs:=by obtain⟨l,h1,h2,h⟩:=h;exact⟨l,h1,h2,(dN l).step h ho hs⟩
class NI(a:CA)(n:outParam Nat)(k:outParam Nat):Prop where
 p:∀S w v,a.has S w v→(adl n k).has S w v
theorem NI.h{a:CA}{n k:Nat}(x:NI a n k):∀S w v,a.has S w v→∃l,RN w v l∧nval WB l=n∧l.length≤k:=fun S w v h=>by
 obtain⟨l,h1,h2,h3⟩:=x.p S w v h;exact⟨l,dN.rn h3,h1,h2⟩
instance NI.nat(n k:Nat):NI (.sat (adl n k)) n k:=⟨fun _ _ _ h=>h⟩
instance NI.raw(l:List Nat):NI (.sat (dN l)) (nval WB l) l.length:=⟨fun S w v h=>⟨l,rfl,Nat.le_refl _,h⟩⟩
instance NI.nil:NI (.val (.slice none 0 0)) 0 0:=⟨fun S w v h=>by
 rw[show v=_ from h]
 exact⟨[],rfl,Nat.le_refl _,Sm.nil,bG.2 ⟨none,0,rfl,Nat.le_refl _,by simp[maxLen],fun _=>rfl,by simp,fun i c hc=>by simp at hc⟩⟩⟩
theorem NI.aaL{n k:Nat}(hk:n < WB ^ k):NI (.sat (bD n)) n k:=⟨fun S w v h=>by
 obtain⟨l,h1,h2,_,h4⟩:=h;exact⟨l,h2,h1.qK aW (by rw[h2];exact hk),h4⟩⟩
class BdN(n:Nat)(k:outParam Nat):Prop where
 h:n < WB ^ k
instance NI.nrm(n k:Nat)[h:BdN n k]:NI (.sat (bD n)) n k:=NI.aaL h.h
instance BdN.abs(z:Int)(k:Nat)[h:Bd z k]:BdN z.natAbs k:=⟨h.h⟩
theorem fE(k:Nat):1≤WB ^ k:=Nat.one_le_pow k WB aW
theorem Bd.mono{z:Int}{k m:Nat}(h:z.natAbs < WB ^ k)(hm:k≤m):z.natAbs < WB ^ m:=Nat.lt_of_lt_of_le h (Nat.pow_le_pow_right aW hm)
theorem ahh(k m:Nat):WB ^ k+WB ^ m≤WB ^ (k+m)+1:=by
 have h1:=fE k;have h2:=fE m;rw[Nat.pow_add];generalize WB ^ k=a at*;generalize WB ^ m=b at*;obtain⟨a,rfl⟩:∃a',a=a'+1:=⟨a - 1,by omega⟩
 obtain⟨b,rfl⟩:∃b',b=b'+1:=⟨b - 1,by omega⟩
 rw[Nat.add_mul,Nat.mul_add];have:0≤a*b:=Nat.zero_le _;omega
theorem adB{x y:Int}{k m:Nat}(hx:x.natAbs < WB ^ k)(hy:y.natAbs < WB ^ m):(x+y).natAbs < WB ^ (k+m+1):=by
 have h1:=ahh k m;have h2:WB ^ (k+m)*2≤WB ^ (k+m+1):=by rw[Nat.pow_succ];exact Nat.mul_le_mul_left _ (by decide)
 have h3:=fE (k+m);omega
instance Bd.add(x y:Int)(k m:Nat)[hx:Bd x k][hy:Bd y m]:Bd (x+y) (k+m+1):=⟨adB hx.h hy.h⟩
instance Bd.sub(x y:Int)(k m:Nat)[hx:Bd x k][hy:Bd y m]:Bd (x - y) (k+m+1):=⟨by rw[Int.sub_eq_add_neg];exact adB hx.h (by rw[Int.natAbs_neg];exact hy.h)⟩
instance Bd.neg(x:Int)(k:Nat)[hx:Bd x k]:Bd (-x) k:=⟨by rw[Int.natAbs_neg];exact hx.h⟩
instance Bd.mul(x y:Int)(k m:Nat)[hx:Bd x k][hy:Bd y m]:Bd (x*y) (k+m):=⟨by
 rw[Int.natAbs_mul,Nat.pow_add];exact Nat.mul_lt_mul_of_lt_of_le hx.h (Nat.le_of_lt hy.h) (fE m)⟩
theorem apT{x y:Nat}{k m:Nat}(hx:x < WB ^ k)(hy:y < WB ^ m):x+y < WB ^ (k+m+1):=by
 have:=adB (x:=(x:Int)) (y:=(y:Int)) (k:=k) (m:=m) (by simpa using hx) (by simpa using hy)
 omega
instance BdN.add(x y k m:Nat)[hx:BdN x k][hy:BdN y m]:BdN (x+y) (k+m+1):=⟨apT hx.h hy.h⟩
instance BdN.mul(x y k m:Nat)[hx:BdN x k][hy:BdN y m]:BdN (x*y) (k+m):=⟨by
 rw[Nat.pow_add];exact Nat.mul_lt_mul_of_lt_of_le hx.h (Nat.le_of_lt hy.h) (fE m)⟩
instance BdN.sub(x y k:Nat)[hx:BdN x k]:BdN (x - y) k:=⟨Nat.lt_of_le_of_lt (Nat.sub_le _ _) hx.h⟩
instance BdN.div(x y k:Nat)[hx:BdN x k]:BdN (x / y) k:=⟨Nat.lt_of_le_of_lt (Nat.div_le_self _ _) hx.h⟩
instance BdN.mod(x y k:Nat)[hx:BdN x k]:BdN (x % y) k:=⟨Nat.lt_of_le_of_lt (Nat.mod_le _ _) hx.h⟩
instance BdN.ite(c:Prop)[Decidable c](x k:Nat)[hx:BdN x k]:BdN (if c then 0 else x) k:=⟨by split;exact Nat.lt_of_lt_of_le (by decide) (fE k);exact hx.h⟩
instance BdN.gcd(x y k m:Nat)[hx:BdN x k][hy:BdN y m]:BdN (Nat.gcd x y) (k+m):=⟨by
 rcases Nat.eq_zero_or_pos x with h0|h0
 ·subst h0;rw[Nat.gcd_zero_left];exact Nat.lt_of_lt_of_le hy.h (Nat.pow_le_pow_right aW (by omega))
 ·exact Nat.lt_of_le_of_lt (Nat.gcd_le_left y h0) (Nat.lt_of_lt_of_le hx.h (Nat.pow_le_pow_right aW (by omega)))⟩
instance Bd.nat(n k:Nat)[h:BdN n k]:Bd (n:Int) k:=⟨by simpa using h.h⟩
instance Bd.zero:Bd 0 0:=⟨by simp⟩
instance Bd.one:Bd 1 1:=⟨by simp[WB]⟩
theorem atF(x:Int)(h1: -9223372036854775808≤x)(h2:x≤9223372036854775807):x.natAbs < WB ^ 1:=by rw[Nat.pow_one,bB];omega
section
variable{a b:CA}{x y k m:Nat}
theorem nat2{f:FuncId}{r:Nat}[ha:NI a x k][hb:NI b y m](he:∃fn,prog.funcs[f]? =some fn∧(fn.name== "runtime.NumGoroutine")=false∧fn.body.isNone=false)
  (h:∀w va vb la lb,RN w va la→RN w vb lb→nval WB la=x→nval WB lb=y→la.length≤k→lb.length≤m→Calls prog f #[va,vb] w fun e w'=>(∃v,e= .returned v∧ON w.heap.size w' v r)∧Ext w w'):
  ah prog f [.it (.one (.c a)),.it (.one (.c b))] (.r (bD r)):=
 ah.gM he rfl fun E S w vs hl hv=>by
  match vs,hv with
  |[va,vb],⟨h1,h2,_⟩=>
   obtain⟨la,ra,ea,ka⟩:=ha.h S w va h1;obtain⟨lb,rb,eb,kb⟩:=hb.h S w vb h2;refine(h w va vb la lb ra rb ea eb ka kb).mono ?_;rintro e w' ⟨⟨v,rfl,ho⟩,hx⟩;exact⟨v,rfl,bD.abP ho hl,Off.of_below hx⟩
theorem nat1{f:FuncId}{r:Nat}[ha:NI a x k](he:∃fn,prog.funcs[f]? =some fn∧(fn.name== "runtime.NumGoroutine")=false∧fn.body.isNone=false)
  (h:∀w va la,RN w va la→nval WB la=x→la.length≤k→Calls prog f #[va] w fun e w'=>(∃v,e= .returned v∧ON w.heap.size w' v r)∧Ext w w'):
  ah prog f [.it (.one (.c a))] (.r (bD r)):=
 ah.gM he rfl fun E S w vs hl hv=>by
  match vs,hv with
  |[va],⟨h1,_⟩=>
   obtain⟨la,ra,ea,ka⟩:=ha.h S w va h1;refine(h w va la ra ea ka).mono ?_;rintro e w' ⟨⟨v,rfl,ho⟩,hx⟩;exact⟨v,rfl,bD.abP ho hl,Off.of_below hx⟩
theorem asA[ha:NI a x k](hk:k≤1099511627775):ah prog 39 [.it (.one (.c a))] (.r (bD x)):=
 nat1 ⟨_,func39,rfl,rfl⟩ fun w va la h1 h2 h3=>by subst h2;exact gy h1 (by omega)
theorem nAdd[ha:NI a x k][hb:NI b y m](hk:k+m≤1099511627775):ah prog 173 [.it (.one (.c a)),.it (.one (.c b))] (.r (bD (x+y))):=
 nat2 ⟨_,func173,rfl,rfl⟩ fun w va vb la lb h1 h2 h3 h4 h5 h6=>by subst h3 h4;exact tK h1 h2 (by omega) (by omega)
theorem mMul[ha:NI a x k][hb:NI b y m](hk:k+m≤274877906944):ah prog 125 [.it (.one (.c a)),.it (.one (.c b))] (.r (bD (x*y))):=
 nat2 ⟨_,func125,rfl,rfl⟩ fun w va vb la lb h1 h2 h3 h4 h5 h6=>by subst h3 h4;exact ar9 h1 h2 (by omega) (by omega)
theorem dGcd[ha:NI a x k][hb:NI b y m](hk:k+m≤1099511627770):ah prog 89 [.it (.one (.c a)),.it (.one (.c b))] (.r (bD (Nat.gcd x y))):=
 nat2 ⟨_,func89,rfl,rfl⟩ fun w va vb la lb h1 h2 h3 h4 h5 h6=>by subst h3 h4;exact apR h1 h2 hk (by omega) (by omega)
theorem nOf(x:Nat)(hx:x < WB):ah prog 18 [.v (.int .u64 (x:Int))] (.r (bD x)):=
 ah.gM ⟨_,func18,rfl,rfl⟩ rfl fun E S w vs hl hv=>by
  match vs,hv with
  |[va],⟨h1,_⟩=>
   have h1':va= .int .u64 (x:Int):=h1;subst h1';refine(alX x hx w).mono ?_;rintro e w' ⟨⟨v,rfl,ho⟩,hx⟩;exact⟨v,rfl,bD.abP ho hl,Off.of_below hx⟩
theorem nCmp[ha:NI a x k][hb:NI b y m](hk:k+m≤1099511627775):ah prog 119 [.it (.one (.c a)),.it (.one (.c b))] (.v (.int .i64 (jL x y))):=
 ah.gM ⟨_,func119,rfl,rfl⟩ rfl fun E S w vs hl hv=>by
  match vs,hv with
  |[va,vb],⟨h1,h2,_⟩=>
   obtain⟨la,ra,ea,ka⟩:=ha.h S w va h1;obtain⟨lb,rb,eb,kb⟩:=hb.h S w vb h2;subst ea eb;refine(zk ra rb (by omega) (by omega)).mono ?_
   rintro e w' ⟨rfl,hx⟩;exact⟨_,rfl,rfl,Off.of_below hx⟩
theorem afe[ha:NI a x k](hk:k≤1099511627775):ah prog 35 [.it (.one (.c a))] (.v (.int .i64 (bitLen x:Int))):=
 ah.gM ⟨_,func35,rfl,rfl⟩ rfl fun E S w vs hl hv=>by
  match vs,hv with
  |[va],⟨h1,_⟩=>
   obtain⟨la,ra,ea,ka⟩:=ha.h S w va h1;subst ea;refine(amy ra (by omega)).mono ?_
   rintro e w' ⟨rfl,rfl⟩;exact⟨_,rfl,rfl,Off.refl _ _⟩
theorem ail[ha:NI a x k](hk:k≤1099511627775):ah prog 76 [.it (.one (.c a))] (.tup [.one (.c (.val (.int .u64 ((if x < WB then x else 0:Nat):Int)))),.one (.c (.val (.bool (decide (x < WB)))))]):=
 ah.gM ⟨_,func76,rfl,rfl⟩ rfl fun E S w vs hl hv=>by
  match vs,hv with
  |[va],⟨h1,_⟩=>
   obtain⟨la,ra,ea,ka⟩:=ha.h S w va h1;subst ea;refine(amh ra (by omega)).mono ?_
   rintro e w' ⟨rfl,rfl⟩;exact⟨_,rfl,⟨[_,_],rfl,rfl,rfl,trivial⟩,Off.refl _ _⟩
theorem nSub[ha:NI a x k][hb:NI b y m](hk:k+m≤1099511627775):ah prog 212 [.it (.one (.c a)),.it (.one (.c b))] (.tup [.one (.c (.sat (bD (x - y)))),.one (.c (.val (.bool (decide (y≤x)))))]):=
 ah.gM ⟨_,func212,rfl,rfl⟩ rfl fun E S w vs hl hv=>by
  match vs,hv with
  |[va,vb],⟨h1,h2,_⟩=>
   obtain⟨la,ra,ea,ka⟩:=ha.h S w va h1;obtain⟨lb,rb,eb,kb⟩:=hb.h S w vb h2;subst ea eb;rcases Nat.lt_or_ge (nval WB la) (nval WB lb)with hlt|hge
   ·refine(am4 ra rb (by omega) (by omega) hlt).mono ?_
    rintro e w' ⟨rfl,hx⟩;refine⟨_,rfl,⟨[_,_],rfl,?_,?_,trivial⟩,Off.of_below hx⟩
    ·show (bD _).has _ _ _;rw[Nat.sub_eq_zero_of_le (by omega)];exact bD.zero
    ·show _=_;rw[decide_eq_false (by omega)]
   ·refine(ano ra rb (by omega) (by omega) hge).mono ?_
    rintro e w' ⟨⟨v,rfl,ho⟩,hx⟩;refine⟨_,rfl,⟨[_,_],rfl,bD.abP ho hl,?_,trivial⟩,Off.of_below hx⟩;show _=_;rw[decide_eq_true hge]
theorem adW[ha:NI a x k][hb:NI b y m](hk:k+m≤1099511627770):ah prog 78 [.it (.one (.c a)),.it (.one (.c b))] (.tup [.one (.c (.sat (bD (x / y)))),.one (.c (.sat (bD (if y=0 then 0 else x % y)))),.one (.c (.val (.bool (decide (y≠0)))))]):=
 ah.gM ⟨_,func78,rfl,rfl⟩ rfl fun E S w vs hl hv=>by
  match vs,hv with
  |[va,vb],⟨h1,h2,_⟩=>
   obtain⟨la,ra,ea,ka⟩:=ha.h S w va h1;obtain⟨lb,rb,eb,kb⟩:=hb.h S w vb h2;subst ea eb;by_cases h0:nval WB lb=0
   ·refine(agh ra rb (by omega) (by omega) h0).mono ?_
    rintro e w' ⟨rfl,hx⟩;rw[h0];exact⟨_,rfl,⟨[_,_,_],rfl,by show (bD _).has _ _ _;rw[Nat.div_zero];exact bD.zero,bD.zero,rfl,trivial⟩,Off.of_below hx⟩
   ·refine(aa9 ra rb (by omega) (by omega) (Nat.pos_of_ne_zero h0)).mono ?_
    rintro e w' ⟨⟨vq,vr,rfl,hq,hr⟩,hx⟩;refine⟨_,rfl,⟨[_,_,_],rfl,bD.abP hq hl,?_,?_,trivial⟩,Off.of_below hx⟩
    ·rw[if_neg h0];exact bD.abP hr hl
    ·show _=_;rw[decide_eq_true h0]
end
theorem nR{l:List Nat}{S:Nat→Prop}{w:World}{v:Value}:(dN l).has S w v↔Sm WB l∧(aM 1 l.length (l.map fun x:Nat=> .val (.int .u64 (x:Int)))).has S w v:=Iff.rfl
theorem vL{n k:Nat}{S:Nat→Prop}{w:World}{v:Value}:(adl n k).has S w v↔∃l,nval WB l=n∧l.length≤k∧(dN l).has S w v:=Iff.rfl
theorem afK{n:Nat}{S:Nat→Prop}{w:World}{v:Value}:(bD n).has S w v↔∃l,Nrm l∧nval WB l=n∧(l=[]→v= .slice none 0 0)∧(dN l).has S w v:=Iff.rfl
attribute [irreducible] adl dN bD wds
end
section
attribute [local irreducible] IntKind.wrap bitLen jL nval Go1 Reg WP aS aT bR aC ak aj aX Sat
def sgn(neg:Bool)(n:Nat):Int:=if neg then -(n:Int)else(n:Int)
theorem aej(z:Int):sgn (decide (z < 0)) z.natAbs=z:=by unfold sgn;split <;> simp_all <;> omega
theorem gL(neg:Bool)(n:Nat):(sgn neg n).natAbs=n:=by unfold sgn;split <;> omega
abbrev zN(z:Int):List Atom:=[.c (.val (.bool (decide (z < 0)))),.c (.sat (bD z.natAbs))]
abbrev zR(neg:Bool)(n k:Nat):List Atom:=[.c (.val (.bool neg)),.c (.sat (adl n k))]
class ZI(l:List Atom)(z:outParam Int)(k:outParam Nat):Prop where
 h:∃neg n,z=sgn neg n∧∀E S w v,(AV.agg l).has E S w v→(AV.agg (zR neg n k)).has E S w v
theorem ZI.mk'{neg:Bool}{a:CA}{n k:Nat}(h:NI a n k):ZI [.c (.val (.bool neg)),.c a] (sgn neg n) k:=⟨neg,n,rfl,fun E S w v hv=>by
 obtain⟨vs,hv,hall⟩:=hv
 match vs,hall with
 |[x,y],⟨h1,h2,_⟩=>exact⟨[x,y],hv,h1,h.p S w y h2,trivial⟩⟩
instance ZI.nat(neg:Bool)(n k:Nat):ZI [.c (.val (.bool neg)),.c (.sat (adl n k))] (sgn neg n) k:=ZI.mk' inferInstance
instance ZI.nrm(z:Int)(k:Nat)[h:Bd z k]:ZI [.c (.val (.bool (decide (z < 0)))),.c (.sat (bD z.natAbs))] z k:=by
 have:=ZI.mk' (neg:=decide (z < 0)) (NI.aaL h.h)
 rwa [aej]at this
instance ZI.raw(neg:Bool)(l:List Nat):ZI [.c (.val (.bool neg)),.c (.sat (dN l))] (sgn neg (nval WB l)) l.length:=ZI.mk' inferInstance
instance ZI.zero:ZI [.c (.val (.bool false)),.c (.val (.slice none 0 0))] 0 0:=ZI.mk' (neg:=false) (n:=0) inferInstance
theorem aro{n k:Nat}{S:Nat→Prop}{w:World}{v:Value}(h:(adl n k).has S w v):n < WB ^ k:=by
 obtain⟨l,h1,h2,h3⟩:=vL.1 h;rw[←h1];exact xR (dN.rn h3).sm h2
theorem tV{neg:Bool}{n k:Nat}{E:Env}{S:Nat→Prop}{w:World}{v:Value}(h:(AV.agg (zR neg n k)).has E S w v):n < WB ^ k:=by
 obtain⟨vs,_,hall⟩:=h
 match vs,hall with
 |[_,_],⟨_,h2,_⟩=>exact aro h2
theorem z1{f:FuncId}{r:AV}{l:List Atom}{z:Int}{k:Nat}[h:ZI l z k](he:∃fn,prog.funcs[f]? =some fn∧(fn.name== "runtime.NumGoroutine")=false∧fn.body.isNone=false)
  (hf:∀neg n,z=sgn neg n→BdN n k→ah prog f [.agg (zR neg n k)] r):ah prog f [.agg l] r:=by
 obtain⟨neg,n,hz,hm⟩:=h.h;refine ah.fact he (fun hb=>hf neg n hz hb) fun E S w vs hv=>?_
 match vs,hv with
 |[x],⟨h1,_⟩=>exact⟨⟨hm E S w x h1,trivial⟩,⟨tV (hm E S w x h1)⟩⟩
theorem z2{f:FuncId}{r:AV}{l l':List Atom}{z z':Int}{k k':Nat}[h:ZI l z k][h':ZI l' z' k'](he:∃fn,prog.funcs[f]? =some fn∧(fn.name== "runtime.NumGoroutine")=false∧fn.body.isNone=false)
  (hf:∀neg n neg' n',z=sgn neg n→z'=sgn neg' n'→BdN n k→BdN n' k'→ah prog f [.agg (zR neg n k),.agg (zR neg' n' k')] r):ah prog f [.agg l,.agg l'] r:=by
 obtain⟨neg,n,hz,hm⟩:=h.h;obtain⟨neg',n',hz',hm'⟩:=h'.h;refine ah.fact (φ:=BdN n k∧BdN n' k') he (fun hb=>hf neg n neg' n' hz hz' hb.1 hb.2) fun E S w vs hv=>?_
 match vs,hv with
 |[x,y],⟨h1,h2,_⟩=>exact⟨⟨hm E S w x h1,hm' E S w y h2,trivial⟩,⟨tV (hm E S w x h1)⟩,⟨tV (hm' E S w y h2)⟩⟩
instance Bd.sgn(neg:Bool)(n k:Nat)[h:BdN n k]:Bd (sgn neg n) k:=⟨by rw[gL];exact h.h⟩
theorem asD(neg:Bool)(n:Nat):zN (sgn neg n)=[.c (.val (.bool (neg&&decide (0 < n)))),.c (.sat (bD n))]:=by
 have h1:decide (sgn neg n < 0)=(neg&&decide (0 < n)):=by
  unfold sgn;cases neg <;> simp
 unfold zN;rw[gL,h1]
theorem oW{a:CA}{x k:Nat}[ha:NI a x k](neg:Bool)(hk:k≤1099511627775):ah prog 17 [.it (.one (.c a)),.v (.bool neg)] (.agg (zN (sgn neg x))):=by
 rw[asD];refine ah.args (args':=[.r (adl x k),.v (.bool neg)]) ?_ (fun E S w vs hv=>?_)
 rotate_left
 ·match vs,hv with
  |[u,v],⟨h1,h2,_⟩=>exact⟨ha.p S w u h1,h2,trivial⟩
 refine ah.fn func17 results17 ntmps17 rfl rfl rfl (by simp[AV.ids,AV0.ids,Atom.ids]) rfl (fun w0 T B E0 hB=>?_)
 cases neg
 ·repeat(first|refine SX.goM ?_|(refine SX.Go1.is ?_;refine SX.Go1.dH ?_;first
     |refine SX.Go1.call rfl (asA hk) rfl rfl ?_))
  exact aC.eq1 (ak.fC rfl rfl rfl) rfl
 ·repeat(first|refine SX.goM ?_|(refine SX.Go1.is ?_;refine SX.Go1.dH ?_;first
     |refine SX.Go1.call rfl (asA hk) rfl rfl ?_))
  refine aC.eq1 (ak.fC rfl rfl rfl) ?_;have h:decide (0 < ((wds x).length:Int))=decide (0 < x):=by
   have:=pO x;rw[decide_eq_decide];omega
  show AV0.agg [Atom.c (CA.val (.bool (decide (0 < ((wds x).length:Int))))),_]=_;rw[h];rfl
def aV(z:Int):Int:=if z=0 then 0 else if z < 0 then -1 else 1
theorem mJ{n:Nat}:bitLen n=0↔n=0:=by
 unfold bitLen;split <;> simp_all
theorem xV{l:List Atom}{z:Int}{k:Nat}[h:ZI l z k](hk:k≤1099511627775):ah prog 15 [.agg l] (.v (.int .i64 (aV z))):=by
 refine z1 ⟨_,func15,rfl,rfl⟩ fun neg n hz hn=>?_
 subst hz;refine ah.fn func15 results15 ntmps15 rfl rfl rfl (by simp[AV.ids,AV0.ids,Atom.ids]) rfl (fun w0 T B E0 hB=>?_)
 have hb:=mJ (n:=n);repeat(first|refine SX.goM ?_|(refine SX.Go1.is ?_;refine SX.Go1.dH ?_;first
    |refine SX.Go1.call rfl (afe hk) rfl rfl ?_))
 refine WP.cond rfl (fun hc=>?_) (fun hc=>?_)
 ·repeat(first|refine SX.goM ?_)
  refine aC.eq1 (ak.tmp rfl) ?_;have:n=0:=by simp at hc;omega
  subst this;cases neg <;> rfl
 ·repeat(first|refine SX.goM ?_)
  have hn:0 < n:=by simp at hc;omega
  cases neg
  ·repeat(first|refine SX.goM ?_)
   refine aC.eq1 (ak.tmp rfl) ?_;have:aV (sgn false n)=1:=by unfold aV sgn;simp;omega
   rw[this]
  ·repeat(first|refine SX.goM ?_)
   refine aC.eq1 (ak.tmp rfl) ?_;have:aV (sgn true n)= -1:=by unfold aV sgn;simp;omega
   rw[this]
theorem aqX(neg:Bool)(n:Nat):sgn (!neg) n= -sgn neg n:=by unfold sgn;cases neg <;> simp
theorem zNeg{l:List Atom}{z:Int}{k:Nat}[h:ZI l z k](hk:k≤1099511627775):ah prog 198 [.agg l] (.agg (zN (-z))):=by
 refine z1 ⟨_,func198,rfl,rfl⟩ fun neg n hz hn=>?_
 subst hz;rw[←aqX];refine ah.fn func198 results198 ntmps198 rfl rfl rfl (by simp[AV.ids,AV0.ids,Atom.ids]) rfl (fun w0 T B E0 hB=>?_)
 repeat(first|refine SX.goM ?_|(refine SX.Go1.is ?_;refine SX.Go1.dH ?_;first
    |refine SX.Go1.call rfl (oW _ hk) rfl rfl ?_))
 exact aC.eq1 (ak.fC rfl rfl rfl) rfl
end
section
attribute [local irreducible] IntKind.wrap bitLen jL nval Go1 Reg WP aS aT bR aC ak aj aX Sat
attribute [local irreducible] sgn aV
theorem ajV(z:Int)(h0:0≤z)(h1:z < 18446744073709551616):ah prog 18 [.v (.int .u64 z)] (.r (bD z.natAbs)):=by
 have:=nOf z.natAbs (by rw[bB];omega)
 rwa [show ((z.natAbs:Nat):Int)=z by omega]at this
theorem zOf(z:Int)(h1: -9223372036854775808≤z)(h2:z≤9223372036854775807):ah prog 6 [.v (.int .i64 z)] (.agg (zN z)):=by
 have hb:NI (.sat (bD z.natAbs)) z.natAbs 1:=NI.aaL (atF z h1 h2);refine ah.fn func6 results6 ntmps6 rfl rfl rfl (by simp[AV.ids,AV0.ids,Atom.ids]) rfl (fun w0 T B E0 hB=>?_)
 repeat(first|refine SX.goM ?_)
 refine WP.cond rfl (fun hc=>?_) (fun hc=>?_)
 ·have hz:z < 0:=by simpa using hc
  have hw:IntKind.u64.wrap (0 - IntKind.u64.wrap z)=(z.natAbs:Int):=by
   simp only[IntKind.wrap,IntKind.bits,IntKind.signed];simp;omega
  have hs:sgn true z.natAbs=z:=by unfold sgn;simp;omega
  have hcc:=nOf (z.natAbs) (by rw[bB];omega)
  repeat(first|refine SX.goM ?_|(refine SX.Go1.is ?_;refine SX.Go1.dH ?_;first
     |refine SX.Go1.call rfl (hcc) rfl rfl ?_
     |refine SX.Go1.call rfl (oW true (by omega)) rfl rfl ?_))
  rw[hs];exact aC.eq1 (ak.fC rfl rfl rfl) rfl
 ·have hz:0≤z:=by simpa using hc
  have hw:IntKind.u64.wrap z=(z.natAbs:Int):=by
   simp only[IntKind.wrap,IntKind.bits,IntKind.signed];simp;omega
  have hs:sgn false z.natAbs=z:=by unfold sgn;simp;omega
  have hcc:=nOf (z.natAbs) (by rw[bB];omega)
  repeat(first|refine SX.goM ?_|(refine SX.Go1.is ?_;refine SX.Go1.dH ?_;first
     |refine SX.Go1.call rfl (hcc) rfl rfl ?_
     |refine SX.Go1.call rfl (ajV _ hz (by omega)) rfl rfl ?_
     |refine SX.Go1.call rfl (oW false (by omega)) rfl rfl ?_))
  rw[hs];exact aC.eq1 (ak.fC rfl rfl rfl) rfl
theorem adq(neg:Bool)(n m:Nat):sgn neg (n+m)=sgn neg n+sgn neg m:=by unfold sgn;split <;> omega
theorem ahu(neg:Bool){n m:Nat}(h:m≤n):sgn neg (n - m)=sgn neg n+sgn (!neg) m:=by unfold sgn;cases neg <;> simp <;> omega
theorem ah5(neg:Bool){n m:Nat}(h:n≤m):sgn (!neg) (m - n)=sgn neg n+sgn (!neg) m:=by unfold sgn;cases neg <;> simp <;> omega
theorem zAdd{l l':List Atom}{x y:Int}{k m:Nat}[h:ZI l x k][h':ZI l' y m](hk:k+m≤1099511627774):ah prog 194 [.agg l,.agg l'] (.agg (zN (x+y))):=by
 refine z2 ⟨_,func194,rfl,rfl⟩ fun neg n neg2 n2 hz hz2 hn hn2=>?_
 subst hz hz2;refine ah.fn func194 results194 ntmps194 rfl rfl rfl (by simp[AV.ids,AV0.ids,Atom.ids]) rfl (fun w0 T B E0 hB=>?_)
 repeat(first|refine SX.goM ?_)
 refine WP.cond rfl (fun hc=>?_) (fun hc=>?_)
 ·have hq:neg=neg2:=by simpa using hc
  subst hq;repeat(first|refine SX.goM ?_|(refine SX.Go1.is ?_;refine SX.Go1.dH ?_;first
     |refine SX.Go1.call rfl (nAdd (by omega)) rfl rfl ?_
     |refine SX.Go1.call rfl (oW _ (by omega)) rfl rfl ?_))
  rw[←adq];exact aC.eq1 (ak.fC rfl rfl rfl) rfl
 ·have hq:neg2=!neg:=by cases neg <;> cases neg2 <;> simp_all
  subst hq;repeat(first|refine SX.goM ?_|(refine SX.Go1.is ?_;refine SX.Go1.dH ?_;first
     |refine SX.Go1.call rfl (nSub (by omega)) rfl rfl ?_))
  refine WP.cond rfl (fun hc2=>?_) (fun hc2=>?_)
  ·have hle:n2≤n:=by simpa using hc2
   repeat(first|refine SX.goM ?_|(refine SX.Go1.is ?_;refine SX.Go1.dH ?_;first
      |refine SX.Go1.call rfl (oW _ (by omega)) rfl rfl ?_))
   rw[←ahu neg hle];exact aC.eq1 (ak.fC rfl rfl rfl) rfl
  ·have hle:n≤n2:=by simp at hc2;omega
   repeat(first|refine SX.goM ?_|(refine SX.Go1.is ?_;refine SX.Go1.dH ?_;first
      |refine SX.Go1.call rfl (nSub (by omega)) rfl rfl ?_
      |refine SX.Go1.call rfl (oW _ (by omega)) rfl rfl ?_))
   rw[←ah5 neg hle];exact aC.eq1 (ak.fC rfl rfl rfl) rfl
theorem zSub{l l':List Atom}{x y:Int}{k m:Nat}[h:ZI l x k][h':ZI l' y m](hk:k+m≤1099511627774):ah prog 161 [.agg l,.agg l'] (.agg (zN (x - y))):=by
 refine z2 ⟨_,func161,rfl,rfl⟩ fun neg n neg2 n2 hz hz2 hn hn2=>?_
 subst hz hz2;rw[Int.sub_eq_add_neg];refine ah.fn func161 results161 ntmps161 rfl rfl rfl (by simp[AV.ids,AV0.ids,Atom.ids]) rfl (fun w0 T B E0 hB=>?_)
 repeat(first|refine SX.goM ?_|(refine SX.Go1.is ?_;refine SX.Go1.dH ?_;first
    |refine SX.Go1.call rfl (zNeg (by omega)) rfl rfl ?_
    |refine SX.Go1.call rfl (zAdd (by omega)) rfl rfl ?_))
 exact aC.eq1 (ak.fC rfl rfl rfl) rfl
theorem ar4(a b:Bool)(n m:Nat):sgn (!(a==b)) (n*m)=sgn a n*sgn b m:=by unfold sgn;cases a <;> cases b <;> simp[Int.neg_mul,Int.mul_neg]
theorem zMul{l l':List Atom}{x y:Int}{k m:Nat}[h:ZI l x k][h':ZI l' y m](hk:k+m≤274877906944):ah prog 202 [.agg l,.agg l'] (.agg (zN (x*y))):=by
 refine z2 ⟨_,func202,rfl,rfl⟩ fun neg n neg2 n2 hz hz2 hn hn2=>?_
 subst hz hz2;rw[←ar4];refine ah.fn func202 results202 ntmps202 rfl rfl rfl (by simp[AV.ids,AV0.ids,Atom.ids]) rfl (fun w0 T B E0 hB=>?_)
 repeat(first|refine SX.goM ?_|(refine SX.Go1.is ?_;refine SX.Go1.dH ?_;first
    |refine SX.Go1.call rfl (mMul (by omega)) rfl rfl ?_
    |refine SX.Go1.call rfl (oW _ (by omega)) rfl rfl ?_))
 exact aC.eq1 (ak.fC rfl rfl rfl) rfl
def yA(x y:Int):Int:=if x < y then -1 else if x=y then 0 else 1
theorem alk(n m:Nat):yA (sgn true n) (sgn true m)=jL m n:=by
 unfold yA sgn jL;simp;repeat' split <;> omega
theorem am8(n m:Nat):yA (sgn false n) (sgn false m)=jL n m:=by
 unfold yA sgn jL;simp;repeat' split <;> omega
theorem zCmp{l l':List Atom}{x y:Int}{k m:Nat}[h:ZI l x k][h':ZI l' y m](hk:k+m≤1099511627774):ah prog 88 [.agg l,.agg l'] (.v (.int .i64 (yA x y))):=by
 refine z2 ⟨_,func88,rfl,rfl⟩ fun neg n neg2 n2 hz hz2 hn hn2=>?_
 subst hz hz2;refine ah.fn func88 results88 ntmps88 rfl rfl rfl (by simp[AV.ids,AV0.ids,Atom.ids]) rfl (fun w0 T B E0 hB=>?_)
 repeat(first|refine SX.goM ?_|(refine SX.Go1.is ?_;refine SX.Go1.dH ?_;first
    |refine SX.Go1.call rfl (xV (by omega)) rfl rfl ?_))
 have hx:aV (sgn neg n) < 0↔sgn neg n < 0:=by unfold aV;repeat' split <;> omega
 have hx0:0 < aV (sgn neg n)↔0 < sgn neg n:=by unfold aV;repeat' split <;> omega
 have hy:aV (sgn neg2 n2) < 0↔sgn neg2 n2 < 0:=by unfold aV;repeat' split <;> omega
 have hy0:0 < aV (sgn neg2 n2)↔0 < sgn neg2 n2:=by unfold aV;repeat' split <;> omega
 have hxr: -1≤aV (sgn neg n)∧aV (sgn neg n)≤1:=by unfold aV;repeat' split <;> omega
 have hyr: -1≤aV (sgn neg2 n2)∧aV (sgn neg2 n2)≤1:=by unfold aV;repeat' split <;> omega
 refine WP.cond rfl (fun hc=>?_) (fun hc=>?_)
 ·repeat(first|refine SX.goM ?_)
  refine aC.eq1 (ak.tmp rfl) ?_;have:yA (sgn neg n) (sgn neg2 n2)= -1:=by unfold yA;rw[if_pos (by simp at hc;omega)]
  rw[this]
 ·repeat(first|refine SX.goM ?_)
  refine WP.cond rfl (fun hc2=>?_) (fun hc2=>?_)
  ·repeat(first|refine SX.goM ?_)
   refine aC.eq1 (ak.tmp rfl) ?_;have:yA (sgn neg n) (sgn neg2 n2)=1:=by unfold yA;rw[if_neg (by simp at hc2;omega),if_neg (by simp at hc2;omega)]
   rw[this]
  ·repeat(first|refine SX.goM ?_)
   refine WP.cond rfl (fun hc3=>?_) (fun hc3=>?_)
   ·have e1:sgn neg n=sgn true n:=by simp at hc hc2 hc3;unfold sgn at*;cases neg <;> simp at* <;> omega
    have e2:sgn neg2 n2=sgn true n2:=by simp at hc hc2 hc3;unfold sgn at*;cases neg2 <;> simp at* <;> omega
    repeat(first|refine SX.goM ?_|(refine SX.Go1.is ?_;refine SX.Go1.dH ?_;first
       |refine SX.Go1.call rfl (nCmp (by omega)) rfl rfl ?_))
    rw[e1,e2,alk];exact aC.eq1 (ak.tmp rfl) rfl
   ·have e1:sgn neg n=sgn false n:=by simp at hc hc2 hc3;unfold sgn at*;cases neg <;> simp at* <;> omega
    have e2:sgn neg2 n2=sgn false n2:=by simp at hc hc2 hc3;unfold sgn at*;cases neg2 <;> simp at* <;> omega
    repeat(first|refine SX.goM ?_|(refine SX.Go1.is ?_;refine SX.Go1.dH ?_;first
       |refine SX.Go1.call rfl (nCmp (by omega)) rfl rfl ?_))
    rw[e1,e2,am8];exact aC.eq1 (ak.tmp rfl) rfl
theorem alj(x y:Int):decide (yA x y=0)=decide (x=y):=by
 unfold yA;rw[decide_eq_decide];repeat' split <;> omega
theorem arL{l l':List Atom}{x y:Int}{k m:Nat}[h:ZI l x k][h':ZI l' y m](hk:k+m≤1099511627774):ah prog 48 [.agg l,.agg l'] (.v (.bool (decide (x=y)))):=by
 refine z2 ⟨_,func48,rfl,rfl⟩ fun neg n neg2 n2 hz hz2 hn hn2=>?_
 subst hz hz2;rw[←alj];refine ah.fn func48 results48 ntmps48 rfl rfl rfl (by simp[AV.ids,AV0.ids,Atom.ids]) rfl (fun w0 T B E0 hB=>?_)
 repeat(first|refine SX.goM ?_|(refine SX.Go1.is ?_;refine SX.Go1.dH ?_;first
    |refine SX.Go1.call rfl (zCmp (by omega)) rfl rfl ?_))
 exact aC.eq1 (ak.tmp rfl) rfl
theorem zBits{l:List Atom}{z:Int}{k:Nat}[h:ZI l z k](hk:k≤1099511627775):ah prog 147 [.agg l] (.v (.int .i64 (bitLen z.natAbs:Int))):=by
 refine z1 ⟨_,func147,rfl,rfl⟩ fun neg n hz hn=>?_
 subst hz;rw[gL];refine ah.fn func147 results147 ntmps147 rfl rfl rfl (by simp[AV.ids,AV0.ids,Atom.ids]) rfl (fun w0 T B E0 hB=>?_)
 repeat(first|refine SX.goM ?_|(refine SX.Go1.is ?_;refine SX.Go1.dH ?_;first
    |refine SX.Go1.call rfl (afe (by omega)) rfl rfl ?_))
 exact aC.eq1 (ak.tmp rfl) rfl
def mR(z:Int):Bool:=decide (-9223372036854775808≤z)&&decide (z≤9223372036854775807)
def rZ(z:Int):Int:=if mR z then z else 0
theorem ati{l:List Atom}{z:Int}{k:Nat}[h:ZI l z k](hk:k≤1099511627775):ah prog 332 [.agg l] (.tup [.one (.c (.val (.int .i64 (rZ z)))),.one (.c (.val (.bool (mR z))))]):=by
 refine z1 ⟨_,func332,rfl,rfl⟩ fun neg n hz hn=>?_
 subst hz;refine ah.fn func332 results332 ntmps332 rfl rfl rfl (by simp[AV.ids,AV0.ids,Atom.ids]) rfl (fun w0 T B E0 hB=>?_)
 repeat(first|refine SX.goM ?_|(refine SX.Go1.is ?_;refine SX.Go1.dH ?_;first
    |refine SX.Go1.call rfl (ail (by omega)) rfl rfl ?_
    |refine SX.Go1.call rfl (xV (by omega)) rfl rfl ?_))
 have hsg:decide (aV (sgn neg n) < 0)=decide (sgn neg n < 0):=by
  rw[decide_eq_decide];unfold aV;repeat' split <;> omega
 have hab:=gL neg n;have hW:=bB;generalize sgn neg n=z at*;generalize hd:decide (aV z < 0)=s at*;generalize hX:(if n < WB then n else 0)=X at*
 refine WP.cond rfl (fun hc=>?_) (fun hc=>?_)
 ·have hb:mR z=false:=by unfold mR;simp at hc ⊢;omega
  repeat(first|refine SX.goM ?_)
  refine aC.eq2 (ak.tmp rfl) (ak.tmp rfl) ?_ ?_
  ·unfold rZ;rw[hb];rfl
  ·rw[hb]
 ·have hlt:n < WB:=by simpa using hc
  rw[if_pos hlt]at hX;subst hX;cases s with
  |true=>
   have hz:z < 0:=by simpa using hsg.symm
   repeat(first|refine SX.goM ?_)
   refine WP.cond rfl (fun hc=>?_) (fun hc=>?_)
   ·have hb:mR z=false:=by unfold mR;simp at hc ⊢;omega
    repeat(first|refine SX.goM ?_)
    refine aC.eq2 (ak.tmp rfl) (ak.tmp rfl) ?_ ?_
    ·unfold rZ;rw[hb];rfl
    ·rw[hb]
   ·have hb:mR z=true:=by unfold mR;simp at hc ⊢;omega
    repeat(first|refine SX.goM ?_)
    refine aC.eq2 (ak.tmp rfl) (ak.tmp rfl) ?_ ?_
    ·have e:rZ z=z:=by unfold rZ;rw[hb];rfl
     have e2:IntKind.i64.wrap (0 - IntKind.i64.wrap (n:Int))=z:=by simp at hc;simp only[IntKind.wrap_i64];omega
     rw[e,e2]
    ·rw[hb]
  |false=>
   have hz:0≤z:=by simpa using hsg.symm
   repeat(first|refine SX.goM ?_)
   refine WP.cond rfl (fun hc=>?_) (fun hc=>?_)
   ·have hb:mR z=false:=by unfold mR;simp at hc ⊢;omega
    repeat(first|refine SX.goM ?_)
    refine aC.eq2 (ak.tmp rfl) (ak.tmp rfl) ?_ ?_
    ·unfold rZ;rw[hb];rfl
    ·rw[hb]
   ·have hb:mR z=true:=by unfold mR;simp at hc ⊢;omega
    repeat(first|refine SX.goM ?_)
    refine aC.eq2 (ak.tmp rfl) (ak.tmp rfl) ?_ ?_
    ·have e:rZ z=z:=by unfold rZ;rw[hb];rfl
     have e2:IntKind.i64.wrap (n:Int)=z:=by simp at hc;simp only[IntKind.wrap_i64];omega
     rw[e,e2]
    ·rw[hb]
end
section
attribute [local irreducible] IntKind.wrap bitLen jL nval Go1 Reg WP aS aT bR aC ak aj aX Sat
def nQ(x y:Int):Int:=if y=0 then 0 else x.tmod y
theorem aq6(a b:Bool)(n m:Nat):sgn (!(a==b)) (n / m)=(sgn a n).tdiv (sgn b m):=by
 unfold sgn;cases a <;> cases b <;> simp[Int.neg_tdiv,Int.tdiv_neg]
theorem pJ{b:Bool}{m:Nat}:sgn b m=0↔m=0:=by unfold sgn;cases b <;> simp
theorem arj(a b:Bool)(n m:Nat):sgn a (if m=0 then 0 else n % m)=nQ (sgn a n) (sgn b m):=by
 unfold nQ;by_cases h:m=0
 ·rw[if_pos h,if_pos (pJ.2 h)];cases a <;> rfl
 ·rw[if_neg h,if_neg (fun e=>h (pJ.1 e))]
  unfold sgn;cases a <;> cases b <;> simp[Int.neg_tmod,Int.tmod_neg,Int.tmod_eq_emod_of_nonneg (Int.natCast_nonneg n)]
instance Bd.tdiv(x y:Int)(k:Nat)[h:Bd x k]:Bd (x.tdiv y) k:=⟨by rw[Int.natAbs_tdiv];exact Nat.lt_of_le_of_lt (Nat.div_le_self _ _) h.h⟩
instance Bd.nQ(x y:Int)(k:Nat)[h:Bd x k]:Bd (nQ x y) k:=⟨by
 unfold Proofs.YtegehclknhmkgaaGreatDoor.nQ
 split
 ·exact Nat.lt_of_lt_of_le (by decide) (fE k)
 ·rw[Int.natAbs_tmod];exact Nat.lt_of_le_of_lt (Nat.mod_le _ _) h.h⟩
attribute [local irreducible] sgn aV nQ
theorem zQuo{l l':List Atom}{x y:Int}{k m:Nat}[h:ZI l x k][h':ZI l' y m](hk:k+m≤1099511627770):ah prog 232 [.agg l,.agg l'] (.tup [.agg (zN (x.tdiv y)),.agg (zN (nQ x y)),.one (.c (.val (.bool (decide (y≠0)))))]):=by
 refine z2 ⟨_,func232,rfl,rfl⟩ fun neg n neg2 n2 hz hz2 hn hn2=>?_
 subst hz hz2;rw[←aq6,←arj,show decide (sgn neg2 n2≠0)=decide (n2≠0)by rw[decide_eq_decide,ne_eq,ne_eq,pJ]]
 refine ah.fn func232 results232 ntmps232 rfl rfl rfl (by simp[AV.ids,AV0.ids,Atom.ids]) rfl (fun w0 T B E0 hB=>?_)
 repeat(first|refine SX.goM ?_|(refine SX.Go1.is ?_;refine SX.Go1.dH ?_;first
    |refine SX.Go1.call rfl (adW (by omega)) rfl rfl ?_
    |refine SX.Go1.call rfl (oW _ (by omega)) rfl rfl ?_))
 exact aC.eq3 (ak.fC rfl rfl rfl) (ak.fC rfl rfl rfl) (ak.tmp rfl) rfl rfl rfl
theorem zOne:ah prog 509 [] (.agg (zN 1)):=by
 refine ah.fn func509 results509 ntmps509 rfl rfl rfl (by simp) rfl (fun w0 T B E0 hB=>?_)
 repeat(first|refine SX.goM ?_|(refine SX.Go1.is ?_;refine SX.Go1.dH ?_;first
    |refine SX.Go1.call rfl (zOf 1 (by omega) (by omega)) rfl rfl ?_))
 exact aC.eq1 (ak.fC rfl rfl rfl) rfl
def zfq(x y:Int):Int:=if y=0 then 0 else x.fdiv y
def zfr(x y:Int):Int:=if y=0 then 0 else x.fmod y
theorem aaZ{x y:Int}(hy:y≠0)(h:x.tmod y*y < 0):x.tdiv y - 1=x.fdiv y∧x.tmod y+y=x.fmod y:=by
 have h1:=Int.tmod_add_mul_tdiv x y;have h2:=Int.fmod_add_mul_fdiv x y;have hq:x.tdiv y - 1=x.fdiv y:=by
  have h0:¬y ∣ x:=fun hd=>by rw[Int.tmod_eq_zero_of_dvd hd]at h;simp at h
  rw[Int.tdiv_eq_ediv,Int.fdiv_eq_ediv];have hs:(x.tmod y < 0∧0 < y)∨(0 < x.tmod y∧y < 0):=by
   rcases Int.lt_trichotomy (x.tmod y) 0 with ha|ha|ha
   ·refine .inl ⟨ha,?_⟩;rcases Int.lt_trichotomy y 0 with hb|hb|hb
    ·have:=Int.mul_pos_of_neg_of_neg ha hb;omega
    ·exact absurd hb hy
    ·exact hb
   ·rw[ha]at h;simp at h
   ·refine .inr ⟨ha,?_⟩;rcases Int.lt_trichotomy y 0 with hb|hb|hb
    ·exact hb
    ·exact absurd hb hy
    ·have:=Int.mul_pos ha hb;omega
  rcases hs with⟨a,b⟩|⟨a,b⟩
  ·have hx:x < 0:=by
    rcases Int.lt_or_le x 0 with hx|hx
    ·exact hx
    ·have:=Int.tmod_nonneg y hx;omega
   rw[if_neg (by simp[h0];omega),if_pos (by left;omega)]
   rw[Int.sign_eq_one_of_pos b];omega
  ·have hx:0 < x:=by
    rcases Int.lt_or_le 0 x with hx|hx
    ·exact hx
    ·have:=Int.tmod_nonneg y (show 0≤ -x by omega);rw[Int.neg_tmod]at this;omega
   rw[if_pos (by left;omega),if_neg (by simp[h0];omega)];omega
 refine⟨hq,?_⟩;rw[←hq,Int.mul_sub]at h2;omega
theorem aaF{x y:Int}(hy:y≠0)(h:¬x.tmod y*y < 0):x.tdiv y=x.fdiv y∧x.tmod y=x.fmod y:=by
 have h1:=Int.tmod_add_mul_tdiv x y;have h2:=Int.fmod_add_mul_fdiv x y;have hq:x.tdiv y=x.fdiv y:=by
  rw[Int.tdiv_eq_ediv,Int.fdiv_eq_ediv];by_cases hd:y ∣ x
  ·rw[if_pos (.inr hd),if_pos (.inr hd)];omega
  ·have h0:x.tmod y≠0:=fun e=>hd (Int.dvd_of_tmod_eq_zero e)
   rcases Int.lt_trichotomy y 0 with hb|hb|hb
   ·have:x.tmod y < 0:=by
     rcases Int.lt_trichotomy (x.tmod y) 0 with ha|ha|ha
     ·exact ha
     ·exact absurd ha h0
     ·have:=Int.mul_neg_of_pos_of_neg ha hb;omega
    have hx:x < 0:=by
     rcases Int.lt_or_le x 0 with hx|hx
     ·exact hx
     ·have:=Int.tmod_nonneg y hx;omega
    rw[if_neg (by simp[hd];omega),if_neg (by simp[hd];omega),Int.sign_eq_neg_one_of_neg hb];omega
   ·exact absurd hb hy
   ·have:0 < x.tmod y:=by
     rcases Int.lt_trichotomy (x.tmod y) 0 with ha|ha|ha
     ·have:=Int.mul_neg_of_neg_of_pos ha hb;omega
     ·exact absurd ha h0
     ·exact ha
    have hx:0≤x:=by
     rcases Int.lt_or_le x 0 with hx|hx
     ·have:=Int.tmod_nonneg y (show 0≤ -x by omega);rw[Int.neg_tmod]at this;omega
     ·exact hx
    rw[if_pos (.inl hx),if_pos (.inl (by omega))];omega
 refine⟨hq,?_⟩;rw[←hq]at h2;omega
instance Bd.zfq(x y:Int)(k:Nat)[h:Bd x k]:Bd (zfq x y) (k+1+1):=⟨by
 unfold Proofs.YtegehclknhmkgaaGreatDoor.zfq
 split
 ·exact Nat.lt_of_lt_of_le (by decide) (fE _)
 ·by_cases h0:x.tmod y*y < 0
  ·rw[←(aaZ (by assumption) h0).1];exact(Bd.sub (x.tdiv y) 1 k 1).h
  ·rw[←(aaF (by assumption) h0).1];exact Bd.mono (Bd.tdiv x y k).h (by omega)⟩
instance Bd.zfr(x y:Int)(k m:Nat)[h:Bd x k][h':Bd y m]:Bd (zfr x y) (k+m+1):=⟨by
 unfold Proofs.YtegehclknhmkgaaGreatDoor.zfr
 split
 ·exact Nat.lt_of_lt_of_le (by decide) (fE _)
 ·have hb:Bd (x.tmod y) k:=⟨by rw[Int.natAbs_tmod];exact Nat.lt_of_le_of_lt (Nat.mod_le _ _) h.h⟩
  by_cases h0:x.tmod y*y < 0
  ·rw[←(aaZ (by assumption) h0).2];exact(Bd.add (x.tmod y) y k m).h
  ·rw[←(aaF (by assumption) h0).2];exact Bd.mono hb.h (by omega)⟩
attribute [local irreducible] zfq zfr
def zeq(x y:Int):Int:=if y=0 then 0 else x / y
def zer(x y:Int):Int:=if y=0 then 0 else x % y
theorem aeB{x y:Int}(hy:y≠0)(h:0≤x.tmod y):x.tdiv y=x / y∧x.tmod y=x % y:=by
 have h1:=Int.tmod_add_mul_tdiv x y;have h2:=Int.emod_add_mul_ediv x y;have hq:x.tdiv y=x / y:=by
  rw[Int.tdiv_eq_ediv];by_cases hd:y ∣ x
  ·rw[if_pos (.inr hd)];omega
  ·have h0:x.tmod y≠0:=fun e=>hd (Int.dvd_of_tmod_eq_zero e)
   have hx:0≤x:=by
    rcases Int.lt_or_le x 0 with hx|hx
    ·have:=Int.tmod_nonneg y (show 0≤ -x by omega);rw[Int.neg_tmod]at this;omega
    ·exact hx
   rw[if_pos (.inl hx)];omega
 refine⟨hq,?_⟩;rw[←hq]at h2;omega
theorem af9{x y:Int}(hy:y≠0)(h:x.tmod y < 0):(0 < y→x.tdiv y - 1=x / y∧x.tmod y+y=x % y)∧(y < 0→x.tdiv y+1=x / y∧x.tmod y - y=x % y):=by
 have h1:=Int.tmod_add_mul_tdiv x y;have h2:=Int.emod_add_mul_ediv x y;have hd:¬y ∣ x:=fun hd=>by rw[Int.tmod_eq_zero_of_dvd hd]at h;omega
 have hx:x < 0:=by
  rcases Int.lt_or_le x 0 with hx|hx
  ·exact hx
  ·have:=Int.tmod_nonneg y hx;omega
 have hq:x.tdiv y=x / y+y.sign:=by rw[Int.tdiv_eq_ediv,if_neg (by simp[hd];omega)]
 constructor
 ·intro hp;rw[Int.sign_eq_one_of_pos hp]at hq;have e:x.tdiv y - 1=x / y:=by omega
  refine⟨e,?_⟩;rw[←e,Int.mul_sub]at h2;omega
 ·intro hp;rw[Int.sign_eq_neg_one_of_neg hp]at hq;have e:x.tdiv y+1=x / y:=by omega
  refine⟨e,?_⟩;rw[←e,Int.mul_add]at h2;omega
theorem akp(z:Int):decide (0 < aV z)=decide (0 < z):=by
 rw[decide_eq_decide];unfold aV;repeat' split <;> omega
theorem adO(z:Int):decide (0≤aV z)=decide (0≤z):=by
 rw[decide_eq_decide];unfold aV;repeat' split <;> omega
theorem ahH(z:Int):decide (aV z=0)=decide (z=0):=by
 rw[decide_eq_decide];unfold aV;repeat' split <;> omega
theorem aqB{l l':List Atom}{x y:Int}{k m:Nat}[h:ZI l x k][h':ZI l' y m](hk:k+m≤1099511627760):ah prog 501 [.agg l,.agg l'] (.tup [.agg (zN (zeq x y)),.agg (zN (zer x y)),.one (.c (.val (.bool (decide (y≠0)))))]):=by
 refine z2 ⟨_,func501,rfl,rfl⟩ fun neg n neg2 n2 hz hz2 hn hn2=>?_
 refine ah.fn func501 results501 ntmps501 rfl rfl rfl (by simp[AV.ids,AV0.ids,Atom.ids]) rfl (fun w0 T B E0 hB=>?_)
 have hbx:Bd x k:=by rw[hz];infer_instance
 have hby:Bd y m:=by rw[hz2];infer_instance
 by_cases hy:y=0
 ·have hok:decide (y≠0)=false:=by simp[hy]
  have hok2:(!decide (y≠0))=true:=by simp[hy]
  rw[hz2]at hok hok2;subst hz hz2;repeat(first|refine SX.goM ?_|(refine SX.Go1.is ?_;refine SX.Go1.dH ?_;first
     |refine SX.Go1.call rfl (zQuo (by omega)) rfl rfl ?_))
  refine aC.eq3 (ak.fC rfl rfl rfl) (ak.fC rfl rfl rfl) (ak.tmp rfl) ?_ ?_ rfl
  ·have:zeq (sgn neg n) (sgn neg2 n2)=(sgn neg n).tdiv (sgn neg2 n2):=by unfold zeq;rw[if_pos hy,hy,Int.tdiv_zero]
   rw[this]
  ·have:zer (sgn neg n) (sgn neg2 n2)=nQ (sgn neg n) (sgn neg2 n2):=by unfold zer nQ;rw[if_pos hy,if_pos hy]
   rw[this]
 ·have hok:decide (y≠0)=true:=by simp[hy]
  have hok2:(!decide (y≠0))=false:=by simp[hy]
  rw[hz2]at hok hok2;subst hz hz2;have hr:nQ (sgn neg n) (sgn neg2 n2)=(sgn neg n).tmod (sgn neg2 n2):=by unfold nQ;rw[if_neg hy]
  have bq:Bd ((sgn neg n).tdiv (sgn neg2 n2)) k:=inferInstance;have br:Bd ((sgn neg n).tmod (sgn neg2 n2)) k:=by rw[←hr];infer_instance
  repeat(first|refine SX.goM ?_|(refine SX.Go1.is ?_;refine SX.Go1.dH ?_;first
     |refine SX.Go1.call rfl (zQuo (by omega)) rfl rfl ?_
     |refine SX.Go1.call rfl (xV (by omega)) rfl rfl ?_))
  rw[adO,hr];refine WP.cond rfl (fun hc=>?_) (fun hc=>?_)
  ·obtain⟨e1,e2⟩:=aeB hy (by simpa using hc)
   repeat(first|refine SX.goM ?_)
   refine aC.eq3 (ak.fC rfl rfl rfl) (ak.fC rfl rfl rfl) (ak.tmp rfl) ?_ ?_ rfl
   ·unfold zeq;rw[if_neg hy,e1]
   ·unfold zer;rw[if_neg hy,e2]
  ·obtain⟨e1,e2⟩:=af9 hy (by simpa using hc)
   repeat(first|refine SX.goM ?_|(refine SX.Go1.is ?_;refine SX.Go1.dH ?_;first
      |refine SX.Go1.call rfl (xV (by omega)) rfl rfl ?_))
   rw[akp];refine WP.cond rfl (fun hc2=>?_) (fun hc2=>?_)
   ·obtain⟨e1,e2⟩:=e1 (by simpa using hc2)
    repeat(first|refine SX.goM ?_|(refine SX.Go1.is ?_;refine SX.Go1.dH ?_;first
       |refine SX.Go1.call rfl (zOne) rfl rfl ?_
       |refine SX.Go1.call rfl (zSub (by omega)) rfl rfl ?_
       |refine SX.Go1.call rfl (zAdd (by omega)) rfl rfl ?_))
    refine aC.eq3 (ak.fC rfl rfl rfl) (ak.fC rfl rfl rfl) (ak.tmp rfl) ?_ ?_ ?_
    ·unfold zeq;rw[if_neg hy,e1]
    ·unfold zer;rw[if_neg hy,e2]
    ·rw[hok]
   ·obtain⟨e1,e2⟩:=e2 (by simp at hc2;omega)
    repeat(first|refine SX.goM ?_|(refine SX.Go1.is ?_;refine SX.Go1.dH ?_;first
       |refine SX.Go1.call rfl (zOne) rfl rfl ?_
       |refine SX.Go1.call rfl (zSub (by omega)) rfl rfl ?_
       |refine SX.Go1.call rfl (zAdd (by omega)) rfl rfl ?_))
    refine aC.eq3 (ak.fC rfl rfl rfl) (ak.fC rfl rfl rfl) (ak.tmp rfl) ?_ ?_ ?_
    ·unfold zeq;rw[if_neg hy,e1]
    ·unfold zer;rw[if_neg hy,e2]
    ·rw[hok]
end
section
attribute [local irreducible] IntKind.wrap bitLen jL nval Go1 Reg WP aS aT bR aC ak aj aX Sat
attribute [local irreducible] sgn aV nQ zfq zfr
def ad7(x y:Int):Int:=if y < 0 then zfq (-x+ -x+ -y) (-y+ -y)else zfq (x+x+y) (y+y)
theorem zN0:AV0.imp (.agg [.c (.val (.bool false)),.c (.val (.slice none 0 0))]) (.agg (zN 0)):=by
 rintro E S w v ⟨vs,hv,hall⟩
 match vs,hall with
 |[a,b],⟨h1,h2,_⟩=>
  refine⟨[a,b],hv,h1,?_,trivial⟩;rw[show b=_ from h2]
  exact bD.zero
def nN(x y:Int):Bool:=decide (y≠0)&&decide (nQ x y=0)
def gu(x y:Int):Int:=if nN x y then x.tdiv y else 0
instance Bd.gu(x y:Int)(k:Nat)[h:Bd x k]:Bd (gu x y) k:=⟨by
 unfold Proofs.YtegehclknhmkgaaGreatDoor.gu
 split
 ·exact(Bd.tdiv x y k).h
 ·exact Nat.lt_of_lt_of_le (by decide) (fE _)⟩
theorem atx{l l':List Atom}{x y:Int}{k m:Nat}[h:ZI l x k][h':ZI l' y m](hk:k+m≤1099511627760):ah prog 199 [.agg l,.agg l'] (.tup [.agg (zN (gu x y)),.one (.c (.val (.bool (nN x y))))]):=by
 refine z2 ⟨_,func199,rfl,rfl⟩ fun neg n neg2 n2 hz hz2 hn hn2=>?_
 refine ah.fn func199 results199 ntmps199 rfl rfl rfl (by simp[AV.ids,AV0.ids,Atom.ids]) rfl (fun w0 T B E0 hB=>?_)
 by_cases hy:y=0
 ·have hok:decide (y≠0)=false:=by simp[hy]
  have hok2:(!decide (y≠0))=true:=by simp[hy]
  have he:nN x y=false:=by unfold nN;rw[hok];rfl
  have hq:gu x y=0:=by unfold gu;rw[he];rfl
  rw[he,hq];rw[hz2]at hok hok2;subst hz hz2;repeat(first|refine SX.goM ?_|(refine SX.Go1.is ?_;refine SX.Go1.dH ?_;first
     |refine SX.Go1.call rfl (zQuo (by omega)) rfl rfl ?_))
  exact aC.mk2 (ak.imp (ak.fC rfl rfl rfl) zN0) (ak.tmp rfl)
 ·have hok:decide (y≠0)=true:=by simp[hy]
  have hok2:(!decide (y≠0))=false:=by simp[hy]
  rw[hz2]at hok hok2;subst hz hz2;repeat(first|refine SX.goM ?_|(refine SX.Go1.is ?_;refine SX.Go1.dH ?_;first
     |refine SX.Go1.call rfl (zQuo (by omega)) rfl rfl ?_
     |refine SX.Go1.call rfl (xV (by omega)) rfl rfl ?_))
  have hne:decide (aV (nQ (sgn neg n) (sgn neg2 n2))≠0)=decide (nQ (sgn neg n) (sgn neg2 n2)≠0):=by
   have:=ahH (nQ (sgn neg n) (sgn neg2 n2));rw[decide_eq_decide]at*;omega
  rw[hne];refine WP.cond rfl (fun hc=>?_) (fun hc=>?_)
  ·have hz0:nQ (sgn neg n) (sgn neg2 n2)≠0:=by simpa using hc
   have he:nN (sgn neg n) (sgn neg2 n2)=false:=by unfold nN;simp[hz0]
   have hq:gu (sgn neg n) (sgn neg2 n2)=0:=by unfold gu;rw[he];rfl
   rw[he,hq];repeat(first|refine SX.goM ?_)
   exact aC.mk2 (ak.imp (ak.fC rfl rfl rfl) zN0) (ak.tmp rfl)
  ·have hz0:nQ (sgn neg n) (sgn neg2 n2)=0:=by simpa using hc
   have he:nN (sgn neg n) (sgn neg2 n2)=true:=by unfold nN;rw[hok];simp[hz0]
   have hq:gu (sgn neg n) (sgn neg2 n2)=(sgn neg n).tdiv (sgn neg2 n2):=by unfold gu;rw[he];rfl
   rw[he,hq];repeat(first|refine SX.goM ?_)
   exact aC.mk2 (ak.fC rfl rfl rfl) (ak.tmp rfl)
theorem akD(n:Nat):sgn false n=(n:Int):=by unfold sgn;simp
theorem zGcd{l l':List Atom}{x y:Int}{k m:Nat}[h:ZI l x k][h':ZI l' y m](hk:k+m≤1099511627760):ah prog 49 [.agg l,.agg l'] (.agg (zN (Int.gcd x y:Int))):=by
 refine z2 ⟨_,func49,rfl,rfl⟩ fun neg n neg2 n2 hz hz2 hn hn2=>?_
 subst hz hz2;rw[show (Int.gcd (sgn neg n) (sgn neg2 n2):Int)=sgn false (Nat.gcd n n2)by rw[akD];unfold Int.gcd;rw[gL,gL]]
 refine ah.fn func49 results49 ntmps49 rfl rfl rfl (by simp[AV.ids,AV0.ids,Atom.ids]) rfl (fun w0 T B E0 hB=>?_)
 repeat(first|refine SX.goM ?_|(refine SX.Go1.is ?_;refine SX.Go1.dH ?_;first
    |refine SX.Go1.call rfl (dGcd (by omega)) rfl rfl ?_
    |refine SX.Go1.call rfl (oW _ (by omega)) rfl rfl ?_))
 exact aC.eq1 (ak.fC rfl rfl rfl) rfl
instance BdN.igcd(x y:Int)(k m:Nat)[hx:Bd x k][hy:Bd y m]:BdN (Int.gcd x y) (k+m):=⟨(BdN.gcd x.natAbs y.natAbs k m).h⟩
end
section
attribute [local irreducible] IntKind.wrap bitLen jL nval Go1 Reg WP aS aT bR aC ak aj aX Sat
theorem aqT{a:CA}{x k:Nat}[ha:NI a x k](hk:k+k≤274877906944):ah prog 79 [.it (.one (.c a))] (.r (bD (x*x))):=by
 refine ah.fn func79 results79 ntmps79 rfl rfl rfl (by simp[AV.ids,AV0.ids,Atom.ids]) rfl (fun w0 T B E0 hB=>?_)
 repeat(first|refine SX.goM ?_|(refine SX.Go1.is ?_;refine SX.Go1.dH ?_;first
    |refine SX.Go1.call rfl (mMul (by omega)) rfl rfl ?_))
 exact aC.eq1 (ak.tmp rfl) rfl
def ach(x:Nat)(n:Int):Bool:=decide (0≤n)&&(decide (bitLen x=0)||decide (n≤((1048576 / bitLen x:Nat):Int)))
def agA(x:Nat)(n:Int):Nat:=if ach x n=true then x ^ n.toNat else 0
theorem auf{x e N b K W:Nat}(hW:1 < W)(hx:x < 2 ^ b)(he:e≤N)(hN:N*b≤64*K)(hK:0 < K)(hw:W=2 ^ 64):x ^ e < W ^ K:=by
 subst hw;rw[←Nat.pow_mul];cases e with
 |zero=>rw[Nat.pow_zero];exact Nat.one_lt_two_pow (by omega)
 |succ e=>
  refine Nat.lt_of_lt_of_le (Nat.pow_lt_pow_left hx (by omega)) ?_
  rw[←Nat.pow_mul];exact Nat.pow_le_pow_right (by omega) (Nat.le_trans (by rw[Nat.mul_comm];exact Nat.mul_le_mul_right b he) hN)
@[irreducible] def pwK:Nat:=16384
theorem pwK_eq:pwK=16384:=by unfold pwK;rfl
theorem atK{x e N:Nat}(he:e≤N)(hN:N*bitLen x≤1048576):BdN (x ^ e) pwK:=⟨auf (K:=pwK) pK (bitLen_spec x).1 he (by rw[pwK_eq];omega) (by rw[pwK_eq];omega) jD⟩
attribute [local irreducible] ach agA
theorem ai1(x:Nat)(n:Int):agA x n < WB ^ pwK:=by
 unfold agA
 split
 ·rename_i h;unfold ach at h;simp only[Bool.and_eq_true,Bool.or_eq_true,decide_eq_true_eq]at h;refine(atK (N:=n.toNat) (Nat.le_refl _) ?_).h;rcases h.2 with hb|hb
  ·rw[hb];omega
  ·have h5:n.toNat≤1048576 / bitLen x:=by omega
   exact Nat.le_trans (Nat.mul_le_mul_right _ h5) (Nat.div_mul_le_self ..)
 ·exact Nat.lt_of_lt_of_le (by decide) (fE pwK)
instance BdN.agA(x:Nat)(n:Int):BdN (agA x n) pwK:=⟨ai1 x n⟩
def abO(z:Int)(n:Int):Int:=if ach z.natAbs n=true then z ^ n.toNat else 0
theorem apU(neg:Bool)(x:Nat)(n:Int):sgn (neg&&decide (n.tmod 2≠0)) (agA x n)=abO (sgn neg x) n:=by
 unfold agA abO;rw[gL]
 split
 ·rename_i h;have h0:0≤n:=by unfold ach at h;simp at h;exact h.1
  have ht:n.tmod 2=((n.toNat % 2:Nat):Int):=by rw[Int.tmod_eq_emod_of_nonneg h0];omega
  unfold sgn;cases neg
  ·simp
  ·rcases Nat.mod_two_eq_zero_or_one n.toNat with e|e
   ·rw[ht,e];simp;rw[show (-(x:Int)) ^ n.toNat=(x:Int) ^ n.toNat from ?_]
    obtain⟨m,hm⟩:∃m,n.toNat=2*m:=⟨n.toNat / 2,by omega⟩
    rw[hm,Int.pow_mul,Int.pow_mul];congr 1;simp[Int.pow_succ,Int.neg_mul_neg]
   ·rw[ht,e];simp;obtain⟨m,hm⟩:∃m,n.toNat=2*m+1:=⟨n.toNat / 2,by omega⟩
    rw[hm,Int.pow_succ,Int.pow_succ,Int.pow_mul,Int.pow_mul,show (-(x:Int)) ^ 2=(x:Int) ^ 2 by simp[Int.pow_succ,Int.neg_mul_neg],Int.mul_neg]
 ·unfold sgn;simp
instance Bd.abO(z:Int)(n:Int):Bd (abO z n) pwK:=⟨by
 have h:=apU (decide (z < 0)) z.natAbs n;rw[aej]at h;rw[←h,gL];exact ai1 _ _⟩
attribute [local irreducible] sgn abO
end
section
def jd:Nat→Nat→List UInt8
 |0,_=>[]
 |n+1,x=>jd n (x / 10)++[UInt8.ofNat (48+x % 10)]
theorem uK:∀n x,(jd n x).length=n
 |0,_=>rfl
 |n+1,x=>by rw[jd,List.length_append,uK n];rfl
theorem afJ:∀(m n x:Nat),jd (n+m) x=jd n (x / 10 ^ m)++jd m (x % 10 ^ m)
 |0,n,x=>by simp[jd]
 |m+1,n,x=>by
  have e1:x / 10 ^ (m+1)=x / 10 / 10 ^ m:=by rw[Nat.div_div_eq_div_mul,Nat.pow_succ,Nat.mul_comm]
  have e2:x % 10 ^ (m+1) / 10=x / 10 % 10 ^ m:=by rw[Nat.pow_succ,Nat.mul_comm,Nat.mod_mul_right_div_self]
  have e3:x % 10 ^ (m+1) % 10=x % 10:=by rw[Nat.pow_succ,Nat.mul_comm,Nat.mod_mul_right_mod]
  rw[←Nat.add_assoc,jd,afJ m n,jd,e1,e2,e3,List.append_assoc]
def dig(x:Nat):List UInt8:=if h:x=0 then []else dig (x / 10)++[UInt8.ofNat (48+x % 10)]
decreasing_by omega
theorem jC:dig 0=[]:=by rw[dig];rfl
theorem nk{x:Nat}(h:x≠0):dig x=dig (x / 10)++[UInt8.ofNat (48+x % 10)]:=by rw[dig,dif_neg h]
theorem acj:∀n,(jd n 0).all (· ==48)=true
 |0=>rfl
 |n+1=>by rw[jd,List.all_append,show 0 / 10=0 from rfl,acj n];decide
theorem rV{p:UInt8→Bool}:∀{l:List UInt8},l.all p=true→∀m,(l++m).dropWhile p=m.dropWhile p
 |[],_,m=>rfl
 |a::l,h,m=>by
  rw[List.all_cons,Bool.and_eq_true]at h;rw[List.cons_append,List.dropWhile_cons,if_pos h.1];exact rV h.2 m
theorem vg{p:UInt8→Bool}:∀{l:List UInt8} (m:List UInt8),l.dropWhile p≠[]→(l++m).dropWhile p=l.dropWhile p++m
 |[],m,h=>absurd rfl h
 |a::l,m,h=>by
  rw[List.cons_append,List.dropWhile_cons,List.dropWhile_cons]at*;cases hp:p a
  ·simp
  ·simp only[hp,if_true]at h ⊢;exact vg m h
theorem ahr{x:Nat}(h:x≠0):dig x≠[]:=by rw[nk h];simp
theorem aqJ{d:Nat}(h0:d≠0)(h1:d < 10):(UInt8.ofNat (48+d)==48)=false:=by
 rw[beq_eq_false_iff_ne];intro e;have:=congrArg UInt8.toNat e;rw[UInt8.toNat_ofNat']at this;have h48:(48:UInt8).toNat=48:=rfl;omega
theorem xu:∀(n x:Nat),x < 10 ^ n→(jd n x).dropWhile (· ==48)=dig x
 |0,x,h=>by
  have:x=0:=by simpa using h
  subst this;rw[jC];rfl
 |n+1,x,h=>by
  have hx:x / 10 < 10 ^ n:=by rw[Nat.pow_succ]at h;omega
  have ih:=xu n (x / 10) hx;rw[jd];by_cases h0:x / 10=0
  ·rw[h0,rV (acj n)];by_cases hx0:x=0
   ·subst hx0;rw[jC];decide
   ·rw[nk hx0,h0,jC,List.dropWhile_cons,aqJ (by omega) (by omega)];rfl
  ·rw[vg _ (by rw[ih];exact ahr h0),ih,←nk (by omega)]
def nD:Nat→Nat
 |0=>18
 |j+1=>nD j+nD j
def pw(j:Nat):Nat:=10 ^ nD j
theorem aij:pw 0=1000000000000000000:=rfl
theorem adV(j:Nat):pw (j+1)=pw j*pw j:=by unfold pw;rw[nD,Nat.pow_add]
theorem aoT(j:Nat):0 < pw j:=Nat.pow_pos (by decide)
theorem abI:∀j,j+18≤nD j
 |0=>Nat.le_refl _
 |j+1=>by have:=abI j;rw[nD];omega
instance BdN.pw(j:Nat):BdN (pw j) (nD j):=⟨by
 show 10 ^ nD j < WB ^ nD j;exact Nat.pow_lt_pow_left (by rw[bB];decide) (by have:=abI j;omega)⟩
theorem yI(j:Nat):nD j≤bitLen (pw j):=by
 have h:=(bitLen_spec (pw j)).1;have h2:2 ^ nD j≤pw j:=Nat.pow_le_pow_left (by decide) _
 exact Nat.le_of_lt ((Nat.pow_lt_pow_iff_right (by decide)).1 (Nat.lt_of_le_of_lt h2 h))
theorem adS{x k:Nat}(h:x < WB ^ k):bitLen x≤64*k:=by
 have hs:=(bitLen_spec x).2;by_cases h0:x=0
 ·subst h0;exact Nat.zero_le _
 ·have h1:=hs h0;have e:WB ^ k=2 ^ (64*k):=by rw[Nat.pow_mul];rfl
  rw[e]at h;have:=(Nat.pow_lt_pow_iff_right (a:=2) (by decide)).1 (Nat.lt_of_le_of_lt h1 h)
  omega
def pwM(x:Nat):Nat→Nat→Nat
 |0,j=>j
 |f+1,j=>if 2*bitLen (pw j)≤bitLen x+1 then pwM x f (j+1)else j
def pwm(x:Nat):Nat:=pwM x (bitLen x+2) 0
theorem alI{x j:Nat}(h:¬2*bitLen (pw j)≤bitLen x+1):x < pw (j+1):=by
 have h1:=(bitLen_spec x).1;have h2:=(bitLen_spec (pw j)).2 (Nat.ne_of_gt (aoT j));have h3:=yI j;have h4:=abI j;rw[adV];refine Nat.lt_of_lt_of_le h1 (Nat.le_trans ?_ (Nat.mul_le_mul h2 h2));rw[←Nat.pow_add];exact Nat.pow_le_pow_right (by decide) (by omega)
def aO(x:Nat):List UInt8:=if x=0 then [48]else dig x
theorem acO{x n:Nat}(h:x < 10 ^ n):(dig x).length≤n:=by
 rw[←xu n x h];exact Nat.le_trans (List.dropWhile_sublist _).length_le (Nat.le_of_eq (uK n x))
end
section
attribute [local irreducible] IntKind.wrap Go1 Reg WP aS aT bR bO aQ aC ak aj aX Sat
attribute [local irreducible] jd pw nD pwM pwm aO
section
variable{a b:CA}{x y k m:Nat}
instance xB[ha:NI a x k]:Con prog 35 [.it (.one (.c a))] (k≤1099511627775) (.v (.int .i64 (bitLen x:Int))):=⟨fun h=>afe h⟩
instance arX[ha:NI a x k]:Con prog 79 [.it (.one (.c a))] (k+k≤274877906944) (.r (bD (x*x))):=⟨fun h=>aqT h⟩
end
theorem auc(x:Nat):jd 0 x=[]:=by unfold jd;rfl
theorem aum(n x:Nat):jd (n+1) x=jd n (x / 10)++[UInt8.ofNat (48+x % 10)]:=by rw[jd]
theorem pureS{f:FuncId}{args:List Value}{r:Value}(he:∃fn,prog.funcs[f]? =some fn∧(fn.name== "runtime.NumGoroutine")=false∧fn.body.isNone=false)(h:∀w,Calls prog f args.toArray w fun e w'=>e= .returned r∧w'=w):ah prog f (args.map AV.v) (.v r):=
 ah.gM he rfl fun E S w vs hl hv=>by
  have hvs:vs=args:=by
   clear h
   induction args generalizing vs with
   |nil=>cases vs with|nil=>rfl|cons _ _=>exact hv.elim
   |cons a l ih=>cases vs with|nil=>exact hv.elim|cons b m=>rw[ih m hv.2,show b=a from hv.1]
  subst hvs;exact(h w).mono fun e w' ⟨h1,h2⟩=>⟨r,h1,rfl,by subst h2;exact Off.refl _ _⟩
theorem aul(d:Nat):((UInt8.ofNat (48+d % 10)).toNat:Int)=((48+d % 10:Nat):Int):=by
 rw[UInt8.toNat_ofNat'];omega
theorem amT(x:Nat)(hx:x < WB):nE prog 77 [.v (.int .u64 (x:Int))] 5 1 18 ((jd 18 x).flatMap jH):=by
 rw[bB]at hx;refine nE.fnF func77 results77 ntmps77 rfl rfl rfl (by simp[AV.ids,AV0.ids,Atom.ids]) (fun w0 T B E0 hB=>?_)
 refine SX.goM ?_;refine W.anF (fun(k y:Nat) (tl:List UInt8)=>k+tl.length=18∧y < 18446744073709551616∧jd k y++tl=jd 18 x) (fun k y tl=>[(0,.v (.int .u64 (y:Int))),(3,.own 100),(4,.v (.int .i64 ((k:Int) - 1)))])
  (fun k y tl=>[(100,.row 5 1 18 ((List.replicate k 0++tl).flatMap jH))]) (fun k _ _=>k) 18 x [] ⟨rfl,hx,by simp⟩ (fun k y tl ⟨hk,hy,hd⟩=>?_)
 cases k with
 |zero=>
  have e:(List.replicate 0 0++tl).flatMap jH=(jd 18 x).flatMap jH:=by rw[←hd,auc];rfl
  refine SX.goM ?_;exact retO
 |succ k=>
  rw[show ((k+1:Nat):Int) - 1=(k:Int)by omega]
  have e:spl ((List.replicate (k+1) 0++tl).flatMap jH) (k*1) [.val (.int .u8 ((48+y % 10:Nat):Int))]=(List.replicate k 0++(UInt8.ofNat (48+y % 10)::tl)).flatMap jH:=by
   rw[←aul,show [CA.val (.int .u8 ((UInt8.ofNat (48+y % 10)).toNat:Int))]=jH (UInt8.ofNat (48+y % 10))from rfl,pX _ _ _ (by simp;omega),List.replicate_succ']
   congr 1
   rw[List.append_assoc,List.set_append_right _ _ (by simp)]
   simp
  refine SX.goM ?_
  -- ??
  exact W.anJ k (y / 10) (UInt8.ofNat (48+y % 10)::tl) ⟨by simp at hk ⊢;omega,by omega,by rw[←hd,aum];simp⟩ (by omega)
def ad4(n:Nat):List CA:=[.sat (bD n)]
instance:dO ad4 1:=⟨fun _=>rfl⟩
def pws(j:Nat):List Nat:=(List.range j).map pw
theorem aek(j:Nat):(pws j).length=j:=by simp[pws]
theorem aj2{i j:Nat}(h:i < j):(pws j)[i]? =some (pw i):=by simp[pws,h]
theorem ap3{i j:Nat}(h:i≤j):(pws j).take i=pws i:=by
 unfold pws;rw[←List.map_take,List.take_range,Nat.min_eq_left h]
theorem anv(j:Nat):pws (j+1)=pws j++[pw j]:=by simp[pws,List.range_succ]
theorem apv:pw 0=1000000000000000000:=aij
theorem agZ{a:CA}{x k:Nat}[ha:NI a x k](hx:x < WB ^ k)(hk:k≤1000000000):ah prog 38 [.it (.one (.c a))] (.r (aA 1 ad4 (pws (pwm x+1)))):=by
 have cO:ah prog 18 [.v (.int .u64 1000000000000000000)] (.r (bD (pw 0))):=by rw[aij];exact nOf 1000000000000000000 (by rw[bB];decide)
 have hb:=adS hx;have mark:zO 5:=⟨⟩;have e0:[CA.sat (bD (pw 0))]=(pws (0+1)).flatMap ad4:=rfl;refine ah.fnF func38 results38 ntmps38 rfl rfl rfl (by simp[AV.ids,AV0.ids,Atom.ids]) rfl (fun w0 T B E0 hB=>?_)
 refine SX.goM ?_;have hpm:pwM x (bitLen x+2) 0=pwm x:=by unfold pwm;rfl
 refine W.mO (fun(j f:Nat)=>(j=0∨nD j≤bitLen x+1)∧pwM x f j=pwm x∧f+j=bitLen x+2) (fun j f=>[(0,.it (.one (.c a))),(3,.own 100)]) (fun j f=>[(100,.row 25 1 (j+1) ((pws (j+1)).flatMap ad4))]) (fun j f=>f) 0 (bitLen x+2) ⟨.inl rfl,hpm,rfl⟩ (fun j f ⟨h1,h2,h3⟩=>?_)
 have hn:nD j≤64000000001:=by
  rcases h1 with rfl|h1
  ·have:nD 0=18:=by unfold nD;rfl
   omega
  ·omega
 have hg:(pws (j+1))[j+1 - 1]? =some (pw j):=aj2 (by omega)
 have hbp:=yI j;have hbj:=abI j;have hbu:=adS (BdN.pw j).h;by_cases hq:2*bitLen (pw j)≤bitLen x+1
 ·cases f with
  |zero=>exact absurd hq (by omega)
  |succ f=>
   have e1:(pws (j+1)).flatMap ad4++[CA.sat (bD (pw j*pw j))]=(pws (j+1+1)).flatMap ad4:=by
    rw[anv (j+1),List.flatMap_append,adV];rfl
   have h2':pwM x f (j+1)=pwm x:=by rw[←h2];conv=>rhs;unfold pwM;rw[if_pos hq]
   have hs:nD (j+1)=nD j+nD j:=by conv=>lhs;unfold nD
   refine SX.goM ?_;exact W.lX (j+1) f ⟨.inr (by omega),h2',by omega⟩ (by omega)
 ·have hjm:j=pwm x:=by
   rw[←h2];cases f with
   |zero=>unfold pwM;rfl
   |succ f=>conv=>rhs;unfold pwM;rw[if_neg hq]
  refine SX.goM ?_;refine aQ.frz 100 ?_;refine acG ?_;rw[←hjm];show AV0.imp _ (.one (.c (.sat (aM 1 (pws (j+1)).length ((pws (j+1)).flatMap ad4)))));rw[aek];exact AV0.imp.refl _
theorem tu:∀(j:Nat) {a:CA} {x k:Nat} [ha:NI a x k] (L:List Nat),L=pws j→x < pw j→nD j≤200000000000→k≤500000000000→
  nE prog 37 [.it (.one (.c a)),.r (aA 1 ad4 L)] 5 1 (nD j) ((jd (nD j) x).flatMap jH)
 |0,a,x,k,ha,L,hL,hx,hn,hk=>by
  have e18:nD 0=18:=by unfold nD;rfl
  have hxw:x < WB:=by rw[apv]at hx;rw[bB];omega
  have cW:=ail (a:=a) (x:=x) (k:=k) (by omega)
  rw[if_pos hxw]at cW;have cw:=amT x hxw;have hl0:L.length=0:=by rw[hL,aek]
  rw[e18];refine nE.fnF func37 results37 ntmps37 rfl rfl rfl (by simp[AV.ids,AV0.ids,Atom.ids]) (fun w0 T B E0 hB=>?_)
  refine SX.goM ?_;exact retO
 |j+1,a,x,k,ha,L,hL,hx,hn,hk=>by
  have hs:nD (j+1)=nD j+nD j:=by conv=>lhs;unfold nD
  have hj:=abI j;have hl1:L.length=j+1:=by rw[hL,aek]
  have hg:L[L.length - 1]? =some (pw j):=by rw[hl1,hL];exact aj2 (by omega)
  have ht:L.take (L.length - 1)=pws j:=by rw[hl1,hL];exact ap3 (by omega)
  have hp:=aoT j;rw[adV]at hx;have hq:x / pw j < pw j:=Nat.div_lt_of_lt_mul hx;have hr:x % pw j < pw j:=Nat.mod_lt _ hp;have cD:=adW (a:=a) (x:=x) (k:=k) (b:= .sat (bD (pw j))) (y:=pw j) (m:=nD j) (by omega)
  rw[if_neg (by omega)]at cD
  haveI b1:BdN (x / pw j) (nD j):=⟨Nat.lt_trans hq (BdN.pw j).h⟩
  haveI b2:BdN (x % pw j) (nD j):=⟨Nat.lt_trans hr (BdN.pw j).h⟩
  have c1:=tu j (a:= .sat (bD (x / pw j))) (k:=nD j) (L.take (L.length - 1)) ht hq (by omega) (by omega)
  have c2:=(tu j (a:= .sat (bD (x % pw j))) (k:=nD j) (L.take (L.length - 1)) ht hr (by omega) (by omega)).pure
  have e1:(jd (nD j) (x / pw j)).flatMap jH++(jd (nD j) (x % pw j)).flatMap jH=(jd (nD j+nD j) x).flatMap jH:=by
   rw[afJ,List.flatMap_append,show 10 ^ nD j=pw j by unfold pw;rfl]
  rw[hs];refine nE.fnF func37 results37 ntmps37 rfl rfl rfl (by simp[AV.ids,AV0.ids,Atom.ids]) (fun w0 T B E0 hB=>?_)
  refine SX.goM ?_;exact retO
theorem adJ(l:List UInt8):ah prog 36 [.v (str l),.v (str [48])] (.v (str (l.dropWhile (· ==48)))):=
 pureS (args:=[str l,str [48]]) ⟨_,func36,rfl,rfl⟩ fun w=>(strings_TrimLeft_one ⟨⟨l⟩⟩ 48 (by decide) w).mono fun e w' ⟨h1,h2⟩=>⟨h1,h2⟩
theorem amK(x:Nat):x < pw (pwm x+1):=by
 have key:∀(f j:Nat),f+j=bitLen x+2→¬2*bitLen (pw (pwM x f j))≤bitLen x+1:=by
  intro f
  induction f with
  |zero=>
   intro j hj;have h1:=yI j;have h2:=abI j;unfold pwM;omega
  |succ f ih=>
   intro j hj;unfold pwM
   split
   ·exact ih (j+1) (by omega)
   ·assumption
 have:=key (bitLen x+2) 0 rfl;exact alI (by unfold pwm;exact this)
theorem asT{x k:Nat}(hx:x < WB ^ k)(hk:k≤1000000000):nD (pwm x+1)≤200000000000:=by
 have hb:=adS hx;have key:∀(f j:Nat),(j=0∨nD j≤bitLen x+1)→nD (pwM x f j)≤64000000001:=by
  intro f
  induction f with
  |zero=>
   intro j hj;unfold pwM;rcases hj with rfl|hj
   ·have:nD 0=18:=by unfold nD;rfl
    omega
   ·omega
  |succ f ih=>
   intro j hj;unfold pwM
   split
   ·rename_i h;have h1:=yI j;exact ih (j+1) (.inr (by
                  conv=>lhs;unfold nD
                  omega))
   ·rcases hj with rfl|hj
    ·have:nD 0=18:=by unfold nD;rfl
     omega
    ·omega
 have h1:=key (bitLen x+2) 0 (.inl rfl);have h2:nD (pwm x+1)=nD (pwm x)+nD (pwm x):=by conv=>lhs;unfold nD
 have h3:nD (pwm x)≤64000000001:=by unfold pwm;exact h1
 omega
theorem abY{a:CA}{x k:Nat}[ha:NI a x k](hx:x < WB ^ k)(hk:k≤1000000000):ah prog 16 [.it (.one (.c a))] (.v (str (aO x))):=by
 have cP:=agZ (a:=a) hx hk;have cD:=(tu (pwm x+1) (a:=a) (k:=k) (pws (pwm x+1)) rfl (amK x) (asT hx hk) (by omega)).pure
 have el:nD (pwm x+1)=(jd (nD (pwm x+1)) x).length:=(uK _ _).symm;have cD':ah prog 37 [.it (.one (.c a)),.r (aA 1 ad4 (pws (pwm x+1)))] (.r (aA 1 jH (jd (nD (pwm x+1)) x))):=by
  show ah _ _ _ (.r (aM 1 (jd (nD (pwm x+1)) x).length _));rw[uK];exact cD
 clear cD;have cT:=adJ (jd (nD (pwm x+1)) x);have hd:=xu (nD (pwm x+1)) x (by have:=amK x;unfold pw at this;exact this)
 rw[hd]at cT;have hS:aO x=if x=0 then [48]else dig x:=by unfold aO;rfl
 refine ah.fnF func16 results16 ntmps16 rfl rfl rfl (by simp[AV.ids,AV0.ids,Atom.ids]) rfl (fun w0 T B E0 hB=>?_)
 by_cases h0:x=0
 ·have hz:decide (dig x=[])=true:=by subst h0;rw[jC];rfl
  refine SX.goM ?_;refine lT ?_;rw[hS,if_pos h0]
 ·have hz:decide (dig x=[])=false:=decide_eq_false (ahr h0);refine SX.goM ?_;refine lT ?_;rw[hS,if_neg h0]
end
section
attribute [local irreducible] IntKind.wrap Go1 Reg WP aS aT bR bO aQ aC ak aj aX Sat
section
variable{l l':List Atom}{a:CA}{x y:Int}{n k m:Nat}
instance lC[h:ZI l x k]:Con prog 15 [.agg l] (k≤1099511627775) (.v (.int .i64 (aV x))):=⟨fun h=>xV h⟩
instance con_zNeg[h:ZI l x k]:Con prog 198 [.agg l] (k≤1099511627775) (.agg (zN (-x))):=⟨fun h=>zNeg h⟩
instance arq:Con prog 6 [.v (.int .i64 x)] (-9223372036854775808≤x∧x≤9223372036854775807) (.agg (zN x)):=⟨fun h=>zOf x h.1 h.2⟩
instance con_zAdd[h:ZI l x k][h':ZI l' y m]:Con prog 194 [.agg l,.agg l'] (k+m≤1099511627774) (.agg (zN (x+y))):=⟨fun h=>zAdd h⟩
instance aok[h:ZI l x k][h':ZI l' y m]:Con prog 161 [.agg l,.agg l'] (k+m≤1099511627774) (.agg (zN (x - y))):=⟨fun h=>zSub h⟩
instance con_zMul[h:ZI l x k][h':ZI l' y m]:Con prog 202 [.agg l,.agg l'] (k+m≤274877906944) (.agg (zN (x*y))):=⟨fun h=>zMul h⟩
instance akQ[h:ZI l x k][h':ZI l' y m]:Con prog 48 [.agg l,.agg l'] (k+m≤1099511627774) (.v (.bool (decide (x=y)))):=⟨fun h=>arL h⟩
instance eu[h:ZI l x k]:Con prog 147 [.agg l] (k≤1099511627775) (.v (.int .i64 (bitLen x.natAbs:Int))):=⟨fun h=>zBits h⟩
instance atL[h:ZI l x k][h':ZI l' y m]:Con prog 199 [.agg l,.agg l'] (k+m≤1099511627760) (.tup [.agg (zN (gu x y)),.one (.c (.val (.bool (nN x y))))]):=⟨fun h=>atx h⟩
instance afx[h:ZI l x k][h':ZI l' y m]:Con prog 49 [.agg l,.agg l'] (k+m≤1099511627760) (.agg (zN (Int.gcd x y:Int))):=⟨fun h=>zGcd h⟩
instance ac7[h:NI a n k](neg:Bool):Con prog 17 [.it (.one (.c a)),.v (.bool neg)] (k≤1099511627775) (.agg (zN (sgn neg n))):=⟨fun h=>oW neg h⟩
end
theorem aee(z:Int):aV z=0↔z=0:=by unfold aV;(repeat' split) <;> omega
theorem ahl(z:Int):aV z < 0↔z < 0:=by unfold aV;(repeat' split) <;> omega
theorem ah0(a b:Int):IntKind.i64.wrap (aV a*aV b)=aV (a*b):=by
 have h:aV a*aV b=aV (a*b):=by
  unfold aV;by_cases ha:a=0
  ·simp[ha]
  ·by_cases hb:b=0
   ·simp[hb]
   ·have hab:a*b≠0:=Int.mul_ne_zero ha hb;rw[if_neg ha,if_neg hb,if_neg hab];by_cases h1:a < 0
    ·by_cases h2:b < 0
     ·have:=Int.mul_pos_of_neg_of_neg h1 h2;rw[if_pos h1,if_pos h2,if_neg (by omega)];rfl
     ·have:=Int.mul_neg_of_neg_of_pos h1 (show 0 < b by omega)
      rw[if_pos h1,if_neg h2,if_pos (by omega)];rfl
    ·by_cases h2:b < 0
     ·have:=Int.mul_neg_of_pos_of_neg (show 0 < a by omega) h2
      rw[if_neg h1,if_pos h2,if_pos (by omega)];rfl
     ·have:=Int.mul_pos (show 0 < a by omega) (show 0 < b by omega)
      rw[if_neg h1,if_neg h2,if_neg (by omega)];rfl
 rw[h];have h1: -1≤aV (a*b)∧aV (a*b)≤1:=by unfold aV;(repeat' split) <;> omega
 exact oz (by omega) (by omega)
def zS(z:Int):List UInt8:=if z < 0 then 45::aO z.natAbs else aO z.natAbs
theorem aar{x k:Nat}(h:x < WB ^ k):(aO x).length≤20*k+1:=by
 unfold aO
 split
 ·simp
 ·have:WB ^ k≤10 ^ (20*k):=by rw[Nat.pow_mul];exact Nat.pow_le_pow_left (by rw[bB];decide) _
  have:=acO (Nat.lt_of_lt_of_le h this);omega
theorem agO{z:Int}{k:Nat}[h:Bd z k]:(zS z).length≤20*k+2:=by
 have:=aar h.h;unfold zS;split
 ·rw[List.length_cons];omega
 ·omega
instance aht{l:List Atom}{z:Int}{k:Nat}[h:ZI l z k]:Con prog 5 [.agg l] (k≤1000000000) (.v (str (zS z))):=⟨fun hk=>by
 refine z1 ⟨_,func5,rfl,rfl⟩ fun neg n hz hn=>?_
 subst hz;have hb:=(inferInstance:BdN n k).h;have cP:=abY (a:= .sat (adl n k)) hb hk;have hl:=aar hb;have hS:zS (sgn neg n)=if sgn neg n < 0 then 45::aO n else aO n:=by unfold zS;rw[gL]
 have hs:=ahl (sgn neg n);refine ah.fnF func5 results5 ntmps5 rfl rfl rfl (by simp[AV.ids,AV0.ids,Atom.ids]) rfl (fun w0 T B E0 hB=>?_)
 by_cases h0:sgn neg n < 0
 ·refine SX.goM ?_;refine lT ?_;rw[hS,if_pos h0];rfl
 ·refine SX.goM ?_;refine lT ?_;rw[hS,if_neg h0]⟩
def rmk(x y:Int):Int×Int:=if y=0 then(0,1)else if y < 0 then(gu (-x) (Int.gcd (-x) (-y)),gu (-y) (Int.gcd (-x) (-y)))else(gu x (Int.gcd x y),gu y (Int.gcd x y))
abbrev tF(q:Int×Int):List Atom:=[.c (.val (.bool (decide (q.1 < 0)))),.c (.sat (bD q.1.natAbs)),.c (.val (.bool (decide (q.2 < 0)))),.c (.sat (bD q.2.natAbs))]
instance Bd.amv(x y:Int)(k m:Nat)[h:Bd x k][h':Bd y m]:Bd (rmk x y).1 (k+m+1):=⟨by
 unfold rmk;repeat' split
 ·exact Bd.mono (Bd.zero).h (by omega)
 ·exact Bd.mono (Bd.gu (-x) _ k).h (by omega)
 ·exact Bd.mono (Bd.gu x _ k).h (by omega)⟩
instance Bd.aoj(x y:Int)(k m:Nat)[h:Bd x k][h':Bd y m]:Bd (rmk x y).2 (k+m+1):=⟨by
 unfold rmk;repeat' split
 ·exact Bd.mono (Bd.one).h (by omega)
 ·exact Bd.mono (Bd.gu (-y) _ m).h (by omega)
 ·exact Bd.mono (Bd.gu y _ m).h (by omega)⟩
instance rJ{l:List Atom}{z:Int}{k:Nat}[h:ZI l z k]:Con prog 226 [.agg l] (k≤1000000000) (.agg (tF (z,1))):=⟨fun hk=>by
 refine z1 ⟨_,func226,rfl,rfl⟩ fun neg n hz hn=>?_
 subst hz;refine ah.fnF func226 results226 ntmps226 rfl rfl rfl (by simp[AV.ids,AV0.ids,Atom.ids]) rfl (fun w0 T B E0 hB=>?_)
 refine SX.goM ?_;exact mE (ak.uD rfl rfl rfl) rfl⟩
instance au4:Con prog 197 [] True (.agg (tF (0,1))):=⟨fun hk=>by
 refine ah.fnF func197 results197 ntmps197 rfl rfl rfl (by simp[AV.ids,AV0.ids,Atom.ids]) rfl (fun w0 T B E0 hB=>?_)
 refine SX.goM ?_;exact mE (ak.uD rfl rfl rfl) rfl⟩
instance au6{l l':List Atom}{x y:Int}{k m:Nat}[h:ZI l x k][h':ZI l' y m]:Con prog 155 [.agg l,.agg l'] (k+m≤1000000000) (.tup [.agg (tF (rmk x y)),.one (.c (.val (.bool (decide (y≠0)))))]):=⟨fun hk=>by
 refine z2 ⟨_,func155,rfl,rfl⟩ fun neg n neg2 n2 hz hz2 hn hn2=>?_
 subst hz;subst hz2;have hs0:=aee (sgn neg2 n2);have hsn:=ahl (sgn neg2 n2);refine ah.fnF func155 results155 ntmps155 rfl rfl rfl (by simp[AV.ids,AV0.ids,Atom.ids]) rfl (fun w0 T B E0 hB=>?_)
 by_cases h0:sgn neg2 n2=0
 ·refine SX.goM ?_;have e:rmk (sgn neg n) (sgn neg2 n2)=(0,1):=by unfold rmk;rw[if_pos h0]
  rw[e];exact pq (ak.uD rfl rfl rfl) (ak.tmp rfl) (AV0.imp.refl _) (AV0.imp.of_eq (cb (by simp[h0])))
 ·by_cases h1:sgn neg2 n2 < 0
  ·refine SX.goM ?_;have e:rmk (sgn neg n) (sgn neg2 n2)=(gu (-sgn neg n) (Int.gcd (-sgn neg n) (-sgn neg2 n2)),gu (-sgn neg2 n2) (Int.gcd (-sgn neg n) (-sgn neg2 n2))):=by unfold rmk;rw[if_neg h0,if_pos h1]
   rw[e];exact pq (ak.uD rfl rfl rfl) (ak.tmp rfl) (AV0.imp.refl _) (AV0.imp.of_eq (cb (by simp[h0])))
  ·refine SX.goM ?_;have e:rmk (sgn neg n) (sgn neg2 n2)=(gu (sgn neg n) (Int.gcd (sgn neg n) (sgn neg2 n2)),gu (sgn neg2 n2) (Int.gcd (sgn neg n) (sgn neg2 n2))):=by unfold rmk;rw[if_neg h0,if_neg h1]
   rw[e];exact pq (ak.uD rfl rfl rfl) (ak.tmp rfl) (AV0.imp.refl _) (AV0.imp.of_eq (cb (by simp[h0])))⟩
theorem q1{f:FuncId}{r:AV}{x0 x1 x2 x3:Atom}{p q:Int}{k m:Nat}[h:ZI [x0,x1] p k][h':ZI [x2,x3] q m](he:∃fn,prog.funcs[f]? =some fn∧(fn.name== "runtime.NumGoroutine")=false∧fn.body.isNone=false)
  (hf:∀neg n neg' n',p=sgn neg n→q=sgn neg' n'→BdN n k→BdN n' m→ah prog f [.agg (zR neg n k++zR neg' n' m)] r):ah prog f [.agg [x0,x1,x2,x3]] r:=by
 obtain⟨neg,n,hz,hm⟩:=h.h;obtain⟨neg',n',hz',hm'⟩:=h'.h;refine ah.fact (φ:=BdN n k∧BdN n' m) he (fun hb=>hf neg n neg' n' hz hz' hb.1 hb.2) fun E S w vs hv=>?_
 match vs,hv with
 |[_],⟨⟨[v0,v1,v2,v3],rfl,h0,h1,h2,h3,_⟩,_⟩=>
  have a1:=hm E S w _ ⟨[v0,v1],rfl,h0,h1,trivial⟩;have a2:=hm' E S w _ ⟨[v2,v3],rfl,h2,h3,trivial⟩;refine⟨⟨⟨[v0,v1,v2,v3],rfl,?_⟩,trivial⟩,⟨tV a1⟩,⟨tV a2⟩⟩;obtain⟨us,e1,b1⟩:=a1;obtain⟨us',e2,b2⟩:=a2
  match us,us',b1,b2 with
  |[_,_],[_,_],⟨c0,c1,_⟩,⟨d0,d1,_⟩=>
   cases e1;cases e2;exact⟨c0,c1,d0,d1,trivial⟩
theorem q2{f:FuncId}{r:AV}{x0 x1 x2 x3 y0 y1 y2 y3:Atom}{p q p' q':Int}{k m k' m':Nat}[h:ZI [x0,x1] p k][h':ZI [x2,x3] q m][g:ZI [y0,y1] p' k'][g':ZI [y2,y3] q' m'](he:∃fn,prog.funcs[f]? =some fn∧(fn.name== "runtime.NumGoroutine")=false∧fn.body.isNone=false)
  (hf:∀neg n neg' n' neg2 n2 neg3 n3,p=sgn neg n→q=sgn neg' n'→p'=sgn neg2 n2→q'=sgn neg3 n3→BdN n k→BdN n' m→BdN n2 k'→BdN n3 m'→ah prog f [.agg (zR neg n k++zR neg' n' m),.agg (zR neg2 n2 k'++zR neg3 n3 m')] r):ah prog f [.agg [x0,x1,x2,x3],.agg [y0,y1,y2,y3]] r:=by
 obtain⟨neg,n,hz,hm⟩:=h.h;obtain⟨neg',n',hz',hm'⟩:=h'.h;obtain⟨neg2,n2,hz2,hm2⟩:=g.h;obtain⟨neg3,n3,hz3,hm3⟩:=g'.h;refine ah.fact (φ:=BdN n k∧BdN n' m∧BdN n2 k'∧BdN n3 m') he (fun hb=>hf neg n neg' n' neg2 n2 neg3 n3 hz hz' hz2 hz3 hb.1 hb.2.1 hb.2.2.1 hb.2.2.2) fun E S w vs hv=>?_
 match vs,hv with
 |[_,_],⟨⟨[v0,v1,v2,v3],rfl,h0,h1,h2,h3,_⟩,⟨[w0,w1,w2,w3],rfl,i0,i1,i2,i3,_⟩,_⟩=>
  have a1:=hm E S w _ ⟨[v0,v1],rfl,h0,h1,trivial⟩;have a2:=hm' E S w _ ⟨[v2,v3],rfl,h2,h3,trivial⟩;have a3:=hm2 E S w _ ⟨[w0,w1],rfl,i0,i1,trivial⟩;have a4:=hm3 E S w _ ⟨[w2,w3],rfl,i2,i3,trivial⟩;refine⟨⟨⟨[v0,v1,v2,v3],rfl,?_⟩,⟨[w0,w1,w2,w3],rfl,?_⟩,trivial⟩,⟨tV a1⟩,⟨tV a2⟩,⟨tV a3⟩,⟨tV a4⟩⟩
  ·obtain⟨us,e1,b1⟩:=a1;obtain⟨us',e2,b2⟩:=a2
   match us,us',b1,b2 with
   |[_,_],[_,_],⟨c0,c1,_⟩,⟨d0,d1,_⟩=>
    cases e1;cases e2;exact⟨c0,c1,d0,d1,trivial⟩
  ·obtain⟨us,e1,b1⟩:=a3;obtain⟨us',e2,b2⟩:=a4
   match us,us',b1,b2 with
   |[_,_],[_,_],⟨c0,c1,_⟩,⟨d0,d1,_⟩=>
    cases e1;cases e2;exact⟨c0,c1,d0,d1,trivial⟩
attribute [irreducible] rmk
section
variable{x0 x1 x2 x3 y0 y1 y2 y3:Atom}{p q r s:Int}{k m k' m':Nat}
abbrev qn(p q:Int):Int×Int:=rmk p q
instance au2[h:ZI [x0,x1] p k][h':ZI [x2,x3] q m]:Con prog 102 [.agg [x0,x1,x2,x3]] (k+m≤1000000000) (.agg (tF (rmk p q))):=⟨fun hk=>by
 refine q1 ⟨_,func102,rfl,rfl⟩ fun neg n neg2 n2 hz hz2 hn hn2=>?_
 subst hz;subst hz2;refine ah.fnF func102 results102 ntmps102 rfl rfl rfl (by simp[AV.ids,AV0.ids,Atom.ids]) rfl (fun w0 T B E0 hB=>?_)
 refine SX.goM ?_;exact mE (ak.uD rfl rfl rfl) rfl⟩
instance au3[h:ZI [x0,x1] p k][h':ZI [x2,x3] q m]:Con prog 105 [.agg [x0,x1,x2,x3]] (k+m≤1000000000) (.v (.int .i64 (aV (p*q)))):=⟨fun hk=>by
 refine q1 ⟨_,func105,rfl,rfl⟩ fun neg n neg2 n2 hz hz2 hn hn2=>?_
 subst hz;subst hz2;have hw:IntKind.i64.wrap (aV (sgn neg n)*aV (sgn neg2 n2))=aV (sgn neg n*sgn neg2 n2):=ah0 _ _;refine ah.fnF func105 results105 ntmps105 rfl rfl rfl (by simp[AV.ids,AV0.ids,Atom.ids]) rfl (fun w0 T B E0 hB=>?_)
 refine SX.goM ?_;exact gK rfl⟩
instance anA[h:ZI [x0,x1] p k][h':ZI [x2,x3] q m]:Con prog 159 [.agg [x0,x1,x2,x3]] (k+m≤1000000000) (.agg (tF (-(rmk p q).1,(rmk p q).2))):=⟨fun hk=>by
 refine q1 ⟨_,func159,rfl,rfl⟩ fun neg n neg2 n2 hz hz2 hn hn2=>?_
 subst hz;subst hz2;refine ah.fnF func159 results159 ntmps159 rfl rfl rfl (by simp[AV.ids,AV0.ids,Atom.ids]) rfl (fun w0 T B E0 hB=>?_)
 refine SX.goM ?_;exact mE (ak.uD rfl rfl rfl) rfl⟩
def bZ(p q r s:Int):Int×Int:=rmk ((rmk p q).1*(rmk r s).2+(rmk r s).1*(rmk p q).2) ((rmk p q).2*(rmk r s).2)
def bX(p q r s:Int):Int×Int:=rmk ((rmk p q).1*(rmk r s).1) ((rmk p q).2*(rmk r s).2)
def bY(p q r s:Int):Int×Int:=rmk ((rmk p q).1*(rmk r s).2) ((rmk p q).2*(rmk r s).1)
instance anl[h:ZI [x0,x1] p k][h':ZI [x2,x3] q m][g:ZI [y0,y1] r k'][g':ZI [y2,y3] s m']:Con prog 158 [.agg [x0,x1,x2,x3],.agg [y0,y1,y2,y3]] (k+m+k'+m'≤10000000) (.agg (tF (bZ p q r s))):=⟨fun hk=>by
 refine q2 ⟨_,func158,rfl,rfl⟩ fun neg n neg2 n2 neg3 n3 neg4 n4 hz hz2 hz3 hz4 hn hn2 hn3 hn4=>?_
 subst hz;subst hz2;subst hz3;subst hz4;refine ah.fnF func158 results158 ntmps158 rfl rfl rfl (by simp[AV.ids,AV0.ids,Atom.ids]) rfl (fun w0 T B E0 hB=>?_)
 refine SX.goM ?_;exact mE (ak.uD rfl rfl rfl) rfl⟩
end
end
section
attribute [local irreducible] IntKind.wrap Go1 Reg WP aS aT bR bO aQ aC ak aj aX Sat
attribute [local irreducible] aO zS
theorem anh(z:Int):0 < aV z↔0 < z:=by unfold aV;(repeat' split) <;> omega
theorem tX:AV0.imp (.agg [.c (.val (.bool false)),.c (.val (.slice none 0 0))]) (.agg (zN 0)):=fun E S w v h=>by
 obtain⟨vs,rfl,hall⟩:=h
 match vs,hall with
 |[a,b],⟨h1,h2,_⟩=>
  have h2':b= .slice none 0 0:=h2;subst h2';exact⟨[a,_],rfl,h1,bD.zero,trivial⟩
def bT(p q r s:Int):Int×Int:=bZ p q (-(rmk r s).1) (rmk r s).2
section
variable{x0 x1 x2 x3 y0 y1 y2 y3:Atom}{p q r s:Int}{k m k' m':Nat}
instance Bd.arO(p q r s:Int)(k m k' m':Nat)[Bd p k][Bd q m][Bd r k'][Bd s m']:Bd (bZ p q r s).1 (3*(k+m+k'+m')+12):=⟨by unfold bZ;exact Bd.mono (Bd.amv _ _ _ _).h (by omega)⟩
instance Bd.arP(p q r s:Int)(k m k' m':Nat)[Bd p k][Bd q m][Bd r k'][Bd s m']:Bd (bZ p q r s).2 (3*(k+m+k'+m')+12):=⟨by unfold bZ;exact Bd.mono (Bd.aoj _ _ _ _).h (by omega)⟩
instance Bd.qsub1(p q r s:Int)(k m k' m':Nat)[Bd p k][Bd q m][Bd r k'][Bd s m']:Bd (bT p q r s).1 (6*(k+m+k'+m')+20):=⟨by unfold bT;exact Bd.mono (Bd.arO _ _ _ _ _ _ _ _).h (by omega)⟩
instance Bd.qsub2(p q r s:Int)(k m k' m':Nat)[Bd p k][Bd q m][Bd r k'][Bd s m']:Bd (bT p q r s).2 (6*(k+m+k'+m')+20):=⟨by unfold bT;exact Bd.mono (Bd.arP _ _ _ _ _ _ _ _).h (by omega)⟩
instance Bd.qmul1(p q r s:Int)(k m k' m':Nat)[Bd p k][Bd q m][Bd r k'][Bd s m']:Bd (bX p q r s).1 (3*(k+m+k'+m')+12):=⟨by unfold bX;exact Bd.mono (Bd.amv _ _ _ _).h (by omega)⟩
instance Bd.qmul2(p q r s:Int)(k m k' m':Nat)[Bd p k][Bd q m][Bd r k'][Bd s m']:Bd (bX p q r s).2 (3*(k+m+k'+m')+12):=⟨by unfold bX;exact Bd.mono (Bd.aoj _ _ _ _).h (by omega)⟩
instance Bd.qquo1(p q r s:Int)(k m k' m':Nat)[Bd p k][Bd q m][Bd r k'][Bd s m']:Bd (bY p q r s).1 (3*(k+m+k'+m')+12):=⟨by unfold bY;exact Bd.mono (Bd.amv _ _ _ _).h (by omega)⟩
instance Bd.qquo2(p q r s:Int)(k m k' m':Nat)[Bd p k][Bd q m][Bd r k'][Bd s m']:Bd (bY p q r s).2 (3*(k+m+k'+m')+12):=⟨by unfold bY;exact Bd.mono (Bd.aoj _ _ _ _).h (by omega)⟩
instance con_rSub[h:ZI [x0,x1] p k][h':ZI [x2,x3] q m][g:ZI [y0,y1] r k'][g':ZI [y2,y3] s m']:Con prog 106 [.agg [x0,x1,x2,x3],.agg [y0,y1,y2,y3]] (k+m+k'+m'≤1000000) (.agg (tF (bT p q r s))):=⟨fun hk=>by
 refine q2 ⟨_,func106,rfl,rfl⟩ fun neg n neg2 n2 neg3 n3 neg4 n4 hz hz2 hz3 hz4 hn hn2 hn3 hn4=>?_
 subst hz;subst hz2;subst hz3;subst hz4;refine ah.fnF func106 results106 ntmps106 rfl rfl rfl (by simp[AV.ids,AV0.ids,Atom.ids]) rfl (fun w0 T B E0 hB=>?_)
 refine SX.goM ?_;exact mE (ak.uD rfl rfl rfl) rfl⟩
instance apt[h:ZI [x0,x1] p k][h':ZI [x2,x3] q m][g:ZI [y0,y1] r k'][g':ZI [y2,y3] s m']:Con prog 353 [.agg [x0,x1,x2,x3],.agg [y0,y1,y2,y3]] (k+m+k'+m'≤10000000) (.agg (tF (bX p q r s))):=⟨fun hk=>by
 refine q2 ⟨_,func353,rfl,rfl⟩ fun neg n neg2 n2 neg3 n3 neg4 n4 hz hz2 hz3 hz4 hn hn2 hn3 hn4=>?_
 subst hz;subst hz2;subst hz3;subst hz4;refine ah.fnF func353 results353 ntmps353 rfl rfl rfl (by simp[AV.ids,AV0.ids,Atom.ids]) rfl (fun w0 T B E0 hB=>?_)
 refine SX.goM ?_;exact mE (ak.uD rfl rfl rfl) rfl⟩
instance aph[h:ZI [x0,x1] p k][h':ZI [x2,x3] q m][g:ZI [y0,y1] r k'][g':ZI [y2,y3] s m']:Con prog 340 [.agg [x0,x1,x2,x3],.agg [y0,y1,y2,y3]] (k+m+k'+m'≤10000000) (.tup [.agg (tF (bY p q r s)),.one (.c (.val (.bool (decide ((rmk p q).2*(rmk r s).1≠0)))))]):=⟨fun hk=>by
 refine q2 ⟨_,func340,rfl,rfl⟩ fun neg n neg2 n2 neg3 n3 neg4 n4 hz hz2 hz3 hz4 hn hn2 hn3 hn4=>?_
 subst hz;subst hz2;subst hz3;subst hz4;refine ah.fnF func340 results340 ntmps340 rfl rfl rfl (by simp[AV.ids,AV0.ids,Atom.ids]) rfl (fun w0 T B E0 hB=>?_)
 refine SX.goM ?_;exact pq (ak.uD rfl rfl rfl) (ak.tmp rfl) (AV0.imp.refl _) (AV0.imp.refl _)⟩
def dw(p q r s:Int):Int:=aV ((bT p q r s).1*(bT p q r s).2)
instance aoR[h:ZI [x0,x1] p k][h':ZI [x2,x3] q m][g:ZI [y0,y1] r k'][g':ZI [y2,y3] s m']:Con prog 63 [.agg [x0,x1,x2,x3],.agg [y0,y1,y2,y3]] (k+m+k'+m'≤1000000) (.v (.int .i64 (dw p q r s))):=⟨fun hk=>by
 refine q2 ⟨_,func63,rfl,rfl⟩ fun neg n neg2 n2 neg3 n3 neg4 n4 hz hz2 hz3 hz4 hn hn2 hn3 hn4=>?_
 subst hz;subst hz2;subst hz3;subst hz4;refine ah.fnF func63 results63 ntmps63 rfl rfl rfl (by simp[AV.ids,AV0.ids,Atom.ids]) rfl (fun w0 T B E0 hB=>?_)
 refine SX.goM ?_;exact gK rfl⟩
def qJ(p q:Int):Int:=if(rmk p q).2=1 then(rmk p q).1 else 0
instance sN[h:ZI [x0,x1] p k][h':ZI [x2,x3] q m]:Con prog 193 [.agg [x0,x1,x2,x3]] (k+m≤1000000) (.tup [.agg (zN (qJ p q)),.one (.c (.val (.bool (decide ((rmk p q).2=1)))))]):=⟨fun hk=>by
 refine q1 ⟨_,func193,rfl,rfl⟩ fun neg n neg2 n2 hz hz2 hn hn2=>?_
 subst hz;subst hz2;refine ah.fnF func193 results193 ntmps193 rfl rfl rfl (by simp[AV.ids,AV0.ids,Atom.ids]) rfl (fun w0 T B E0 hB=>?_)
 by_cases h1:(rmk (sgn neg n) (sgn neg2 n2)).2=1
 ·refine SX.goM ?_;exact pq (ak.fC rfl rfl rfl) (ak.tmp rfl) (AV0.imp.of_eq (by unfold qJ;rw[if_pos h1])) (AV0.imp.of_eq (cb (decide_eq_true h1).symm))
 ·refine SX.goM ?_;have e:qJ (sgn neg n) (sgn neg2 n2)=0:=by unfold qJ;rw[if_neg h1]
  rw[e];exact pq (ak.fC rfl rfl rfl) (ak.tmp rfl) tX (AV0.imp.of_eq (cb (decide_eq_false h1).symm))⟩
def rS(q:Int×Int):List UInt8:=if q.2=1 then zS q.1 else zS q.1++[47]++zS q.2
instance ahM[h:ZI [x0,x1] p k][h':ZI [x2,x3] q m]:Con prog 53 [.agg [x0,x1,x2,x3]] (k+m≤1000000) (.v (str (rS (rmk p q)))):=⟨fun hk=>by
 refine q1 ⟨_,func53,rfl,rfl⟩ fun neg n neg2 n2 hz hz2 hn hn2=>?_
 subst hz;subst hz2;have l1:=agO (z:=(rmk (sgn neg n) (sgn neg2 n2)).1);have l2:=agO (z:=(rmk (sgn neg n) (sgn neg2 n2)).2);refine ah.fnF func53 results53 ntmps53 rfl rfl rfl (by simp[AV.ids,AV0.ids,Atom.ids]) rfl (fun w0 T B E0 hB=>?_)
 by_cases h1:(rmk (sgn neg n) (sgn neg2 n2)).2=1
 ·refine SX.goM ?_;refine lT ?_;unfold rS;rw[if_pos h1]
 ·refine SX.goM ?_;refine lT ?_;unfold rS;rw[if_neg h1]⟩
end
def isR(p q x y:Int):Prop:=(0 < q∧(Int.gcd p q:Int)=1)∧p*y=x*q
attribute [irreducible] isR
end
section
attribute [local irreducible] IntKind.wrap Go1 Reg WP aS aT bR bO aQ aC ak aj aX Sat
attribute [local irreducible] aO zS qJ bT bX bY dw rS
theorem ael{x y:Int}(hy:y≠0)(h:y ∣ x):gu x y=x.tdiv y:=by
 have hz:nQ x y=0:=by unfold nQ;first|(rw[if_neg hy];exact Int.tmod_eq_zero_of_dvd h)|exact Int.tmod_eq_zero_of_dvd h
 unfold gu nN;rw[hz];simp[hy]
theorem aaH{x y:Int}(hy:y≠0):0 < (rmk x y).2∧Int.gcd (rmk x y).1 (rmk x y).2=1∧(rmk x y).1*y=x*(rmk x y).2:=by
 have key:∀x y:Int,0 < y→0 < gu y (Int.gcd x y)∧Int.gcd (gu x (Int.gcd x y)) (gu y (Int.gcd x y))=1∧gu x (Int.gcd x y)*y=x*gu y (Int.gcd x y):=by
  intro x y hy;have hg:(Int.gcd x y:Int)≠0:=by
   have:=Int.gcd_ne_zero_right (a:=x) (b:=y) (by omega)
   omega
  have hgp:(0:Int) < Int.gcd x y:=by omega
  obtain⟨a,ha⟩:=Int.gcd_dvd_left x y;obtain⟨b,hb⟩:=Int.gcd_dvd_right x y;have e1:gu x (Int.gcd x y)=a:=by
   rw[ael hg (Int.gcd_dvd_left x y)]
   conv=>lhs;arg 1;rw[ha]
   exact Int.mul_tdiv_cancel_left _ hg
  have e2:gu y (Int.gcd x y)=b:=by
   rw[ael hg (Int.gcd_dvd_right x y)]
   conv=>lhs;arg 1;rw[hb]
   exact Int.mul_tdiv_cancel_left _ hg
  rw[e1,e2];generalize hG:Int.gcd x y=g at*;have hbp:0 < b:=by
   rw[hb]at hy;exact Int.pos_of_mul_pos_right hy (by omega)
  refine⟨hbp,?_,?_⟩
  ·have h1:Int.gcd ((g:Int)*a) ((g:Int)*b)=g*Int.gcd a b:=by rw[Int.gcd_mul_left];simp
   rw[←ha,←hb,hG]at h1;have hgn:0 < g:=by omega
   exact Nat.eq_of_mul_eq_mul_left hgn (by omega)
  ·rw[ha,hb];grind
 unfold rmk;rw[if_neg hy];by_cases h:y < 0
 ·rw[if_pos h];have:=key (-x) (-y) (by omega)
  refine⟨this.1,this.2.1,?_⟩;have h3:=this.2.2
  grind
 ·rw[if_neg h];exact key x y (by omega)
theorem abq(x:Int):rmk x 0=(0,1):=by unfold rmk;rfl
abbrev qW(b:Bool)(l:List Nat)(c:Bool)(m:List Nat):List Atom:=[.c (.val (.bool b)),.c (.sat (dN l)),.c (.val (.bool c)),.c (.sat (dN m))]
end
section
attribute [local irreducible] bT bX bY dw bZ
def qv(p q:Int):Rat:=(p:Rat) / (q:Rat)
theorem c0{z:Int}(h:z≠0):(z:Rat)≠0:=fun e=>h (Rat.intCast_inj.1 e)
theorem alS{a b c d:Int}(hb:b≠0)(hd:d≠0)(h:a*d=c*b):qv a b=qv c d:=by
 have h1:=c0 hb;have h2:=c0 hd;have h3:(a:Rat)*d=c*b:=by rw[←Rat.intCast_mul,←Rat.intCast_mul,h]
 unfold qv;grind
theorem mG(p q:Int):0 < (rmk p q).2:=by
 by_cases h:q=0
 ·rw[h,abq];decide
 ·exact(aaH h).1
theorem zm(p q:Int):Int.gcd (rmk p q).1 (rmk p q).2=1:=by
 by_cases h:q=0
 ·rw[h,abq];decide
 ·exact(aaH h).2.1
theorem gV(p q:Int):qv (rmk p q).1 (rmk p q).2=qv p q:=by
 by_cases h:q=0
 ·rw[h,abq];unfold qv;grind
 ·have hs:=aaH (x:=p) h;exact alS (by omega) h hs.2.2
structure Rd(X:Int×Int)(v:Rat)(K:Nat):Prop where
 v:qv X.1 X.2=v
 d:0 < X.2
 g:Int.gcd X.1 X.2=1
 b1:Bd X.1 K
 b2:Bd X.2 K
theorem Rd.rmk{p q:Int}{k m K:Nat}{v:Rat}(h:Bd p k)(h':Bd q m)(hv:qv p q=v)(hK:k+m+1≤K):Rd (rmk p q) v K:=
 ⟨(gV p q).trans hv,mG p q,zm p q,⟨Bd.mono (Bd.amv p q k m).h hK⟩,⟨Bd.mono (Bd.aoj p q k m).h hK⟩⟩
class Ra(l:List Atom)(v:outParam Rat)(K:outParam Nat):Prop where
 h:∃x0 x1 x2 x3 p q k m,l=[x0,x1,x2,x3]∧ZI [x0,x1] p k∧ZI [x2,x3] q m∧k≤K∧m≤K∧Bd p k∧Bd q m∧qv p q=v
theorem Ra.raw{b c:Bool}{l m:List Nat}{K:Nat}(i1:BdN (nval WB l) l.length)(i2:BdN (nval WB m) m.length)(h1:l.length≤K)(h2:m.length≤K):Ra (qW b l c m) (qv (sgn b (nval WB l)) (sgn c (nval WB m))) K:=
 ⟨_,_,_,_,_,_,_,_,rfl,inferInstance,inferInstance,h1,h2,inferInstance,inferInstance,rfl⟩
section
variable{l l':List Atom}{v v':Rat}{K K':Nat}
theorem apE{a b c d:Int}:qv (a*d) (b*c)=qv a b / qv c d:=by
 unfold qv;rw[Rat.intCast_mul,Rat.intCast_mul];grind
theorem apF{a b c d:Int}:qv (a*c) (b*d)=qv a b*qv c d:=by
 unfold qv;rw[Rat.intCast_mul,Rat.intCast_mul];grind
theorem au0{a b c d:Int}(hb:b≠0)(hd:d≠0):qv (a*d+c*b) (b*d)=qv a b+qv c d:=by
 have h1:=c0 hb;have h2:=c0 hd;unfold qv;rw[Rat.intCast_add,Rat.intCast_mul,Rat.intCast_mul,Rat.intCast_mul];grind
theorem anx{a b:Int}:qv (-a) b= -qv a b:=by
 unfold qv;rw[Rat.intCast_neg];grind
theorem afq(p q r s:Int):qv (bZ p q r s).1 (bZ p q r s).2=qv p q+qv r s:=by
 have h1:=mG p q;have h2:=mG r s;unfold bZ;rw[gV,au0 (by omega) (by omega),gV,gV]
theorem aoC(p q r s:Int):qv (bX p q r s).1 (bX p q r s).2=qv p q*qv r s:=by
 unfold bX;rw[gV,apF,gV,gV]
theorem ani(p q r s:Int):qv (bY p q r s).1 (bY p q r s).2=qv p q / qv r s:=by
 unfold bY;rw[gV,apE,gV,gV]
theorem aps(p q r s:Int):qv (bT p q r s).1 (bT p q r s).2=qv p q - qv r s:=by
 unfold bT;rw[afq,anx,gV];grind
theorem aiW(p q r s:Int):∃x y,bZ p q r s=rmk x y:=⟨_,_,by unfold bZ;rfl⟩
theorem ait(p q r s:Int):∃x y,bX p q r s=rmk x y:=⟨_,_,by unfold bX;rfl⟩
theorem ajy(p q r s:Int):∃x y,bY p q r s=rmk x y:=⟨_,_,by unfold bY;rfl⟩
theorem mk_pos{X:Int×Int}(h:∃x y,X=rmk x y):0 < X.2∧Int.gcd X.1 X.2=1:=by
 obtain⟨x,y,rfl⟩:=h;exact⟨mG x y,zm x y⟩
theorem ai5{a b:Int}:(aV (a*b)=0↔qv a b=0)∧(aV (a*b) < 0↔qv a b < 0):=by
 have key:∀a b:Int,0 < b→(a*b=0↔qv a b=0)∧(a*b < 0↔qv a b < 0):=by
  intro a b hb;have h1:(0:Rat) < b:=by rw[show (0:Rat)=((0:Int):Rat)from rfl];exact Rat.intCast_lt_intCast.2 hb
  have ea:(a:Rat)=qv a b*b:=by unfold qv;grind
  constructor
  ·rw[Int.mul_eq_zero];constructor
   ·rintro(h|h)
    ·unfold qv;rw[h];grind
    ·omega
   ·intro h;rw[h]at ea;left;exact Rat.intCast_inj.1 (by rw[ea];grind)
  ·have hneg:a*b < 0↔a < 0:=by
    constructor
    ·intro h;exact Decidable.byContradiction fun hn=>by
      have:=Int.mul_nonneg (show 0≤a by omega) (show 0≤b by omega)
      omega
    ·intro h;exact Int.mul_neg_of_neg_of_pos h hb
   have ha:a < 0↔(a:Rat) < 0:=by rw[show (0:Rat)=((0:Int):Rat)from rfl,Rat.intCast_lt_intCast]
   rw[hneg,ha,ea];generalize qv a b=v at*;generalize (b:Rat)=c at*;constructor
   ·intro h;exact Decidable.byContradiction fun hn=>by
     have:=Rat.mul_nonneg (show 0≤v by grind) (show 0≤c by grind)
     grind
   ·intro h;have:=Rat.mul_pos (show 0 < -v by grind) h1
    grind
 have hn:aV (a*b) < 0↔a*b < 0:=ahl _;have hz:aV (a*b)=0↔a*b=0:=aee _;rw[hn,hz];by_cases hb:b=0
 ·subst hb;have:qv a 0=0:=by unfold qv;grind
  rw[this];simp
 ·by_cases hb0:0 < b
  ·exact key a b hb0
  ·have h:=key (-a) (-b) (by omega)
   have e:qv (-a) (-b)=qv a b:=alS (by omega) hb (by grind)
   rw[e,show -a* -b=a*b by grind]at h
   exact h
theorem ap0{p q r s:Int}:(dw p q r s=0↔qv p q=qv r s)∧(dw p q r s < 0↔qv p q < qv r s)∧(0 < dw p q r s↔qv r s < qv p q):=by
 have h:=ai5 (a:=(bT p q r s).1) (b:=(bT p q r s).2);rw[aps]at h;unfold dw;generalize aV ((bT p q r s).1*(bT p q r s).2)=z at*;have h1:z=0↔qv p q=qv r s:=by rw[h.1];constructor <;> intro <;> grind
 have h2:z < 0↔qv p q < qv r s:=by rw[h.2];constructor <;> intro <;> grind
 refine⟨h1,h2,?_⟩;have:0 < z↔¬z=0∧¬z < 0:=by omega
 rw[this,h1,h2];constructor
 ·intro ⟨a,b⟩;grind
 ·intro a;constructor <;> grind
theorem eAdd(l l':List Atom)[a:Ra l v K][b:Ra l' v' K'](h:K+K'≤1000000):∃X,ah prog 158 [.agg l,.agg l'] (.agg (tF X))∧Rd X (v+v') (6*(K+K')+20):=by
 obtain⟨x0,x1,x2,x3,p,q,k,m,rfl,z1,z2,hk,hm,b1,b2,hv⟩:=a.h;obtain⟨y0,y1,y2,y3,r,s,k',m',rfl,z3,z4,hk',hm',b3,b4,hv'⟩:=b.h;exact⟨_,(anl (h:=z1) (h':=z2) (g:=z3) (g':=z4)).h (by omega),⟨by rw[afq,hv,hv'],(mk_pos (aiW ..)).1,(mk_pos (aiW ..)).2,⟨Bd.mono (Bd.arO p q r s k m k' m').h (by omega)⟩,⟨Bd.mono (Bd.arP p q r s k m k' m').h (by omega)⟩⟩⟩
theorem eMul(l l':List Atom)[a:Ra l v K][b:Ra l' v' K'](h:K+K'≤1000000):∃X,ah prog 353 [.agg l,.agg l'] (.agg (tF X))∧Rd X (v*v') (6*(K+K')+20):=by
 obtain⟨x0,x1,x2,x3,p,q,k,m,rfl,z1,z2,hk,hm,b1,b2,hv⟩:=a.h;obtain⟨y0,y1,y2,y3,r,s,k',m',rfl,z3,z4,hk',hm',b3,b4,hv'⟩:=b.h;exact⟨_,(apt (h:=z1) (h':=z2) (g:=z3) (g':=z4)).h (by omega),⟨by rw[aoC,hv,hv'],(mk_pos (ait ..)).1,(mk_pos (ait ..)).2,⟨Bd.mono (Bd.qmul1 p q r s k m k' m').h (by omega)⟩,⟨Bd.mono (Bd.qmul2 p q r s k m k' m').h (by omega)⟩⟩⟩
theorem eQuo(l l':List Atom)[a:Ra l v K][b:Ra l' v' K'](h:K+K'≤1000000):∃X ok,ah prog 340 [.agg l,.agg l'] (.tup [.agg (tF X),.one (.c (.val (.bool ok)))])∧Rd X (v / v') (6*(K+K')+20)∧(ok=true↔v'≠0):=by
 obtain⟨x0,x1,x2,x3,p,q,k,m,rfl,z1,z2,hk,hm,b1,b2,hv⟩:=a.h;obtain⟨y0,y1,y2,y3,r,s,k',m',rfl,z3,z4,hk',hm',b3,b4,hv'⟩:=b.h;refine⟨_,_,(aph (h:=z1) (h':=z2) (g:=z3) (g':=z4)).h (by omega),⟨by rw[ani,hv,hv'],(mk_pos (ajy ..)).1,(mk_pos (ajy ..)).2,⟨Bd.mono (Bd.qquo1 p q r s k m k' m').h (by omega)⟩,⟨Bd.mono (Bd.qquo2 p q r s k m k' m').h (by omega)⟩⟩,?_⟩
 have h1:=mG p q;have h2:=mG r s;rw[decide_eq_true_iff,←hv',←gV r s];have e:qv (rmk r s).1 (rmk r s).2=0↔(rmk r s).1=0:=by
  have:=(ai5 (a:=(rmk r s).1) (b:=(rmk r s).2)).1;rw[←this,aee,Int.mul_eq_zero];omega
 rw[Ne,Ne,e,Int.mul_eq_zero];omega
theorem eCmp(l l':List Atom)[a:Ra l v K][b:Ra l' v' K'](h:K+K'≤400000):∃z:Int,ah prog 63 [.agg l,.agg l'] (.v (.int .i64 z))∧(z=0↔v=v')∧(z < 0↔v < v')∧(0 < z↔v' < v):=by
 obtain⟨x0,x1,x2,x3,p,q,k,m,rfl,z1,z2,hk,hm,b1,b2,hv⟩:=a.h;obtain⟨y0,y1,y2,y3,r,s,k',m',rfl,z3,z4,hk',hm',b3,b4,hv'⟩:=b.h;exact⟨_,(aoR (h:=z1) (h':=z2) (g:=z3) (g':=z4)).h (by omega),by rw[←hv,←hv'];exact ap0⟩
theorem eNeg(l:List Atom)[a:Ra l v K](h:K≤400000):∃X,ah prog 159 [.agg l] (.agg (tF X))∧Rd X (-v) (2*K+1):=by
 obtain⟨x0,x1,x2,x3,p,q,k,m,rfl,z1,z2,hk,hm,b1,b2,hv⟩:=a.h;exact⟨_,(anA (h:=z1) (h':=z2)).h (by omega),⟨by show qv (-(rmk p q).1) (rmk p q).2=_;rw[anx,gV,hv],mG p q,by show Int.gcd (-(rmk p q).1) _=1;rw[Int.neg_gcd];exact zm p q,⟨by show (-(rmk p q).1).natAbs < _;rw[Int.natAbs_neg];exact Bd.mono (Bd.amv p q k m).h (by omega)⟩,⟨Bd.mono (Bd.aoj p q k m).h (by omega)⟩⟩⟩
end
end
end Go.Proofs.YtegehclknhmkgaaGreatDoor