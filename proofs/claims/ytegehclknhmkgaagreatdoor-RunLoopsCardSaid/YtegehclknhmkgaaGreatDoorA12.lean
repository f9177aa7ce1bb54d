import Derived.Test.YtegehclknhmkgaaGreatDoorA30
import Derived.Test.YtegehclknhmkgaaGreatDoorA2
import Derived.Test.YtegehclknhmkgaaGreatDoorA34
import Derived.Test.YtegehclknhmkgaaGreatDoorA3
set_option linter.unusedVariables false
set_option linter.unusedSimpArgs false
namespace Go.Proofs.YtegehclknhmkgaaGreatDoor
open Go.RowKit QM SX
section
def dQ(l:List Nat):Rep where
 has S w v:=Sm WB l∧(aM 1 l.length (l.map fun x:Nat=> .val (.int .u64 (x:Int)))).has S w v
 one h:=(aM _ _ _).one h.2
 step h ho hs:=⟨h.1,(aM _ _ _).step h.2 ho hs⟩
theorem dQ.rn{l:List Nat}{S:Nat→Prop}{w:World}{v:Value}(h:(dQ l).has S w v):RN w v l:=by
 obtain⟨hs,h⟩:=h;obtain⟨oa,cap,h1,h2,h3,h4,h5,h6⟩:=bB.1 h;refine⟨oa,cap,h1,h2,h3,h4,hs,fun i hi=>?_⟩
 obtain⟨b,o,u,e1,e2,e3,e4⟩:=h6 i (.val (.int .u64 ((gd l i:Nat):Int))) (by simp[gd,List.getD_eq_getElem?_getD,hi])
 exact⟨b,o,e1,by rw[e3,show u=_ from e4]⟩
def bC(n:Nat):Rep where
 has S w v:=∃l,Nrm l∧nval WB l=n∧(l=[]→v= .slice none 0 0)∧(dQ l).has S w v
 one h:=by obtain⟨l,_,_,_,h⟩:=h;exact(dQ l).one h
 step h ho hs:=by obtain⟨l,h1,h2,h3,h⟩:=h;exact⟨l,h1,h2,h3,(dQ l).step h ho hs⟩
theorem bC.aaH{n base:Nat}{S:Nat→Prop}{w:World}{v:Value}(h:ON base w v n)(hS:∀k,S k→k < base):(bC n).has S w v:=by
 obtain⟨l,h1,h2,h3,h4,h5⟩:=h;refine⟨l,h3,h4,h5,h2,?_⟩;rcases h1.2 with⟨rfl,h0⟩|⟨g,cap,cur,rfl,hb,hg,hn,hm,hcs,htk⟩
 ·have hl:l=[]:=List.eq_nil_of_length_eq_zero h0;subst hl;exact bB.2 ⟨none,0,rfl,Nat.le_refl _,by simp[maxLen],fun _=>rfl,by simp,fun i c hc=>by simp at hc⟩
 ·refine bB.2 ⟨some ⟨g,0,none⟩,cap,rfl,hn,hm,fun e=>(by cases e),by simp,fun i c hc=>?_⟩
  have hi:i < l.length:=by have:=(List.getElem?_eq_some_iff.1 hc).1;simpa using this
  refine⟨g,0,.int .u64 ((gd l i:Nat):Int),rfl,fun h=>by have:=hS g h;omega,?_,?_⟩
  ·rw[Nat.zero_add,h1.cellAt i (by omega)]
   simp[wv,List.getElem?_map,List.getElem?_eq_getElem hi,gd,List.getD_eq_getElem?_getD]
  ·simp[List.getElem?_map,List.getElem?_eq_getElem hi]at hc
   subst hc;simp[CA.has,gd,List.getD_eq_getElem?_getD,hi]
theorem bC.zero{S:Nat→Prop}{w:World}:(bC 0).has S w (.slice none 0 0):=
 ⟨[],Nrm.nil,rfl,fun _=>rfl,Sm.nil,bB.2 ⟨none,0,rfl,Nat.le_refl _,by simp[maxLen],fun _=>rfl,by simp,fun i c hc=>by simp at hc⟩⟩
def aac(B:Nat):Nat→Nat→List Nat
 |0,_=>[]
 |_+1,0=>[]
 |f+1,n+1=>((n+1) % B)::aac B f ((n+1) / B)
theorem pQ{B:Nat}(hB:1 < B):∀(f n:Nat),n≤f→Sm B (aac B f n)∧nval B (aac B f n)=n∧Nrm (aac B f n)
 |0,n,h=>by
  have:n=0:=by omega
  subst this;exact⟨Sm.nil,rfl,Nrm.nil⟩
 |f+1,0,_=>⟨Sm.nil,rfl,Nrm.nil⟩
 |f+1,n+1,h=>by
  have hlt:(n+1) / B < n+1:=Nat.div_lt_self (by omega) hB
  obtain⟨h1,h2,h3⟩:=pQ hB f ((n+1) / B) (by omega)
  have hv:nval B (aac B (f+1) (n+1))=n+1:=by
   show (n+1) % B+B*nval B (aac B f ((n+1) / B))=n+1;rw[h2];exact Nat.mod_add_div _ _
  refine⟨h1.cons (Nat.mod_lt _ (by omega)),hv,.inr ?_⟩
  have hc:aac B (f+1) (n+1)=(n+1) % B::aac B f ((n+1) / B):=rfl;rw[hc];generalize aac B f ((n+1) / B)=l at*;rcases h3 with h3|h3
  ·subst h3;have h5:(n+1) / B=0:=h2.symm;have:(n+1) % B=n+1:=by have:=Nat.mod_add_div (n+1) B;rw[h5]at this;simpa using this
   simp[this]
  ·have h6:l.length≠0:=by
    intro h0;rw[List.eq_nil_of_length_eq_zero h0]at h3;simp at h3
   obtain⟨m,hm⟩:∃m,l.length=m+1:=⟨l.length - 1,by omega⟩
   rw[hm]at h3;simp only[List.length_cons,hm,Nat.add_sub_cancel,List.getD_eq_getElem?_getD,List.getElem?_cons_succ]at*
   exact h3
def wds(n:Nat):List Nat:=aac WB n n
theorem abM(n:Nat):Sm WB (wds n):=(pQ qK n n (Nat.le_refl n)).1
theorem nC(n:Nat):nval WB (wds n)=n:=(pQ qK n n (Nat.le_refl n)).2.1
theorem xD(n:Nat):Nrm (wds n):=(pQ qK n n (Nat.le_refl n)).2.2
theorem sZ{l:List Nat}(hs:Sm WB l)(hn:Nrm l):l=wds (nval WB l):=akx aU hs (abM _) hn (xD _) (nC _).symm
theorem nS{n k:Nat}(h:n < WB ^ k):(wds n).length≤k:=(xD n).oU aU (by rw[nC];exact h)
theorem oo(n:Nat):(wds n).length=0↔n=0:=by
 constructor
 ·intro h;have:=nC n;rw[List.eq_nil_of_length_eq_zero h]at this;exact this.symm
 ·intro h;subst h;rfl
instance(l:List Nat):gZ (dQ l) 1 l.length (l.map fun x:Nat=> .val (.int .u64 (x:Int))):=⟨fun _ _ _ h=>h.2⟩
instance(n:Nat):gZ (bC n) 1 (wds n).length ((wds n).map fun x:Nat=> .val (.int .u64 (x:Int))):=⟨fun _ _ _ h=>by
 obtain⟨l,h1,h2,_,h4⟩:=h;have:=sZ h4.1 h1;rw[h2]at this;rw[←this];exact h4.2⟩
class Bd(z:Int)(k:outParam Nat):Prop where
 h:z.natAbs < WB ^ k
def abH(n k:Nat):Rep where
 has S w v:=∃l,nval WB l=n∧l.length≤k∧(dQ l).has S w v
 one h:=by obtain⟨l,_,_,h⟩:=h;exact(dQ l).one h
 step h ho hs:=by obtain⟨l,h1,h2,h⟩:=h;exact⟨l,h1,h2,(dQ l).step h ho hs⟩
class NI(a:CA)(n:outParam Nat)(k:outParam Nat):Prop where
 p:∀S w v,a.has S w v→(abH n k).has S w v
theorem NI.h{a:CA}{n k:Nat}(x:NI a n k):∀S w v,a.has S w v→∃l,RN w v l∧nval WB l=n∧l.length≤k:=fun S w v h=>by
 obtain⟨l,h1,h2,h3⟩:=x.p S w v h;exact⟨l,dQ.rn h3,h1,h2⟩
instance NI.nat(n k:Nat):NI (.sat (abH n k)) n k:=⟨fun _ _ _ h=>h⟩
instance NI.raw(l:List Nat):NI (.sat (dQ l)) (nval WB l) l.length:=⟨fun S w v h=>⟨l,rfl,Nat.le_refl _,h⟩⟩
instance NI.nil:NI (.val (.slice none 0 0)) 0 0:=⟨fun S w v h=>by
 rw[show v=_ from h]
 exact⟨[],rfl,Nat.le_refl _,Sm.nil,bB.2 ⟨none,0,rfl,Nat.le_refl _,by simp[maxLen],fun _=>rfl,by simp,fun i c hc=>by simp at hc⟩⟩⟩
theorem NI.abD{n k:Nat}(hk:n < WB ^ k):NI (.sat (bC n)) n k:=⟨fun S w v h=>by
 obtain⟨l,h1,h2,_,h4⟩:=h;exact⟨l,h2,h1.oU aU (by rw[h2];exact hk),h4⟩⟩
class BdN(n:Nat)(k:outParam Nat):Prop where
 h:n < WB ^ k
instance NI.nrm(n k:Nat)[h:BdN n k]:NI (.sat (bC n)) n k:=NI.abD h.h
instance BdN.abs(z:Int)(k:Nat)[h:Bd z k]:BdN z.natAbs k:=⟨h.h⟩
theorem gH(k:Nat):1≤WB ^ k:=Nat.one_le_pow k WB aU
theorem Bd.mono{z:Int}{k m:Nat}(h:z.natAbs < WB ^ k)(hm:k≤m):z.natAbs < WB ^ m:=Nat.lt_of_lt_of_le h (Nat.pow_le_pow_right aU hm)
theorem afr(k m:Nat):WB ^ k+WB ^ m≤WB ^ (k+m)+1:=by
 have h1:=gH k;have h2:=gH m;rw[Nat.pow_add];generalize WB ^ k=a at*;generalize WB ^ m=b at*;obtain⟨a,rfl⟩:∃a',a=a'+1:=⟨a - 1,by omega⟩
 obtain⟨b,rfl⟩:∃b',b=b'+1:=⟨b - 1,by omega⟩
 rw[Nat.add_mul,Nat.mul_add];have:0≤a*b:=Nat.zero_le _;omega
theorem ae5{x y:Int}{k m:Nat}(hx:x.natAbs < WB ^ k)(hy:y.natAbs < WB ^ m):(x+y).natAbs < WB ^ (k+m+1):=by
 have h1:=afr k m;have h2:WB ^ (k+m)*2≤WB ^ (k+m+1):=by rw[Nat.pow_succ];exact Nat.mul_le_mul_left _ (by decide)
 have h3:=gH (k+m);omega
instance Bd.add(x y:Int)(k m:Nat)[hx:Bd x k][hy:Bd y m]:Bd (x+y) (k+m+1):=⟨ae5 hx.h hy.h⟩
instance Bd.sub(x y:Int)(k m:Nat)[hx:Bd x k][hy:Bd y m]:Bd (x - y) (k+m+1):=⟨by rw[Int.sub_eq_add_neg];exact ae5 hx.h (by rw[Int.natAbs_neg];exact hy.h)⟩
instance Bd.neg(x:Int)(k:Nat)[hx:Bd x k]:Bd (-x) k:=⟨by rw[Int.natAbs_neg];exact hx.h⟩
instance Bd.mul(x y:Int)(k m:Nat)[hx:Bd x k][hy:Bd y m]:Bd (x*y) (k+m):=⟨by
 rw[Int.natAbs_mul,Nat.pow_add];exact Nat.mul_lt_mul_of_lt_of_le hx.h (Nat.le_of_lt hy.h) (gH m)⟩
theorem amT{x y:Nat}{k m:Nat}(hx:x < WB ^ k)(hy:y < WB ^ m):x+y < WB ^ (k+m+1):=by
 have:=ae5 (x:=(x:Int)) (y:=(y:Int)) (k:=k) (m:=m) (by simpa using hx) (by simpa using hy)
 omega
instance BdN.add(x y k m:Nat)[hx:BdN x k][hy:BdN y m]:BdN (x+y) (k+m+1):=⟨amT hx.h hy.h⟩
instance BdN.mul(x y k m:Nat)[hx:BdN x k][hy:BdN y m]:BdN (x*y) (k+m):=⟨by
 rw[Nat.pow_add];exact Nat.mul_lt_mul_of_lt_of_le hx.h (Nat.le_of_lt hy.h) (gH m)⟩
instance BdN.sub(x y k:Nat)[hx:BdN x k]:BdN (x - y) k:=⟨Nat.lt_of_le_of_lt (Nat.sub_le _ _) hx.h⟩
instance BdN.div(x y k:Nat)[hx:BdN x k]:BdN (x / y) k:=⟨Nat.lt_of_le_of_lt (Nat.div_le_self _ _) hx.h⟩
instance BdN.mod(x y k:Nat)[hx:BdN x k]:BdN (x % y) k:=⟨Nat.lt_of_le_of_lt (Nat.mod_le _ _) hx.h⟩
instance BdN.ite(c:Prop)[Decidable c](x k:Nat)[hx:BdN x k]:BdN (if c then 0 else x) k:=⟨by split;exact Nat.lt_of_lt_of_le (by decide) (gH k);exact hx.h⟩
instance BdN.gcd(x y k m:Nat)[hx:BdN x k][hy:BdN y m]:BdN (Nat.gcd x y) (k+m):=⟨by
 rcases Nat.eq_zero_or_pos x with h0|h0
 ·subst h0;rw[Nat.gcd_zero_left];exact Nat.lt_of_lt_of_le hy.h (Nat.pow_le_pow_right aU (by omega))
 ·exact Nat.lt_of_le_of_lt (Nat.gcd_le_left y h0) (Nat.lt_of_lt_of_le hx.h (Nat.pow_le_pow_right aU (by omega)))⟩
instance Bd.nat(n k:Nat)[h:BdN n k]:Bd (n:Int) k:=⟨by simpa using h.h⟩
instance Bd.zero:Bd 0 0:=⟨by simp⟩
instance Bd.one:Bd 1 1:=⟨by simp[WB]⟩
theorem apn(x:Int)(h1: -9223372036854775808≤x)(h2:x≤9223372036854775807):x.natAbs < WB ^ 1:=by rw[Nat.pow_one,bY];omega
section
variable{a b:CA}{x y k m:Nat}
theorem nat2{f:FuncId}{r:Nat}[ha:NI a x k][hb:NI b y m](he:∃fn,Tryz.prog.funcs[f]? =some fn∧(fn.name== "runtime.NumGoroutine")=false∧fn.body.isNone=false)
  (h:∀w va vb la lb,RN w va la→RN w vb lb→nval WB la=x→nval WB lb=y→la.length≤k→lb.length≤m→Calls Tryz.prog f #[va,vb] w fun e w'=>(∃v,e= .returned v∧ON w.heap.size w' v r)∧Ext w w'):
  PureOK Tryz.prog f [.it (.one (.c a)),.it (.one (.c b))] (.r (bC r)):=
 PureOK.gQ he rfl fun E S w vs hl hv=>by
  match vs,hv with
  |[va,vb],⟨h1,h2,_⟩=>
   obtain⟨la,ra,ea,ka⟩:=ha.h S w va h1;obtain⟨lb,rb,eb,kb⟩:=hb.h S w vb h2;refine(h w va vb la lb ra rb ea eb ka kb).mono ?_;rintro e w' ⟨⟨v,rfl,ho⟩,hx⟩;exact⟨v,rfl,bC.aaH ho hl,Off.of_below hx⟩
theorem nat1{f:FuncId}{r:Nat}[ha:NI a x k](he:∃fn,Tryz.prog.funcs[f]? =some fn∧(fn.name== "runtime.NumGoroutine")=false∧fn.body.isNone=false)
  (h:∀w va la,RN w va la→nval WB la=x→la.length≤k→Calls Tryz.prog f #[va] w fun e w'=>(∃v,e= .returned v∧ON w.heap.size w' v r)∧Ext w w'):
  PureOK Tryz.prog f [.it (.one (.c a))] (.r (bC r)):=
 PureOK.gQ he rfl fun E S w vs hl hv=>by
  match vs,hv with
  |[va],⟨h1,_⟩=>
   obtain⟨la,ra,ea,ka⟩:=ha.h S w va h1;refine(h w va la ra ea ka).mono ?_;rintro e w' ⟨⟨v,rfl,ho⟩,hx⟩;exact⟨v,rfl,bC.aaH ho hl,Off.of_below hx⟩
theorem aok[ha:NI a x k](hk:k≤1099511627775):PureOK Tryz.prog 39 [.it (.one (.c a))] (.r (bC x)):=
 nat1 ⟨_,Tryz.func39,rfl,rfl⟩ fun w va la h1 h2 h3=>by subst h2;exact fP h1 (by omega)
theorem nAdd[ha:NI a x k][hb:NI b y m](hk:k+m≤1099511627775):PureOK Tryz.prog 173 [.it (.one (.c a)),.it (.one (.c b))] (.r (bC (x+y))):=
 nat2 ⟨_,Tryz.func173,rfl,rfl⟩ fun w va vb la lb h1 h2 h3 h4 h5 h6=>by subst h3 h4;exact sU h1 h2 (by omega) (by omega)
theorem mMul[ha:NI a x k][hb:NI b y m](hk:k+m≤274877906944):PureOK Tryz.prog 125 [.it (.one (.c a)),.it (.one (.c b))] (.r (bC (x*y))):=
 nat2 ⟨_,Tryz.func125,rfl,rfl⟩ fun w va vb la lb h1 h2 h3 h4 h5 h6=>by subst h3 h4;exact anb h1 h2 (by omega) (by omega)
theorem dGcd[ha:NI a x k][hb:NI b y m](hk:k+m≤1099511627770):PureOK Tryz.prog 89 [.it (.one (.c a)),.it (.one (.c b))] (.r (bC (Nat.gcd x y))):=
 nat2 ⟨_,Tryz.func89,rfl,rfl⟩ fun w va vb la lb h1 h2 h3 h4 h5 h6=>by subst h3 h4;exact amw h1 h2 hk (by omega) (by omega)
theorem nOf(x:Nat)(hx:x < WB):PureOK Tryz.prog 18 [.v (.int .u64 (x:Int))] (.r (bC x)):=
 PureOK.gQ ⟨_,Tryz.func18,rfl,rfl⟩ rfl fun E S w vs hl hv=>by
  match vs,hv with
  |[va],⟨h1,_⟩=>
   have h1':va= .int .u64 (x:Int):=h1;subst h1';refine(ak5 x hx w).mono ?_;rintro e w' ⟨⟨v,rfl,ho⟩,hx⟩;exact⟨v,rfl,bC.aaH ho hl,Off.of_below hx⟩
theorem nCmp[ha:NI a x k][hb:NI b y m](hk:k+m≤1099511627775):PureOK Tryz.prog 119 [.it (.one (.c a)),.it (.one (.c b))] (.v (.int .i64 (j6 x y))):=
 PureOK.gQ ⟨_,Tryz.func119,rfl,rfl⟩ rfl fun E S w vs hl hv=>by
  match vs,hv with
  |[va,vb],⟨h1,h2,_⟩=>
   obtain⟨la,ra,ea,ka⟩:=ha.h S w va h1;obtain⟨lb,rb,eb,kb⟩:=hb.h S w vb h2;subst ea eb;refine(xw ra rb (by omega) (by omega)).mono ?_
   rintro e w' ⟨rfl,hx⟩;exact⟨_,rfl,rfl,Off.of_below hx⟩
theorem adA[ha:NI a x k](hk:k≤1099511627775):PureOK Tryz.prog 35 [.it (.one (.c a))] (.v (.int .i64 (bitLen x:Int))):=
 PureOK.gQ ⟨_,Tryz.func35,rfl,rfl⟩ rfl fun E S w vs hl hv=>by
  match vs,hv with
  |[va],⟨h1,_⟩=>
   obtain⟨la,ra,ea,ka⟩:=ha.h S w va h1;subst ea;refine(alV ra (by omega)).mono ?_
   rintro e w' ⟨rfl,rfl⟩;exact⟨_,rfl,rfl,Off.refl _ _⟩
theorem aoa[ha:NI a x k](hk:k≤1099511627775):PureOK Tryz.prog 76 [.it (.one (.c a))] (.tup [.one (.c (.val (.int .u64 ((if x < WB then x else 0:Nat):Int)))),.one (.c (.val (.bool (decide (x < WB)))))]):=
 PureOK.gQ ⟨_,Tryz.func76,rfl,rfl⟩ rfl fun E S w vs hl hv=>by
  match vs,hv with
  |[va],⟨h1,_⟩=>
   obtain⟨la,ra,ea,ka⟩:=ha.h S w va h1;subst ea;refine(ajw ra (by omega)).mono ?_
   rintro e w' ⟨rfl,rfl⟩;exact⟨_,rfl,⟨[_,_],rfl,rfl,rfl,trivial⟩,Off.refl _ _⟩
theorem nSub[ha:NI a x k][hb:NI b y m](hk:k+m≤1099511627775):PureOK Tryz.prog 212 [.it (.one (.c a)),.it (.one (.c b))] (.tup [.one (.c (.sat (bC (x - y)))),.one (.c (.val (.bool (decide (y≤x)))))]):=
 PureOK.gQ ⟨_,Tryz.func212,rfl,rfl⟩ rfl fun E S w vs hl hv=>by
  match vs,hv with
  |[va,vb],⟨h1,h2,_⟩=>
   obtain⟨la,ra,ea,ka⟩:=ha.h S w va h1;obtain⟨lb,rb,eb,kb⟩:=hb.h S w vb h2;subst ea eb;rcases Nat.lt_or_ge (nval WB la) (nval WB lb)with hlt|hge
   ·refine(aiJ ra rb (by omega) (by omega) hlt).mono ?_
    rintro e w' ⟨rfl,hx⟩;refine⟨_,rfl,⟨[_,_],rfl,?_,?_,trivial⟩,Off.of_below hx⟩
    ·show (bC _).has _ _ _;rw[Nat.sub_eq_zero_of_le (by omega)];exact bC.zero
    ·show _=_;rw[decide_eq_false (by omega)]
   ·refine(ajz ra rb (by omega) (by omega) hge).mono ?_
    rintro e w' ⟨⟨v,rfl,ho⟩,hx⟩;refine⟨_,rfl,⟨[_,_],rfl,bC.aaH ho hl,?_,trivial⟩,Off.of_below hx⟩;show _=_;rw[decide_eq_true hge]
theorem abm[ha:NI a x k][hb:NI b y m](hk:k+m≤1099511627770):PureOK Tryz.prog 78 [.it (.one (.c a)),.it (.one (.c b))] (.tup [.one (.c (.sat (bC (x / y)))),.one (.c (.sat (bC (if y=0 then 0 else x % y)))),.one (.c (.val (.bool (decide (y≠0)))))]):=
 PureOK.gQ ⟨_,Tryz.func78,rfl,rfl⟩ rfl fun E S w vs hl hv=>by
  match vs,hv with
  |[va,vb],⟨h1,h2,_⟩=>
   obtain⟨la,ra,ea,ka⟩:=ha.h S w va h1;obtain⟨lb,rb,eb,kb⟩:=hb.h S w vb h2;subst ea eb;by_cases h0:nval WB lb=0
   ·refine(ads ra rb (by omega) (by omega) h0).mono ?_
    rintro e w' ⟨rfl,hx⟩;rw[h0];exact⟨_,rfl,⟨[_,_,_],rfl,by show (bC _).has _ _ _;rw[Nat.div_zero];exact bC.zero,bC.zero,rfl,trivial⟩,Off.of_below hx⟩
   ·refine(zG ra rb (by omega) (by omega) (Nat.pos_of_ne_zero h0)).mono ?_
    rintro e w' ⟨⟨vq,vr,rfl,hq,hr⟩,hx⟩;refine⟨_,rfl,⟨[_,_,_],rfl,bC.aaH hq hl,?_,?_,trivial⟩,Off.of_below hx⟩
    ·rw[if_neg h0];exact bC.aaH hr hl
    ·show _=_;rw[decide_eq_true h0]
end
theorem tT{l:List Nat}{S:Nat→Prop}{w:World}{v:Value}:(dQ l).has S w v↔Sm WB l∧(aM 1 l.length (l.map fun x:Nat=> .val (.int .u64 (x:Int)))).has S w v:=Iff.rfl
theorem sj{n k:Nat}{S:Nat→Prop}{w:World}{v:Value}:(abH n k).has S w v↔∃l,nval WB l=n∧l.length≤k∧(dQ l).has S w v:=Iff.rfl
theorem acO{n:Nat}{S:Nat→Prop}{w:World}{v:Value}:(bC n).has S w v↔∃l,Nrm l∧nval WB l=n∧(l=[]→v= .slice none 0 0)∧(dQ l).has S w v:=Iff.rfl
attribute [irreducible] abH dQ bC wds
end
section
attribute [local irreducible] IntKind.wrap bitLen j6 nval Go1 Reg WP aN aQ bM aC aj ah aT Sat
def sgn(neg:Bool)(n:Nat):Int:=if neg then -(n:Int)else(n:Int)
theorem ab9(z:Int):sgn (decide (z < 0)) z.natAbs=z:=by unfold sgn;split <;> simp_all <;> omega
theorem gP(neg:Bool)(n:Nat):(sgn neg n).natAbs=n:=by unfold sgn;split <;> omega
abbrev zN(z:Int):List Atom:=[.c (.val (.bool (decide (z < 0)))),.c (.sat (bC z.natAbs))]
abbrev zR(neg:Bool)(n k:Nat):List Atom:=[.c (.val (.bool neg)),.c (.sat (abH n k))]
class ZI(l:List Atom)(z:outParam Int)(k:outParam Nat):Prop where
 h:∃neg n,z=sgn neg n∧∀E S w v,(AV.agg l).has E S w v→(AV.agg (zR neg n k)).has E S w v
theorem ZI.mk'{neg:Bool}{a:CA}{n k:Nat}(h:NI a n k):ZI [.c (.val (.bool neg)),.c a] (sgn neg n) k:=⟨neg,n,rfl,fun E S w v hv=>by
 obtain⟨vs,hv,hall⟩:=hv
 match vs,hall with
 |[x,y],⟨h1,h2,_⟩=>exact⟨[x,y],hv,h1,h.p S w y h2,trivial⟩⟩
instance ZI.nat(neg:Bool)(n k:Nat):ZI [.c (.val (.bool neg)),.c (.sat (abH n k))] (sgn neg n) k:=ZI.mk' inferInstance
instance ZI.nrm(z:Int)(k:Nat)[h:Bd z k]:ZI [.c (.val (.bool (decide (z < 0)))),.c (.sat (bC z.natAbs))] z k:=by
 have:=ZI.mk' (neg:=decide (z < 0)) (NI.abD h.h)
 rwa [ab9]at this
instance ZI.raw(neg:Bool)(l:List Nat):ZI [.c (.val (.bool neg)),.c (.sat (dQ l))] (sgn neg (nval WB l)) l.length:=ZI.mk' inferInstance
instance ZI.zero:ZI [.c (.val (.bool false)),.c (.val (.slice none 0 0))] 0 0:=ZI.mk' (neg:=false) (n:=0) inferInstance
theorem anf{n k:Nat}{S:Nat→Prop}{w:World}{v:Value}(h:(abH n k).has S w v):n < WB ^ k:=by
 obtain⟨l,h1,h2,h3⟩:=sj.1 h;rw[←h1];exact aaS (dQ.rn h3).sm h2
theorem tK{neg:Bool}{n k:Nat}{E:Env}{S:Nat→Prop}{w:World}{v:Value}(h:(AV.agg (zR neg n k)).has E S w v):n < WB ^ k:=by
 obtain⟨vs,_,hall⟩:=h
 match vs,hall with
 |[_,_],⟨_,h2,_⟩=>exact anf h2
theorem z1{f:FuncId}{r:AV}{l:List Atom}{z:Int}{k:Nat}[h:ZI l z k](he:∃fn,Tryz.prog.funcs[f]? =some fn∧(fn.name== "runtime.NumGoroutine")=false∧fn.body.isNone=false)
  (hf:∀neg n,z=sgn neg n→BdN n k→PureOK Tryz.prog f [.agg (zR neg n k)] r):PureOK Tryz.prog f [.agg l] r:=by
 obtain⟨neg,n,hz,hm⟩:=h.h;refine PureOK.fact he (fun hb=>hf neg n hz hb) fun E S w vs hv=>?_
 match vs,hv with
 |[x],⟨h1,_⟩=>exact⟨⟨hm E S w x h1,trivial⟩,⟨tK (hm E S w x h1)⟩⟩
theorem z2{f:FuncId}{r:AV}{l l':List Atom}{z z':Int}{k k':Nat}[h:ZI l z k][h':ZI l' z' k'](he:∃fn,Tryz.prog.funcs[f]? =some fn∧(fn.name== "runtime.NumGoroutine")=false∧fn.body.isNone=false)
  (hf:∀neg n neg' n',z=sgn neg n→z'=sgn neg' n'→BdN n k→BdN n' k'→PureOK Tryz.prog f [.agg (zR neg n k),.agg (zR neg' n' k')] r):PureOK Tryz.prog f [.agg l,.agg l'] r:=by
 obtain⟨neg,n,hz,hm⟩:=h.h;obtain⟨neg',n',hz',hm'⟩:=h'.h;refine PureOK.fact (φ:=BdN n k∧BdN n' k') he (fun hb=>hf neg n neg' n' hz hz' hb.1 hb.2) fun E S w vs hv=>?_
 match vs,hv with
 |[x,y],⟨h1,h2,_⟩=>exact⟨⟨hm E S w x h1,hm' E S w y h2,trivial⟩,⟨tK (hm E S w x h1)⟩,⟨tK (hm' E S w y h2)⟩⟩
instance Bd.sgn(neg:Bool)(n k:Nat)[h:BdN n k]:Bd (sgn neg n) k:=⟨by rw[gP];exact h.h⟩
theorem ao1(neg:Bool)(n:Nat):zN (sgn neg n)=[.c (.val (.bool (neg&&decide (0 < n)))),.c (.sat (bC n))]:=by
 have h1:decide (sgn neg n < 0)=(neg&&decide (0 < n)):=by
  unfold sgn;cases neg <;> simp
 unfold zN;rw[gP,h1]
theorem oV{a:CA}{x k:Nat}[ha:NI a x k](neg:Bool)(hk:k≤1099511627775):PureOK Tryz.prog 17 [.it (.one (.c a)),.v (.bool neg)] (.agg (zN (sgn neg x))):=by
 rw[ao1];refine PureOK.args (args':=[.r (abH x k),.v (.bool neg)]) ?_ (fun E S w vs hv=>?_)
 rotate_left
 ·match vs,hv with
  |[u,v],⟨h1,h2,_⟩=>exact⟨ha.p S w u h1,h2,trivial⟩
 refine PureOK.fn Tryz.func17 Tryz.results17 Tryz.ntmps17 rfl rfl rfl (by simp[AV.ids,AV0.ids,Atom.ids]) rfl (fun w0 T B E0 hB=>?_)
 cases neg
 ·repeat(first|refine SX.goM ?_|(refine SX.Go1.is ?_;refine SX.Go1.dX ?_;first
     |refine SX.Go1.call rfl (aok hk) rfl rfl ?_))
  exact aC.eq1 (aj.iW rfl rfl rfl) rfl
 ·repeat(first|refine SX.goM ?_|(refine SX.Go1.is ?_;refine SX.Go1.dX ?_;first
     |refine SX.Go1.call rfl (aok hk) rfl rfl ?_))
  refine aC.eq1 (aj.iW rfl rfl rfl) ?_;have h:decide (0 < ((wds x).length:Int))=decide (0 < x):=by
   have:=oo x;rw[decide_eq_decide];omega
  show AV0.agg [Atom.c (CA.val (.bool (decide (0 < ((wds x).length:Int))))),_]=_;rw[h];rfl
def bO(z:Int):Int:=if z=0 then 0 else if z < 0 then -1 else 1
theorem lT{n:Nat}:bitLen n=0↔n=0:=by
 unfold bitLen;split <;> simp_all
theorem af0{l:List Atom}{z:Int}{k:Nat}[h:ZI l z k](hk:k≤1099511627775):PureOK Tryz.prog 15 [.agg l] (.v (.int .i64 (bO z))):=by
 refine z1 ⟨_,Tryz.func15,rfl,rfl⟩ fun neg n hz hn=>?_
 subst hz;refine PureOK.fn Tryz.func15 Tryz.results15 Tryz.ntmps15 rfl rfl rfl (by simp[AV.ids,AV0.ids,Atom.ids]) rfl (fun w0 T B E0 hB=>?_)
 have hb:=lT (n:=n);repeat(first|refine SX.goM ?_|(refine SX.Go1.is ?_;refine SX.Go1.dX ?_;first
    |refine SX.Go1.call rfl (adA hk) rfl rfl ?_))
 refine WP.cond rfl (fun hc=>?_) (fun hc=>?_)
 ·repeat(first|refine SX.goM ?_)
  refine aC.eq1 (aj.tmp rfl) ?_;have:n=0:=by simp at hc;omega
  subst this;cases neg <;> rfl
 ·repeat(first|refine SX.goM ?_)
  have hn:0 < n:=by simp at hc;omega
  cases neg
  ·repeat(first|refine SX.goM ?_)
   refine aC.eq1 (aj.tmp rfl) ?_;have:bO (sgn false n)=1:=by unfold bO sgn;simp;omega
   rw[this]
  ·repeat(first|refine SX.goM ?_)
   refine aC.eq1 (aj.tmp rfl) ?_;have:bO (sgn true n)= -1:=by unfold bO sgn;simp;omega
   rw[this]
theorem amd(neg:Bool)(n:Nat):sgn (!neg) n= -sgn neg n:=by unfold sgn;cases neg <;> simp
theorem zNeg{l:List Atom}{z:Int}{k:Nat}[h:ZI l z k](hk:k≤1099511627775):PureOK Tryz.prog 198 [.agg l] (.agg (zN (-z))):=by
 refine z1 ⟨_,Tryz.func198,rfl,rfl⟩ fun neg n hz hn=>?_
 subst hz;rw[←amd];refine PureOK.fn Tryz.func198 Tryz.results198 Tryz.ntmps198 rfl rfl rfl (by simp[AV.ids,AV0.ids,Atom.ids]) rfl (fun w0 T B E0 hB=>?_)
 repeat(first|refine SX.goM ?_|(refine SX.Go1.is ?_;refine SX.Go1.dX ?_;first
    |refine SX.Go1.call rfl (oV _ hk) rfl rfl ?_))
 exact aC.eq1 (aj.iW rfl rfl rfl) rfl
end
section
attribute [local irreducible] IntKind.wrap bitLen j6 nval Go1 Reg WP aN aQ bM aC aj ah aT Sat
attribute [local irreducible] sgn bO
theorem akS(z:Int)(h0:0≤z)(h1:z < 18446744073709551616):PureOK Tryz.prog 18 [.v (.int .u64 z)] (.r (bC z.natAbs)):=by
 have:=nOf z.natAbs (by rw[bY];omega)
 rwa [show ((z.natAbs:Nat):Int)=z by omega]at this
theorem zOf(z:Int)(h1: -9223372036854775808≤z)(h2:z≤9223372036854775807):PureOK Tryz.prog 6 [.v (.int .i64 z)] (.agg (zN z)):=by
 have hb:NI (.sat (bC z.natAbs)) z.natAbs 1:=NI.abD (apn z h1 h2);refine PureOK.fn Tryz.func6 Tryz.results6 Tryz.ntmps6 rfl rfl rfl (by simp[AV.ids,AV0.ids,Atom.ids]) rfl (fun w0 T B E0 hB=>?_)
 repeat(first|refine SX.goM ?_)
 refine WP.cond rfl (fun hc=>?_) (fun hc=>?_)
 ·have hz:z < 0:=by simpa using hc
  have hw:IntKind.u64.wrap (0 - IntKind.u64.wrap z)=(z.natAbs:Int):=by
   simp only[IntKind.wrap,IntKind.bits,IntKind.signed];simp;omega
  have hs:sgn true z.natAbs=z:=by unfold sgn;simp;omega
  have hcc:=nOf (z.natAbs) (by rw[bY];omega)
  repeat(first|refine SX.goM ?_|(refine SX.Go1.is ?_;refine SX.Go1.dX ?_;first
     |refine SX.Go1.call rfl (hcc) rfl rfl ?_
     |refine SX.Go1.call rfl (oV true (by omega)) rfl rfl ?_))
  rw[hs];exact aC.eq1 (aj.iW rfl rfl rfl) rfl
 ·have hz:0≤z:=by simpa using hc
  have hw:IntKind.u64.wrap z=(z.natAbs:Int):=by
   simp only[IntKind.wrap,IntKind.bits,IntKind.signed];simp;omega
  have hs:sgn false z.natAbs=z:=by unfold sgn;simp;omega
  have hcc:=nOf (z.natAbs) (by rw[bY];omega)
  repeat(first|refine SX.goM ?_|(refine SX.Go1.is ?_;refine SX.Go1.dX ?_;first
     |refine SX.Go1.call rfl (hcc) rfl rfl ?_
     |refine SX.Go1.call rfl (akS _ hz (by omega)) rfl rfl ?_
     |refine SX.Go1.call rfl (oV false (by omega)) rfl rfl ?_))
  rw[hs];exact aC.eq1 (aj.iW rfl rfl rfl) rfl
theorem abz(neg:Bool)(n m:Nat):sgn neg (n+m)=sgn neg n+sgn neg m:=by unfold sgn;split <;> omega
theorem aeN(neg:Bool){n m:Nat}(h:m≤n):sgn neg (n - m)=sgn neg n+sgn (!neg) m:=by unfold sgn;cases neg <;> simp <;> omega
theorem aeo(neg:Bool){n m:Nat}(h:n≤m):sgn (!neg) (m - n)=sgn neg n+sgn (!neg) m:=by unfold sgn;cases neg <;> simp <;> omega
theorem zAdd{l l':List Atom}{x y:Int}{k m:Nat}[h:ZI l x k][h':ZI l' y m](hk:k+m≤1099511627774):PureOK Tryz.prog 194 [.agg l,.agg l'] (.agg (zN (x+y))):=by
 refine z2 ⟨_,Tryz.func194,rfl,rfl⟩ fun neg n neg2 n2 hz hz2 hn hn2=>?_
 subst hz hz2;refine PureOK.fn Tryz.func194 Tryz.results194 Tryz.ntmps194 rfl rfl rfl (by simp[AV.ids,AV0.ids,Atom.ids]) rfl (fun w0 T B E0 hB=>?_)
 repeat(first|refine SX.goM ?_)
 refine WP.cond rfl (fun hc=>?_) (fun hc=>?_)
 ·have hq:neg=neg2:=by simpa using hc
  subst hq;repeat(first|refine SX.goM ?_|(refine SX.Go1.is ?_;refine SX.Go1.dX ?_;first
     |refine SX.Go1.call rfl (nAdd (by omega)) rfl rfl ?_
     |refine SX.Go1.call rfl (oV _ (by omega)) rfl rfl ?_))
  rw[←abz];exact aC.eq1 (aj.iW rfl rfl rfl) rfl
 ·have hq:neg2=!neg:=by cases neg <;> cases neg2 <;> simp_all
  subst hq;repeat(first|refine SX.goM ?_|(refine SX.Go1.is ?_;refine SX.Go1.dX ?_;first
     |refine SX.Go1.call rfl (nSub (by omega)) rfl rfl ?_))
  refine WP.cond rfl (fun hc2=>?_) (fun hc2=>?_)
  ·have hle:n2≤n:=by simpa using hc2
   repeat(first|refine SX.goM ?_|(refine SX.Go1.is ?_;refine SX.Go1.dX ?_;first
      |refine SX.Go1.call rfl (oV _ (by omega)) rfl rfl ?_))
   rw[←aeN neg hle];exact aC.eq1 (aj.iW rfl rfl rfl) rfl
  ·have hle:n≤n2:=by simp at hc2;omega
   repeat(first|refine SX.goM ?_|(refine SX.Go1.is ?_;refine SX.Go1.dX ?_;first
      |refine SX.Go1.call rfl (nSub (by omega)) rfl rfl ?_
      |refine SX.Go1.call rfl (oV _ (by omega)) rfl rfl ?_))
   rw[←aeo neg hle];exact aC.eq1 (aj.iW rfl rfl rfl) rfl
theorem zSub{l l':List Atom}{x y:Int}{k m:Nat}[h:ZI l x k][h':ZI l' y m](hk:k+m≤1099511627774):PureOK Tryz.prog 161 [.agg l,.agg l'] (.agg (zN (x - y))):=by
 refine z2 ⟨_,Tryz.func161,rfl,rfl⟩ fun neg n neg2 n2 hz hz2 hn hn2=>?_
 subst hz hz2;rw[Int.sub_eq_add_neg];refine PureOK.fn Tryz.func161 Tryz.results161 Tryz.ntmps161 rfl rfl rfl (by simp[AV.ids,AV0.ids,Atom.ids]) rfl (fun w0 T B E0 hB=>?_)
 repeat(first|refine SX.goM ?_|(refine SX.Go1.is ?_;refine SX.Go1.dX ?_;first
    |refine SX.Go1.call rfl (zNeg (by omega)) rfl rfl ?_
    |refine SX.Go1.call rfl (zAdd (by omega)) rfl rfl ?_))
 exact aC.eq1 (aj.iW rfl rfl rfl) rfl
theorem ano(a b:Bool)(n m:Nat):sgn (!(a==b)) (n*m)=sgn a n*sgn b m:=by unfold sgn;cases a <;> cases b <;> simp[Int.neg_mul,Int.mul_neg]
theorem zMul{l l':List Atom}{x y:Int}{k m:Nat}[h:ZI l x k][h':ZI l' y m](hk:k+m≤274877906944):PureOK Tryz.prog 202 [.agg l,.agg l'] (.agg (zN (x*y))):=by
 refine z2 ⟨_,Tryz.func202,rfl,rfl⟩ fun neg n neg2 n2 hz hz2 hn hn2=>?_
 subst hz hz2;rw[←ano];refine PureOK.fn Tryz.func202 Tryz.results202 Tryz.ntmps202 rfl rfl rfl (by simp[AV.ids,AV0.ids,Atom.ids]) rfl (fun w0 T B E0 hB=>?_)
 repeat(first|refine SX.goM ?_|(refine SX.Go1.is ?_;refine SX.Go1.dX ?_;first
    |refine SX.Go1.call rfl (mMul (by omega)) rfl rfl ?_
    |refine SX.Go1.call rfl (oV _ (by omega)) rfl rfl ?_))
 exact aC.eq1 (aj.iW rfl rfl rfl) rfl
def nZ(x y:Int):Int:=if x < y then -1 else if x=y then 0 else 1
theorem aia(n m:Nat):nZ (sgn true n) (sgn true m)=j6 m n:=by
 unfold nZ sgn j6;simp;repeat' split <;> omega
theorem ajc(n m:Nat):nZ (sgn false n) (sgn false m)=j6 n m:=by
 unfold nZ sgn j6;simp;repeat' split <;> omega
theorem zCmp{l l':List Atom}{x y:Int}{k m:Nat}[h:ZI l x k][h':ZI l' y m](hk:k+m≤1099511627774):PureOK Tryz.prog 88 [.agg l,.agg l'] (.v (.int .i64 (nZ x y))):=by
 refine z2 ⟨_,Tryz.func88,rfl,rfl⟩ fun neg n neg2 n2 hz hz2 hn hn2=>?_
 subst hz hz2;refine PureOK.fn Tryz.func88 Tryz.results88 Tryz.ntmps88 rfl rfl rfl (by simp[AV.ids,AV0.ids,Atom.ids]) rfl (fun w0 T B E0 hB=>?_)
 repeat(first|refine SX.goM ?_|(refine SX.Go1.is ?_;refine SX.Go1.dX ?_;first
    |refine SX.Go1.call rfl (af0 (by omega)) rfl rfl ?_))
 have hx:bO (sgn neg n) < 0↔sgn neg n < 0:=by unfold bO;repeat' split <;> omega
 have hx0:0 < bO (sgn neg n)↔0 < sgn neg n:=by unfold bO;repeat' split <;> omega
 have hy:bO (sgn neg2 n2) < 0↔sgn neg2 n2 < 0:=by unfold bO;repeat' split <;> omega
 have hy0:0 < bO (sgn neg2 n2)↔0 < sgn neg2 n2:=by unfold bO;repeat' split <;> omega
 have hxr: -1≤bO (sgn neg n)∧bO (sgn neg n)≤1:=by unfold bO;repeat' split <;> omega
 have hyr: -1≤bO (sgn neg2 n2)∧bO (sgn neg2 n2)≤1:=by unfold bO;repeat' split <;> omega
 refine WP.cond rfl (fun hc=>?_) (fun hc=>?_)
 ·repeat(first|refine SX.goM ?_)
  refine aC.eq1 (aj.tmp rfl) ?_;have:nZ (sgn neg n) (sgn neg2 n2)= -1:=by unfold nZ;rw[if_pos (by simp at hc;omega)]
  rw[this]
 ·repeat(first|refine SX.goM ?_)
  refine WP.cond rfl (fun hc2=>?_) (fun hc2=>?_)
  ·repeat(first|refine SX.goM ?_)
   refine aC.eq1 (aj.tmp rfl) ?_;have:nZ (sgn neg n) (sgn neg2 n2)=1:=by unfold nZ;rw[if_neg (by simp at hc2;omega),if_neg (by simp at hc2;omega)]
   rw[this]
  ·repeat(first|refine SX.goM ?_)
   refine WP.cond rfl (fun hc3=>?_) (fun hc3=>?_)
   ·have e1:sgn neg n=sgn true n:=by simp at hc hc2 hc3;unfold sgn at*;cases neg <;> simp at* <;> omega
    have e2:sgn neg2 n2=sgn true n2:=by simp at hc hc2 hc3;unfold sgn at*;cases neg2 <;> simp at* <;> omega
    repeat(first|refine SX.goM ?_|(refine SX.Go1.is ?_;refine SX.Go1.dX ?_;first
       |refine SX.Go1.call rfl (nCmp (by omega)) rfl rfl ?_))
    rw[e1,e2,aia];exact aC.eq1 (aj.tmp rfl) rfl
   ·have e1:sgn neg n=sgn false n:=by simp at hc hc2 hc3;unfold sgn at*;cases neg <;> simp at* <;> omega
    have e2:sgn neg2 n2=sgn false n2:=by simp at hc hc2 hc3;unfold sgn at*;cases neg2 <;> simp at* <;> omega
    repeat(first|refine SX.goM ?_|(refine SX.Go1.is ?_;refine SX.Go1.dX ?_;first
       |refine SX.Go1.call rfl (nCmp (by omega)) rfl rfl ?_))
    rw[e1,e2,ajc];exact aC.eq1 (aj.tmp rfl) rfl
theorem ahH(x y:Int):decide (nZ x y=0)=decide (x=y):=by
 unfold nZ;rw[decide_eq_decide];repeat' split <;> omega
theorem zSame{l l':List Atom}{x y:Int}{k m:Nat}[h:ZI l x k][h':ZI l' y m](hk:k+m≤1099511627774):PureOK Tryz.prog 48 [.agg l,.agg l'] (.v (.bool (decide (x=y)))):=by
 refine z2 ⟨_,Tryz.func48,rfl,rfl⟩ fun neg n neg2 n2 hz hz2 hn hn2=>?_
 subst hz hz2;rw[←ahH];refine PureOK.fn Tryz.func48 Tryz.results48 Tryz.ntmps48 rfl rfl rfl (by simp[AV.ids,AV0.ids,Atom.ids]) rfl (fun w0 T B E0 hB=>?_)
 repeat(first|refine SX.goM ?_|(refine SX.Go1.is ?_;refine SX.Go1.dX ?_;first
    |refine SX.Go1.call rfl (zCmp (by omega)) rfl rfl ?_))
 exact aC.eq1 (aj.tmp rfl) rfl
theorem zBits{l:List Atom}{z:Int}{k:Nat}[h:ZI l z k](hk:k≤1099511627775):PureOK Tryz.prog 147 [.agg l] (.v (.int .i64 (bitLen z.natAbs:Int))):=by
 refine z1 ⟨_,Tryz.func147,rfl,rfl⟩ fun neg n hz hn=>?_
 subst hz;rw[gP];refine PureOK.fn Tryz.func147 Tryz.results147 Tryz.ntmps147 rfl rfl rfl (by simp[AV.ids,AV0.ids,Atom.ids]) rfl (fun w0 T B E0 hB=>?_)
 repeat(first|refine SX.goM ?_|(refine SX.Go1.is ?_;refine SX.Go1.dX ?_;first
    |refine SX.Go1.call rfl (adA (by omega)) rfl rfl ?_))
 exact aC.eq1 (aj.tmp rfl) rfl
def lS(z:Int):Bool:=decide (-9223372036854775808≤z)&&decide (z≤9223372036854775807)
def qh(z:Int):Int:=if lS z then z else 0
theorem ao5{l:List Atom}{z:Int}{k:Nat}[h:ZI l z k](hk:k≤1099511627775):PureOK Tryz.prog 332 [.agg l] (.tup [.one (.c (.val (.int .i64 (qh z)))),.one (.c (.val (.bool (lS z))))]):=by
 refine z1 ⟨_,Tryz.func332,rfl,rfl⟩ fun neg n hz hn=>?_
 subst hz;refine PureOK.fn Tryz.func332 Tryz.results332 Tryz.ntmps332 rfl rfl rfl (by simp[AV.ids,AV0.ids,Atom.ids]) rfl (fun w0 T B E0 hB=>?_)
 repeat(first|refine SX.goM ?_|(refine SX.Go1.is ?_;refine SX.Go1.dX ?_;first
    |refine SX.Go1.call rfl (aoa (by omega)) rfl rfl ?_
    |refine SX.Go1.call rfl (af0 (by omega)) rfl rfl ?_))
 have hsg:decide (bO (sgn neg n) < 0)=decide (sgn neg n < 0):=by
  rw[decide_eq_decide];unfold bO;repeat' split <;> omega
 have hab:=gP neg n;have hW:=bY;generalize sgn neg n=z at*;generalize hd:decide (bO z < 0)=s at*;generalize hX:(if n < WB then n else 0)=X at*
 refine WP.cond rfl (fun hc=>?_) (fun hc=>?_)
 ·have hb:lS z=false:=by unfold lS;simp at hc ⊢;omega
  repeat(first|refine SX.goM ?_)
  refine aC.eq2 (aj.tmp rfl) (aj.tmp rfl) ?_ ?_
  ·unfold qh;rw[hb];rfl
  ·rw[hb]
 ·have hlt:n < WB:=by simpa using hc
  rw[if_pos hlt]at hX;subst hX;cases s with
  |true=>
   have hz:z < 0:=by simpa using hsg.symm
   repeat(first|refine SX.goM ?_)
   refine WP.cond rfl (fun hc=>?_) (fun hc=>?_)
   ·have hb:lS z=false:=by unfold lS;simp at hc ⊢;omega
    repeat(first|refine SX.goM ?_)
    refine aC.eq2 (aj.tmp rfl) (aj.tmp rfl) ?_ ?_
    ·unfold qh;rw[hb];rfl
    ·rw[hb]
   ·have hb:lS z=true:=by unfold lS;simp at hc ⊢;omega
    repeat(first|refine SX.goM ?_)
    refine aC.eq2 (aj.tmp rfl) (aj.tmp rfl) ?_ ?_
    ·have e:qh z=z:=by unfold qh;rw[hb];rfl
     have e2:IntKind.i64.wrap (0 - IntKind.i64.wrap (n:Int))=z:=by simp at hc;simp only[IntKind.wrap_i64];omega
     rw[e,e2]
    ·rw[hb]
  |false=>
   have hz:0≤z:=by simpa using hsg.symm
   repeat(first|refine SX.goM ?_)
   refine WP.cond rfl (fun hc=>?_) (fun hc=>?_)
   ·have hb:lS z=false:=by unfold lS;simp at hc ⊢;omega
    repeat(first|refine SX.goM ?_)
    refine aC.eq2 (aj.tmp rfl) (aj.tmp rfl) ?_ ?_
    ·unfold qh;rw[hb];rfl
    ·rw[hb]
   ·have hb:lS z=true:=by unfold lS;simp at hc ⊢;omega
    repeat(first|refine SX.goM ?_)
    refine aC.eq2 (aj.tmp rfl) (aj.tmp rfl) ?_ ?_
    ·have e:qh z=z:=by unfold qh;rw[hb];rfl
     have e2:IntKind.i64.wrap (n:Int)=z:=by simp at hc;simp only[IntKind.wrap_i64];omega
     rw[e,e2]
    ·rw[hb]
end
section
attribute [local irreducible] IntKind.wrap bitLen j6 nval Go1 Reg WP aN aQ bM aC aj ah aT Sat
def pY(x y:Int):Int:=if y=0 then 0 else x.tmod y
theorem ank(a b:Bool)(n m:Nat):sgn (!(a==b)) (n / m)=(sgn a n).tdiv (sgn b m):=by
 unfold sgn;cases a <;> cases b <;> simp[Int.neg_tdiv,Int.tdiv_neg]
theorem oO{b:Bool}{m:Nat}:sgn b m=0↔m=0:=by unfold sgn;cases b <;> simp
theorem ami(a b:Bool)(n m:Nat):sgn a (if m=0 then 0 else n % m)=pY (sgn a n) (sgn b m):=by
 unfold pY;by_cases h:m=0
 ·rw[if_pos h,if_pos (oO.2 h)];cases a <;> rfl
 ·rw[if_neg h,if_neg (fun e=>h (oO.1 e))]
  unfold sgn;cases a <;> cases b <;> simp[Int.neg_tmod,Int.tmod_neg,Int.tmod_eq_emod_of_nonneg (Int.natCast_nonneg n)]
instance Bd.tdiv(x y:Int)(k:Nat)[h:Bd x k]:Bd (x.tdiv y) k:=⟨by rw[Int.natAbs_tdiv];exact Nat.lt_of_le_of_lt (Nat.div_le_self _ _) h.h⟩
instance Bd.pY(x y:Int)(k:Nat)[h:Bd x k]:Bd (pY x y) k:=⟨by
 unfold Proofs.YtegehclknhmkgaaGreatDoor.pY
 split
 ·exact Nat.lt_of_lt_of_le (by decide) (gH k)
 ·rw[Int.natAbs_tmod];exact Nat.lt_of_le_of_lt (Nat.mod_le _ _) h.h⟩
attribute [local irreducible] sgn bO pY
theorem zQuo{l l':List Atom}{x y:Int}{k m:Nat}[h:ZI l x k][h':ZI l' y m](hk:k+m≤1099511627770):PureOK Tryz.prog 232 [.agg l,.agg l'] (.tup [.agg (zN (x.tdiv y)),.agg (zN (pY x y)),.one (.c (.val (.bool (decide (y≠0)))))]):=by
 refine z2 ⟨_,Tryz.func232,rfl,rfl⟩ fun neg n neg2 n2 hz hz2 hn hn2=>?_
 subst hz hz2;rw[←ank,←ami,show decide (sgn neg2 n2≠0)=decide (n2≠0)by rw[decide_eq_decide,ne_eq,ne_eq,oO]]
 refine PureOK.fn Tryz.func232 Tryz.results232 Tryz.ntmps232 rfl rfl rfl (by simp[AV.ids,AV0.ids,Atom.ids]) rfl (fun w0 T B E0 hB=>?_)
 repeat(first|refine SX.goM ?_|(refine SX.Go1.is ?_;refine SX.Go1.dX ?_;first
    |refine SX.Go1.call rfl (abm (by omega)) rfl rfl ?_
    |refine SX.Go1.call rfl (oV _ (by omega)) rfl rfl ?_))
 exact aC.eq3 (aj.iW rfl rfl rfl) (aj.iW rfl rfl rfl) (aj.tmp rfl) rfl rfl rfl
def zfq(x y:Int):Int:=if y=0 then 0 else x.fdiv y
def zfr(x y:Int):Int:=if y=0 then 0 else x.fmod y
theorem floor_step{x y:Int}(hy:y≠0)(h:x.tmod y*y < 0):x.tdiv y - 1=x.fdiv y∧x.tmod y+y=x.fmod y:=by
 have h1:=Int.tmod_add_mul_tdiv x y;have h2:=Int.fmod_add_mul_fdiv x y;have hq:x.tdiv y - 1=x.fdiv y:=by
  have h0:¬y ∣ x:=fun hd=>by rw[Int.tmod_eq_zero_of_dvd hd]at h;simp at h
  rw[Int.tdiv_eq_ediv,Int.fdiv_eq_ediv];have hs:(x.tmod y < 0∧0 < y)∨(0 < x.tmod y∧y < 0):=by
   rcases Int.lt_trichotomy (x.tmod y) 0 with ha|ha|ha
   ·refine .inl ⟨ha,?_⟩;rcases Int.lt_trichotomy y 0 with hb|hb|hb
    ·have:=Int.mul_pos_of_neg_of_neg ha hb;omega
    ·exact absurd hb hy
    ·exact hb
   ·rw[ha]at h;simp at h
   ·refine .inr ⟨ha,?_⟩;rcases Int.lt_trichotomy y 0 with hb|hb|hb
    ·exact hb
    ·exact absurd hb hy
    ·have:=Int.mul_pos ha hb;omega
  rcases hs with⟨a,b⟩|⟨a,b⟩
  ·have hx:x < 0:=by
    rcases Int.lt_or_le x 0 with hx|hx
    ·exact hx
    ·have:=Int.tmod_nonneg y hx;omega
   rw[if_neg (by simp[h0];omega),if_pos (by left;omega)]
   rw[Int.sign_eq_one_of_pos b];omega
  ·have hx:0 < x:=by
    rcases Int.lt_or_le 0 x with hx|hx
    ·exact hx
    ·have:=Int.tmod_nonneg y (show 0≤ -x by omega);rw[Int.neg_tmod]at this;omega
   rw[if_pos (by left;omega),if_neg (by simp[h0];omega)];omega
 refine⟨hq,?_⟩;rw[←hq,Int.mul_sub]at h2;omega
theorem floor_keep{x y:Int}(hy:y≠0)(h:¬x.tmod y*y < 0):x.tdiv y=x.fdiv y∧x.tmod y=x.fmod y:=by
 have h1:=Int.tmod_add_mul_tdiv x y;have h2:=Int.fmod_add_mul_fdiv x y;have hq:x.tdiv y=x.fdiv y:=by
  rw[Int.tdiv_eq_ediv,Int.fdiv_eq_ediv];by_cases hd:y ∣ x
  ·rw[if_pos (.inr hd),if_pos (.inr hd)];omega
  ·have h0:x.tmod y≠0:=fun e=>hd (Int.dvd_of_tmod_eq_zero e)
   rcases Int.lt_trichotomy y 0 with hb|hb|hb
   ·have:x.tmod y < 0:=by
     rcases Int.lt_trichotomy (x.tmod y) 0 with ha|ha|ha
     ·exact ha
     ·exact absurd ha h0
     ·have:=Int.mul_neg_of_pos_of_neg ha hb;omega
    have hx:x < 0:=by
     rcases Int.lt_or_le x 0 with hx|hx
     ·exact hx
     ·have:=Int.tmod_nonneg y hx;omega
    rw[if_neg (by simp[hd];omega),if_neg (by simp[hd];omega),Int.sign_eq_neg_one_of_neg hb];omega
   ·exact absurd hb hy
   ·have:0 < x.tmod y:=by
     rcases Int.lt_trichotomy (x.tmod y) 0 with ha|ha|ha
     ·have:=Int.mul_neg_of_neg_of_pos ha hb;omega
     ·exact absurd ha h0
     ·exact ha
    have hx:0≤x:=by
     rcases Int.lt_or_le x 0 with hx|hx
     ·have:=Int.tmod_nonneg y (show 0≤ -x by omega);rw[Int.neg_tmod]at this;omega
     ·exact hx
    rw[if_pos (.inl hx),if_pos (.inl (by omega))];omega
 refine⟨hq,?_⟩;rw[←hq]at h2;omega
instance Bd.zfq(x y:Int)(k:Nat)[h:Bd x k]:Bd (zfq x y) (k+1+1):=⟨by
 unfold Proofs.YtegehclknhmkgaaGreatDoor.zfq
 split
 ·exact Nat.lt_of_lt_of_le (by decide) (gH _)
 ·by_cases h0:x.tmod y*y < 0
  ·rw[←(floor_step (by assumption) h0).1];exact(Bd.sub (x.tdiv y) 1 k 1).h
  ·rw[←(floor_keep (by assumption) h0).1];exact Bd.mono (Bd.tdiv x y k).h (by omega)⟩
instance Bd.zfr(x y:Int)(k m:Nat)[h:Bd x k][h':Bd y m]:Bd (zfr x y) (k+m+1):=⟨by
 unfold Proofs.YtegehclknhmkgaaGreatDoor.zfr
 split
 ·exact Nat.lt_of_lt_of_le (by decide) (gH _)
 ·have hb:Bd (x.tmod y) k:=⟨by rw[Int.natAbs_tmod];exact Nat.lt_of_le_of_lt (Nat.mod_le _ _) h.h⟩
  by_cases h0:x.tmod y*y < 0
  ·rw[←(floor_step (by assumption) h0).2];exact(Bd.add (x.tmod y) y k m).h
  ·rw[←(floor_keep (by assumption) h0).2];exact Bd.mono hb.h (by omega)⟩
attribute [local irreducible] zfq zfr
theorem aep(z:Int):decide (bO z=0)=decide (z=0):=by
 rw[decide_eq_decide];unfold bO;repeat' split <;> omega
end
section
attribute [local irreducible] IntKind.wrap bitLen j6 nval Go1 Reg WP aN aQ bM aC aj ah aT Sat
attribute [local irreducible] sgn bO pY zfq zfr
theorem zN0:AV0.imp (.agg [.c (.val (.bool false)),.c (.val (.slice none 0 0))]) (.agg (zN 0)):=by
 rintro E S w v ⟨vs,hv,hall⟩
 match vs,hall with
 |[a,b],⟨h1,h2,_⟩=>
  refine⟨[a,b],hv,h1,?_,trivial⟩;rw[show b=_ from h2]
  exact bC.zero
def mX(x y:Int):Bool:=decide (y≠0)&&decide (pY x y=0)
def fK(x y:Int):Int:=if mX x y then x.tdiv y else 0
instance Bd.fK(x y:Int)(k:Nat)[h:Bd x k]:Bd (fK x y) k:=⟨by
 unfold Proofs.YtegehclknhmkgaaGreatDoor.fK
 split
 ·exact(Bd.tdiv x y k).h
 ·exact Nat.lt_of_lt_of_le (by decide) (gH _)⟩
theorem aoE{l l':List Atom}{x y:Int}{k m:Nat}[h:ZI l x k][h':ZI l' y m](hk:k+m≤1099511627760):PureOK Tryz.prog 199 [.agg l,.agg l'] (.tup [.agg (zN (fK x y)),.one (.c (.val (.bool (mX x y))))]):=by
 refine z2 ⟨_,Tryz.func199,rfl,rfl⟩ fun neg n neg2 n2 hz hz2 hn hn2=>?_
 refine PureOK.fn Tryz.func199 Tryz.results199 Tryz.ntmps199 rfl rfl rfl (by simp[AV.ids,AV0.ids,Atom.ids]) rfl (fun w0 T B E0 hB=>?_)
 by_cases hy:y=0
 ·have hok:decide (y≠0)=false:=by simp[hy]
  have hok2:(!decide (y≠0))=true:=by simp[hy]
  have he:mX x y=false:=by unfold mX;rw[hok];rfl
  have hq:fK x y=0:=by unfold fK;rw[he];rfl
  rw[he,hq];rw[hz2]at hok hok2;subst hz hz2;repeat(first|refine SX.goM ?_|(refine SX.Go1.is ?_;refine SX.Go1.dX ?_;first
     |refine SX.Go1.call rfl (zQuo (by omega)) rfl rfl ?_))
  exact aC.mk2 (aj.imp (aj.iW rfl rfl rfl) zN0) (aj.tmp rfl)
 ·have hok:decide (y≠0)=true:=by simp[hy]
  have hok2:(!decide (y≠0))=false:=by simp[hy]
  rw[hz2]at hok hok2;subst hz hz2;repeat(first|refine SX.goM ?_|(refine SX.Go1.is ?_;refine SX.Go1.dX ?_;first
     |refine SX.Go1.call rfl (zQuo (by omega)) rfl rfl ?_
     |refine SX.Go1.call rfl (af0 (by omega)) rfl rfl ?_))
  have hne:decide (bO (pY (sgn neg n) (sgn neg2 n2))≠0)=decide (pY (sgn neg n) (sgn neg2 n2)≠0):=by
   have:=aep (pY (sgn neg n) (sgn neg2 n2));rw[decide_eq_decide]at*;omega
  rw[hne];refine WP.cond rfl (fun hc=>?_) (fun hc=>?_)
  ·have hz0:pY (sgn neg n) (sgn neg2 n2)≠0:=by simpa using hc
   have he:mX (sgn neg n) (sgn neg2 n2)=false:=by unfold mX;simp[hz0]
   have hq:fK (sgn neg n) (sgn neg2 n2)=0:=by unfold fK;rw[he];rfl
   rw[he,hq];repeat(first|refine SX.goM ?_)
   exact aC.mk2 (aj.imp (aj.iW rfl rfl rfl) zN0) (aj.tmp rfl)
  ·have hz0:pY (sgn neg n) (sgn neg2 n2)=0:=by simpa using hc
   have he:mX (sgn neg n) (sgn neg2 n2)=true:=by unfold mX;rw[hok];simp[hz0]
   have hq:fK (sgn neg n) (sgn neg2 n2)=(sgn neg n).tdiv (sgn neg2 n2):=by unfold fK;rw[he];rfl
   rw[he,hq];repeat(first|refine SX.goM ?_)
   exact aC.mk2 (aj.iW rfl rfl rfl) (aj.tmp rfl)
theorem ahQ(n:Nat):sgn false n=(n:Int):=by unfold sgn;simp
theorem zGcd{l l':List Atom}{x y:Int}{k m:Nat}[h:ZI l x k][h':ZI l' y m](hk:k+m≤1099511627760):PureOK Tryz.prog 49 [.agg l,.agg l'] (.agg (zN (Int.gcd x y:Int))):=by
 refine z2 ⟨_,Tryz.func49,rfl,rfl⟩ fun neg n neg2 n2 hz hz2 hn hn2=>?_
 subst hz hz2;rw[show (Int.gcd (sgn neg n) (sgn neg2 n2):Int)=sgn false (Nat.gcd n n2)by rw[ahQ];unfold Int.gcd;rw[gP,gP]]
 refine PureOK.fn Tryz.func49 Tryz.results49 Tryz.ntmps49 rfl rfl rfl (by simp[AV.ids,AV0.ids,Atom.ids]) rfl (fun w0 T B E0 hB=>?_)
 repeat(first|refine SX.goM ?_|(refine SX.Go1.is ?_;refine SX.Go1.dX ?_;first
    |refine SX.Go1.call rfl (dGcd (by omega)) rfl rfl ?_
    |refine SX.Go1.call rfl (oV _ (by omega)) rfl rfl ?_))
 exact aC.eq1 (aj.iW rfl rfl rfl) rfl
instance BdN.igcd(x y:Int)(k m:Nat)[hx:Bd x k][hy:Bd y m]:BdN (Int.gcd x y) (k+m):=⟨(BdN.gcd x.natAbs y.natAbs k m).h⟩
end
section
attribute [local irreducible] IntKind.wrap bitLen j6 nval Go1 Reg WP aN aQ bM aC aj ah aT Sat
theorem amX{a:CA}{x k:Nat}[ha:NI a x k](hk:k+k≤274877906944):PureOK Tryz.prog 79 [.it (.one (.c a))] (.r (bC (x*x))):=by
 refine PureOK.fn Tryz.func79 Tryz.results79 Tryz.ntmps79 rfl rfl rfl (by simp[AV.ids,AV0.ids,Atom.ids]) rfl (fun w0 T B E0 hB=>?_)
 repeat(first|refine SX.goM ?_|(refine SX.Go1.is ?_;refine SX.Go1.dX ?_;first
    |refine SX.Go1.call rfl (mMul (by omega)) rfl rfl ?_))
 exact aC.eq1 (aj.tmp rfl) rfl
def agP(x:Nat)(n:Int):Bool:=decide (0≤n)&&(decide (bitLen x=0)||decide (n≤((1048576 / bitLen x:Nat):Int)))
def powv(x:Nat)(n:Int):Nat:=if agP x n=true then x ^ n.toNat else 0
theorem pow_lt{x e N b K W:Nat}(hW:1 < W)(hx:x < 2 ^ b)(he:e≤N)(hN:N*b≤64*K)(hK:0 < K)(hw:W=2 ^ 64):x ^ e < W ^ K:=by
 subst hw;rw[←Nat.pow_mul];cases e with
 |zero=>rw[Nat.pow_zero];exact Nat.one_lt_two_pow (by omega)
 |succ e=>
  refine Nat.lt_of_lt_of_le (Nat.pow_lt_pow_left hx (by omega)) ?_
  rw[←Nat.pow_mul];exact Nat.pow_le_pow_right (by omega) (Nat.le_trans (by rw[Nat.mul_comm];exact Nat.mul_le_mul_right b he) hN)
@[irreducible] def pwK:Nat:=16384
theorem pwK_eq:pwK=16384:=by unfold pwK;rfl
theorem pow_bd{x e N:Nat}(he:e≤N)(hN:N*bitLen x≤1048576):BdN (x ^ e) pwK:=⟨pow_lt (K:=pwK) qK (bitLen_spec x).1 he (by rw[pwK_eq];omega) (by rw[pwK_eq];omega) jF⟩
attribute [local irreducible] agP powv
theorem powv_bd(x:Nat)(n:Int):powv x n < WB ^ pwK:=by
 unfold powv
 split
 ·rename_i h;unfold agP at h;simp only[Bool.and_eq_true,Bool.or_eq_true,decide_eq_true_eq]at h;refine(pow_bd (N:=n.toNat) (Nat.le_refl _) ?_).h;rcases h.2 with hb|hb
  ·rw[hb];omega
  ·have h5:n.toNat≤1048576 / bitLen x:=by omega
   exact Nat.le_trans (Nat.mul_le_mul_right _ h5) (Nat.div_mul_le_self ..)
 ·exact Nat.lt_of_lt_of_le (by decide) (gH pwK)
instance BdN.powv(x:Nat)(n:Int):BdN (powv x n) pwK:=⟨powv_bd x n⟩
def ahb(z:Int)(n:Int):Int:=if agP z.natAbs n=true then z ^ n.toNat else 0
theorem sgn_pow(neg:Bool)(x:Nat)(n:Int):sgn (neg&&decide (n.tmod 2≠0)) (powv x n)=ahb (sgn neg x) n:=by
 unfold powv ahb;rw[gP]
 split
 ·rename_i h;have h0:0≤n:=by unfold agP at h;simp at h;exact h.1
  have ht:n.tmod 2=((n.toNat % 2:Nat):Int):=by rw[Int.tmod_eq_emod_of_nonneg h0];omega
  unfold sgn;cases neg
  ·simp
  ·rcases Nat.mod_two_eq_zero_or_one n.toNat with e|e
   ·rw[ht,e];simp;rw[show (-(x:Int)) ^ n.toNat=(x:Int) ^ n.toNat from ?_]
    obtain⟨m,hm⟩:∃m,n.toNat=2*m:=⟨n.toNat / 2,by omega⟩
    rw[hm,Int.pow_mul,Int.pow_mul];congr 1;simp[Int.pow_succ,Int.neg_mul_neg]
   ·rw[ht,e];simp;obtain⟨m,hm⟩:∃m,n.toNat=2*m+1:=⟨n.toNat / 2,by omega⟩
    rw[hm,Int.pow_succ,Int.pow_succ,Int.pow_mul,Int.pow_mul,show (-(x:Int)) ^ 2=(x:Int) ^ 2 by simp[Int.pow_succ,Int.neg_mul_neg],Int.mul_neg]
 ·unfold sgn;simp
instance Bd.ahb(z:Int)(n:Int):Bd (ahb z n) pwK:=⟨by
 have h:=sgn_pow (decide (z < 0)) z.natAbs n;rw[ab9]at h;rw[←h,gP];exact powv_bd _ _⟩
attribute [local irreducible] sgn ahb
end
section
def iX:Nat→Nat→List UInt8
 |0,_=>[]
 |n+1,x=>iX n (x / 10)++[UInt8.ofNat (48+x % 10)]
theorem rT:∀n x,(iX n x).length=n
 |0,_=>rfl
 |n+1,x=>by rw[iX,List.length_append,rT n];rfl
theorem adO:∀(m n x:Nat),iX (n+m) x=iX n (x / 10 ^ m)++iX m (x % 10 ^ m)
 |0,n,x=>by simp[iX]
 |m+1,n,x=>by
  have e1:x / 10 ^ (m+1)=x / 10 / 10 ^ m:=by rw[Nat.div_div_eq_div_mul,Nat.pow_succ,Nat.mul_comm]
  have e2:x % 10 ^ (m+1) / 10=x / 10 % 10 ^ m:=by rw[Nat.pow_succ,Nat.mul_comm,Nat.mod_mul_right_div_self]
  have e3:x % 10 ^ (m+1) % 10=x % 10:=by rw[Nat.pow_succ,Nat.mul_comm,Nat.mod_mul_right_mod]
  rw[←Nat.add_assoc,iX,adO m n,iX,e1,e2,e3,List.append_assoc]
def dig(x:Nat):List UInt8:=if h:x=0 then []else dig (x / 10)++[UInt8.ofNat (48+x % 10)]
decreasing_by omega
theorem jm:dig 0=[]:=by rw[dig];rfl
theorem mJ{x:Nat}(h:x≠0):dig x=dig (x / 10)++[UInt8.ofNat (48+x % 10)]:=by rw[dig,dif_neg h]
theorem aaD:∀n,(iX n 0).all (· ==48)=true
 |0=>rfl
 |n+1=>by rw[iX,List.all_append,show 0 / 10=0 from rfl,aaD n];decide
theorem qm{p:UInt8→Bool}:∀{l:List UInt8},l.all p=true→∀m,(l++m).dropWhile p=m.dropWhile p
 |[],_,m=>rfl
 |a::l,h,m=>by
  rw[List.all_cons,Bool.and_eq_true]at h;rw[List.cons_append,List.dropWhile_cons,if_pos h.1];exact qm h.2 m
theorem ug{p:UInt8→Bool}:∀{l:List UInt8} (m:List UInt8),l.dropWhile p≠[]→(l++m).dropWhile p=l.dropWhile p++m
 |[],m,h=>absurd rfl h
 |a::l,m,h=>by
  rw[List.cons_append,List.dropWhile_cons,List.dropWhile_cons]at*;cases hp:p a
  ·simp
  ·simp only[hp,if_true]at h ⊢;exact ug m h
theorem afv{x:Nat}(h:x≠0):dig x≠[]:=by rw[mJ h];simp
theorem am8{d:Nat}(h0:d≠0)(h1:d < 10):(UInt8.ofNat (48+d)==48)=false:=by
 rw[beq_eq_false_iff_ne];intro e;have:=congrArg UInt8.toNat e;rw[UInt8.toNat_ofNat']at this;have h48:(48:UInt8).toNat=48:=rfl;omega
theorem uI:∀(n x:Nat),x < 10 ^ n→(iX n x).dropWhile (· ==48)=dig x
 |0,x,h=>by
  have:x=0:=by simpa using h
  subst this;rw[jm];rfl
 |n+1,x,h=>by
  have hx:x / 10 < 10 ^ n:=by rw[Nat.pow_succ]at h;omega
  have ih:=uI n (x / 10) hx;rw[iX];by_cases h0:x / 10=0
  ·rw[h0,qm (aaD n)];by_cases hx0:x=0
   ·subst hx0;rw[jm];decide
   ·rw[mJ hx0,h0,jm,List.dropWhile_cons,am8 (by omega) (by omega)];rfl
  ·rw[ug _ (by rw[ih];exact afv h0),ih,←mJ (by omega)]
def nD:Nat→Nat
 |0=>18
 |j+1=>nD j+nD j
def pw(j:Nat):Nat:=10 ^ nD j
theorem afE:pw 0=1000000000000000000:=rfl
theorem ab0(j:Nat):pw (j+1)=pw j*pw j:=by unfold pw;rw[nD,Nat.pow_add]
theorem alz(j:Nat):0 < pw j:=Nat.pow_pos (by decide)
theorem aaR:∀j,j+18≤nD j
 |0=>Nat.le_refl _
 |j+1=>by have:=aaR j;rw[nD];omega
instance BdN.pw(j:Nat):BdN (pw j) (nD j):=⟨by
 show 10 ^ nD j < WB ^ nD j;exact Nat.pow_lt_pow_left (by rw[bY];decide) (by have:=aaR j;omega)⟩
theorem xg(j:Nat):nD j≤bitLen (pw j):=by
 have h:=(bitLen_spec (pw j)).1;have h2:2 ^ nD j≤pw j:=Nat.pow_le_pow_left (by decide) _
 exact Nat.le_of_lt ((Nat.pow_lt_pow_iff_right (by decide)).1 (Nat.lt_of_le_of_lt h2 h))
theorem abJ{x k:Nat}(h:x < WB ^ k):bitLen x≤64*k:=by
 have hs:=(bitLen_spec x).2;by_cases h0:x=0
 ·subst h0;exact Nat.zero_le _
 ·have h1:=hs h0;have e:WB ^ k=2 ^ (64*k):=by rw[Nat.pow_mul];rfl
  rw[e]at h;have:=(Nat.pow_lt_pow_iff_right (a:=2) (by decide)).1 (Nat.lt_of_le_of_lt h1 h)
  omega
def pwM(x:Nat):Nat→Nat→Nat
 |0,j=>j
 |f+1,j=>if 2*bitLen (pw j)≤bitLen x+1 then pwM x f (j+1)else j
def pwm(x:Nat):Nat:=pwM x (bitLen x+2) 0
theorem ahz{x j:Nat}(h:¬2*bitLen (pw j)≤bitLen x+1):x < pw (j+1):=by
 have h1:=(bitLen_spec x).1;have h2:=(bitLen_spec (pw j)).2 (Nat.ne_of_gt (alz j));have h3:=xg j;have h4:=aaR j;rw[ab0];refine Nat.lt_of_lt_of_le h1 (Nat.le_trans ?_ (Nat.mul_le_mul h2 h2));rw[←Nat.pow_add];exact Nat.pow_le_pow_right (by decide) (by omega)
def aO(x:Nat):List UInt8:=if x=0 then [48]else dig x
theorem ab5{x n:Nat}(h:x < 10 ^ n):(dig x).length≤n:=by
 rw[←uI n x h];exact Nat.le_trans (List.dropWhile_sublist _).length_le (Nat.le_of_eq (rT n x))
end
end Go.Proofs.YtegehclknhmkgaaGreatDoor