import Derived.Test.YtmgfiodmdfaclaaGreatDoorA30
import Derived.Test.YtmgfiodmdfaclaaGreatDoorA2
import Derived.Test.YtmgfiodmdfaclaaGreatDoorA34
import Derived.Test.YtmgfiodmdfaclaaGreatDoorA3
set_option linter.unusedVariables false
set_option linter.unusedSimpArgs false
namespace Go.Proofs.YtmgfiodmdfaclaaGreatDoor
open Go.RowKit QM SX
section
def dJ(l:List Nat):Rep where
 has S w v:=Sm WB l∧(aI 1 l.length (l.map fun x:Nat=> .val (.int .u64 (x:Int)))).has S w v
 one h:=(aI _ _ _).one h.2
 step h ho hs:=⟨h.1,(aI _ _ _).step h.2 ho hs⟩
theorem dJ.rn{l:List Nat}{S:Nat→Prop}{w:World}{v:Value}(h:(dJ l).has S w v):RN w v l:=by
 obtain⟨hs,h⟩:=h;obtain⟨oa,cap,h1,h2,h3,h4,h5,h6⟩:=bF.1 h;refine⟨oa,cap,h1,h2,h3,h4,hs,fun i hi=>?_⟩
 obtain⟨b,o,u,e1,e2,e3,e4⟩:=h6 i (.val (.int .u64 ((gd l i:Nat):Int))) (by simp[gd,List.getD_eq_getElem?_getD,hi])
 exact⟨b,o,e1,by rw[e3,show u=_ from e4]⟩
def bB(n:Nat):Rep where
 has S w v:=∃l,Nrm l∧nval WB l=n∧(l=[]→v= .slice none 0 0)∧(dJ l).has S w v
 one h:=by obtain⟨l,_,_,_,h⟩:=h;exact(dJ l).one h
 step h ho hs:=by obtain⟨l,h1,h2,h3,h⟩:=h;exact⟨l,h1,h2,h3,(dJ l).step h ho hs⟩
theorem bB.acf{n base:Nat}{S:Nat→Prop}{w:World}{v:Value}(h:ON base w v n)(hS:∀k,S k→k < base):(bB n).has S w v:=by
 obtain⟨l,h1,h2,h3,h4,h5⟩:=h;refine⟨l,h3,h4,h5,h2,?_⟩;rcases h1.2 with⟨rfl,h0⟩|⟨g,cap,cur,rfl,hb,hg,hn,hm,hcs,htk⟩
 ·have hl:l=[]:=List.eq_nil_of_length_eq_zero h0;subst hl;exact bF.2 ⟨none,0,rfl,Nat.le_refl _,by simp[maxLen],fun _=>rfl,by simp,fun i c hc=>by simp at hc⟩
 ·refine bF.2 ⟨some ⟨g,0,none⟩,cap,rfl,hn,hm,fun e=>(by cases e),by simp,fun i c hc=>?_⟩
  have hi:i < l.length:=by have:=(List.getElem?_eq_some_iff.1 hc).1;simpa using this
  refine⟨g,0,.int .u64 ((gd l i:Nat):Int),rfl,fun h=>by have:=hS g h;omega,?_,?_⟩
  ·rw[Nat.zero_add,h1.cellAt i (by omega)]
   simp[wv,List.getElem?_map,List.getElem?_eq_getElem hi,gd,List.getD_eq_getElem?_getD]
  ·simp[List.getElem?_map,List.getElem?_eq_getElem hi]at hc
   subst hc;simp[CA.has,gd,List.getD_eq_getElem?_getD,hi]
theorem bB.zero{S:Nat→Prop}{w:World}:(bB 0).has S w (.slice none 0 0):=
 ⟨[],Nrm.nil,rfl,fun _=>rfl,Sm.nil,bF.2 ⟨none,0,rfl,Nat.le_refl _,by simp[maxLen],fun _=>rfl,by simp,fun i c hc=>by simp at hc⟩⟩
def abL(B:Nat):Nat→Nat→List Nat
 |0,_=>[]
 |_+1,0=>[]
 |f+1,n+1=>((n+1) % B)::abL B f ((n+1) / B)
theorem sZ{B:Nat}(hB:1 < B):∀(f n:Nat),n≤f→Sm B (abL B f n)∧nval B (abL B f n)=n∧Nrm (abL B f n)
 |0,n,h=>by
  have:n=0:=by omega
  subst this;exact⟨Sm.nil,rfl,Nrm.nil⟩
 |f+1,0,_=>⟨Sm.nil,rfl,Nrm.nil⟩
 |f+1,n+1,h=>by
  have hlt:(n+1) / B < n+1:=Nat.div_lt_self (by omega) hB
  obtain⟨h1,h2,h3⟩:=sZ hB f ((n+1) / B) (by omega)
  have hv:nval B (abL B (f+1) (n+1))=n+1:=by
   show (n+1) % B+B*nval B (abL B f ((n+1) / B))=n+1;rw[h2];exact Nat.mod_add_div _ _
  refine⟨h1.cons (Nat.mod_lt _ (by omega)),hv,.inr ?_⟩
  have hc:abL B (f+1) (n+1)=(n+1) % B::abL B f ((n+1) / B):=rfl;rw[hc];generalize abL B f ((n+1) / B)=l at*;rcases h3 with h3|h3
  ·subst h3;have h5:(n+1) / B=0:=h2.symm;have:(n+1) % B=n+1:=by have:=Nat.mod_add_div (n+1) B;rw[h5]at this;simpa using this
   simp[this]
  ·have h6:l.length≠0:=by
    intro h0;rw[List.eq_nil_of_length_eq_zero h0]at h3;simp at h3
   obtain⟨m,hm⟩:∃m,l.length=m+1:=⟨l.length - 1,by omega⟩
   rw[hm]at h3;simp only[List.length_cons,hm,Nat.add_sub_cancel,List.getD_eq_getElem?_getD,List.getElem?_cons_succ]at*
   exact h3
def wds(n:Nat):List Nat:=abL WB n n
theorem adh(n:Nat):Sm WB (wds n):=(sZ uI n n (Nat.le_refl n)).1
theorem pR(n:Nat):nval WB (wds n)=n:=(sZ uI n n (Nat.le_refl n)).2.1
theorem zL(n:Nat):Nrm (wds n):=(sZ uI n n (Nat.le_refl n)).2.2
theorem uX{l:List Nat}(hs:Sm WB l)(hn:Nrm l):l=wds (nval WB l):=amO aY hs (adh _) hn (zL _) (pR _).symm
theorem lZ{n k:Nat}(h:n < WB ^ k):(wds n).length≤k:=(zL n).rF aY (by rw[pR];exact h)
theorem sD(n:Nat):(wds n).length=0↔n=0:=by
 constructor
 ·intro h;have:=pR n;rw[List.eq_nil_of_length_eq_zero h]at this;exact this.symm
 ·intro h;subst h;rfl
instance(l:List Nat):ji (dJ l) 1 l.length (l.map fun x:Nat=> .val (.int .u64 (x:Int))):=⟨fun _ _ _ h=>h.2⟩
instance(n:Nat):ji (bB n) 1 (wds n).length ((wds n).map fun x:Nat=> .val (.int .u64 (x:Int))):=⟨fun _ _ _ h=>by
 obtain⟨l,h1,h2,_,h4⟩:=h;have:=uX h4.1 h1;rw[h2]at this;rw[←this];exact h4.2⟩
class Bd(z:Int)(k:outParam Nat):Prop where
 h:z.natAbs < WB ^ k
def ado(n k:Nat):Rep where
 has S w v:=∃l,nval WB l=n∧l.length≤k∧(dJ l).has S w v
 one h:=by obtain⟨l,_,_,h⟩:=h;exact(dJ l).one h
 step h ho hs:=by obtain⟨l,h1,h2,h⟩:=h;exact⟨l,h1,h2,(dJ l).step h ho hs⟩
class NI(a:CA)(n:outParam Nat)(k:outParam Nat):Prop where
 p:∀S w v,a.has S w v→(ado n k).has S w v
theorem NI.h{a:CA}{n k:Nat}(x:NI a n k):∀S w v,a.has S w v→∃l,RN w v l∧nval WB l=n∧l.length≤k:=fun S w v h=>by
 obtain⟨l,h1,h2,h3⟩:=x.p S w v h;exact⟨l,dJ.rn h3,h1,h2⟩
instance NI.nat(n k:Nat):NI (.sat (ado n k)) n k:=⟨fun _ _ _ h=>h⟩
instance NI.raw(l:List Nat):NI (.sat (dJ l)) (nval WB l) l.length:=⟨fun S w v h=>⟨l,rfl,Nat.le_refl _,h⟩⟩
instance NI.nil:NI (.val (.slice none 0 0)) 0 0:=⟨fun S w v h=>by
 rw[show v=_ from h]
 exact⟨[],rfl,Nat.le_refl _,Sm.nil,bF.2 ⟨none,0,rfl,Nat.le_refl _,by simp[maxLen],fun _=>rfl,by simp,fun i c hc=>by simp at hc⟩⟩⟩
theorem NI.aaL{n k:Nat}(hk:n < WB ^ k):NI (.sat (bB n)) n k:=⟨fun S w v h=>by
 obtain⟨l,h1,h2,_,h4⟩:=h;exact⟨l,h2,h1.rF aY (by rw[h2];exact hk),h4⟩⟩
class BdN(n:Nat)(k:outParam Nat):Prop where
 h:n < WB ^ k
instance NI.nrm(n k:Nat)[h:BdN n k]:NI (.sat (bB n)) n k:=NI.aaL h.h
instance BdN.abs(z:Int)(k:Nat)[h:Bd z k]:BdN z.natAbs k:=⟨h.h⟩
theorem iU(k:Nat):1≤WB ^ k:=Nat.one_le_pow k WB aY
theorem Bd.mono{z:Int}{k m:Nat}(h:z.natAbs < WB ^ k)(hm:k≤m):z.natAbs < WB ^ m:=Nat.lt_of_lt_of_le h (Nat.pow_le_pow_right aY hm)
theorem ag3(k m:Nat):WB ^ k+WB ^ m≤WB ^ (k+m)+1:=by
 have h1:=iU k;have h2:=iU m;rw[Nat.pow_add];generalize WB ^ k=a at*;generalize WB ^ m=b at*;obtain⟨a,rfl⟩:∃a',a=a'+1:=⟨a - 1,by omega⟩
 obtain⟨b,rfl⟩:∃b',b=b'+1:=⟨b - 1,by omega⟩
 rw[Nat.add_mul,Nat.mul_add];have:0≤a*b:=Nat.zero_le _;omega
theorem ahc{x y:Int}{k m:Nat}(hx:x.natAbs < WB ^ k)(hy:y.natAbs < WB ^ m):(x+y).natAbs < WB ^ (k+m+1):=by
 have h1:=ag3 k m;have h2:WB ^ (k+m)*2≤WB ^ (k+m+1):=by rw[Nat.pow_succ];exact Nat.mul_le_mul_left _ (by decide)
 have h3:=iU (k+m);omega
instance Bd.add(x y:Int)(k m:Nat)[hx:Bd x k][hy:Bd y m]:Bd (x+y) (k+m+1):=⟨ahc hx.h hy.h⟩
instance Bd.sub(x y:Int)(k m:Nat)[hx:Bd x k][hy:Bd y m]:Bd (x - y) (k+m+1):=⟨by rw[Int.sub_eq_add_neg];exact ahc hx.h (by rw[Int.natAbs_neg];exact hy.h)⟩
instance Bd.neg(x:Int)(k:Nat)[hx:Bd x k]:Bd (-x) k:=⟨by rw[Int.natAbs_neg];exact hx.h⟩
instance Bd.mul(x y:Int)(k m:Nat)[hx:Bd x k][hy:Bd y m]:Bd (x*y) (k+m):=⟨by
 rw[Int.natAbs_mul,Nat.pow_add];exact Nat.mul_lt_mul_of_lt_of_le hx.h (Nat.le_of_lt hy.h) (iU m)⟩
theorem aoZ{x y:Nat}{k m:Nat}(hx:x < WB ^ k)(hy:y < WB ^ m):x+y < WB ^ (k+m+1):=by
 have:=ahc (x:=(x:Int)) (y:=(y:Int)) (k:=k) (m:=m) (by simpa using hx) (by simpa using hy)
 omega
instance BdN.add(x y k m:Nat)[hx:BdN x k][hy:BdN y m]:BdN (x+y) (k+m+1):=⟨aoZ hx.h hy.h⟩
instance BdN.mul(x y k m:Nat)[hx:BdN x k][hy:BdN y m]:BdN (x*y) (k+m):=⟨by
 rw[Nat.pow_add];exact Nat.mul_lt_mul_of_lt_of_le hx.h (Nat.le_of_lt hy.h) (iU m)⟩
instance BdN.sub(x y k:Nat)[hx:BdN x k]:BdN (x - y) k:=⟨Nat.lt_of_le_of_lt (Nat.sub_le _ _) hx.h⟩
instance BdN.div(x y k:Nat)[hx:BdN x k]:BdN (x / y) k:=⟨Nat.lt_of_le_of_lt (Nat.div_le_self _ _) hx.h⟩
instance BdN.mod(x y k:Nat)[hx:BdN x k]:BdN (x % y) k:=⟨Nat.lt_of_le_of_lt (Nat.mod_le _ _) hx.h⟩
instance BdN.ite(c:Prop)[Decidable c](x k:Nat)[hx:BdN x k]:BdN (if c then 0 else x) k:=⟨by split;exact Nat.lt_of_lt_of_le (by decide) (iU k);exact hx.h⟩
instance BdN.gcd(x y k m:Nat)[hx:BdN x k][hy:BdN y m]:BdN (Nat.gcd x y) (k+m):=⟨by
 rcases Nat.eq_zero_or_pos x with h0|h0
 ·subst h0;rw[Nat.gcd_zero_left];exact Nat.lt_of_lt_of_le hy.h (Nat.pow_le_pow_right aY (by omega))
 ·exact Nat.lt_of_le_of_lt (Nat.gcd_le_left y h0) (Nat.lt_of_lt_of_le hx.h (Nat.pow_le_pow_right aY (by omega)))⟩
instance Bd.nat(n k:Nat)[h:BdN n k]:Bd (n:Int) k:=⟨by simpa using h.h⟩
instance Bd.zero:Bd 0 0:=⟨by simp⟩
instance Bd.one:Bd 1 1:=⟨by simp[WB]⟩
theorem ar3(x:Int)(h1: -9223372036854775808≤x)(h2:x≤9223372036854775807):x.natAbs < WB ^ 1:=by rw[Nat.pow_one,aX];omega
section
variable{a b:CA}{x y k m:Nat}
theorem nat2{f:FuncId}{r:Nat}[ha:NI a x k][hb:NI b y m](he:∃fn,Tryz.prog.funcs[f]? =some fn∧(fn.name== "runtime.NumGoroutine")=false∧fn.body.isNone=false)
  (h:∀w va vb la lb,RN w va la→RN w vb lb→nval WB la=x→nval WB lb=y→la.length≤k→lb.length≤m→Calls Tryz.prog f #[va,vb] w fun e w'=>(∃v,e= .returned v∧ON w.heap.size w' v r)∧Ext w w'):
  PureOK Tryz.prog f [.it (.one (.c a)),.it (.one (.c b))] (.r (bB r)):=
 PureOK.gX he rfl fun E S w vs hl hv=>by
  match vs,hv with
  |[va,vb],⟨h1,h2,_⟩=>
   obtain⟨la,ra,ea,ka⟩:=ha.h S w va h1;obtain⟨lb,rb,eb,kb⟩:=hb.h S w vb h2;refine(h w va vb la lb ra rb ea eb ka kb).mono ?_;rintro e w' ⟨⟨v,rfl,ho⟩,hx⟩;exact⟨v,rfl,bB.acf ho hl,Off.of_below hx⟩
theorem nat1{f:FuncId}{r:Nat}[ha:NI a x k](he:∃fn,Tryz.prog.funcs[f]? =some fn∧(fn.name== "runtime.NumGoroutine")=false∧fn.body.isNone=false)
  (h:∀w va la,RN w va la→nval WB la=x→la.length≤k→Calls Tryz.prog f #[va] w fun e w'=>(∃v,e= .returned v∧ON w.heap.size w' v r)∧Ext w w'):
  PureOK Tryz.prog f [.it (.one (.c a))] (.r (bB r)):=
 PureOK.gX he rfl fun E S w vs hl hv=>by
  match vs,hv with
  |[va],⟨h1,_⟩=>
   obtain⟨la,ra,ea,ka⟩:=ha.h S w va h1;refine(h w va la ra ea ka).mono ?_;rintro e w' ⟨⟨v,rfl,ho⟩,hx⟩;exact⟨v,rfl,bB.acf ho hl,Off.of_below hx⟩
theorem aqX[ha:NI a x k](hk:k≤1099511627775):PureOK Tryz.prog 110 [.it (.one (.c a))] (.r (bB x)):=
 nat1 ⟨_,Tryz.func110,rfl,rfl⟩ fun w va la h1 h2 h3=>by subst h2;exact gI h1 (by omega)
theorem nAdd[ha:NI a x k][hb:NI b y m](hk:k+m≤1099511627775):PureOK Tryz.prog 217 [.it (.one (.c a)),.it (.one (.c b))] (.r (bB (x+y))):=
 nat2 ⟨_,Tryz.func217,rfl,rfl⟩ fun w va vb la lb h1 h2 h3 h4 h5 h6=>by subst h3 h4;exact vX h1 h2 (by omega) (by omega)
theorem mMul[ha:NI a x k][hb:NI b y m](hk:k+m≤274877906944):PureOK Tryz.prog 197 [.it (.one (.c a)),.it (.one (.c b))] (.r (bB (x*y))):=
 nat2 ⟨_,Tryz.func197,rfl,rfl⟩ fun w va vb la lb h1 h2 h3 h4 h5 h6=>by subst h3 h4;exact aqI h1 h2 (by omega) (by omega)
theorem dGcd[ha:NI a x k][hb:NI b y m](hk:k+m≤1099511627770):PureOK Tryz.prog 63 [.it (.one (.c a)),.it (.one (.c b))] (.r (bB (Nat.gcd x y))):=
 nat2 ⟨_,Tryz.func63,rfl,rfl⟩ fun w va vb la lb h1 h2 h3 h4 h5 h6=>by subst h3 h4;exact apW h1 h2 hk (by omega) (by omega)
theorem nOf(x:Nat)(hx:x < WB):PureOK Tryz.prog 64 [.v (.int .u64 (x:Int))] (.r (bB x)):=
 PureOK.gX ⟨_,Tryz.func64,rfl,rfl⟩ rfl fun E S w vs hl hv=>by
  match vs,hv with
  |[va],⟨h1,_⟩=>
   have h1':va= .int .u64 (x:Int):=h1;subst h1';refine(aoC x hx w).mono ?_;rintro e w' ⟨⟨v,rfl,ho⟩,hx⟩;exact⟨v,rfl,bB.acf ho hl,Off.of_below hx⟩
theorem nCmp[ha:NI a x k][hb:NI b y m](hk:k+m≤1099511627775):PureOK Tryz.prog 109 [.it (.one (.c a)),.it (.one (.c b))] (.v (.int .i64 (kV x y))):=
 PureOK.gX ⟨_,Tryz.func109,rfl,rfl⟩ rfl fun E S w vs hl hv=>by
  match vs,hv with
  |[va,vb],⟨h1,h2,_⟩=>
   obtain⟨la,ra,ea,ka⟩:=ha.h S w va h1;obtain⟨lb,rb,eb,kb⟩:=hb.h S w vb h2;subst ea eb;refine(zK ra rb (by omega) (by omega)).mono ?_
   rintro e w' ⟨rfl,hx⟩;exact⟨_,rfl,rfl,Off.of_below hx⟩
theorem aeR[ha:NI a x k](hk:k≤1099511627775):PureOK Tryz.prog 60 [.it (.one (.c a))] (.v (.int .i64 (bitLen x:Int))):=
 PureOK.gX ⟨_,Tryz.func60,rfl,rfl⟩ rfl fun E S w vs hl hv=>by
  match vs,hv with
  |[va],⟨h1,_⟩=>
   obtain⟨la,ra,ea,ka⟩:=ha.h S w va h1;subst ea;refine(alL ra (by omega)).mono ?_
   rintro e w' ⟨rfl,rfl⟩;exact⟨_,rfl,rfl,Off.refl _ _⟩
theorem aja[ha:NI a x k](hk:k≤1099511627775):PureOK Tryz.prog 154 [.it (.one (.c a))] (.tup [.one (.c (.val (.int .u64 ((if x < WB then x else 0:Nat):Int)))),.one (.c (.val (.bool (decide (x < WB)))))]):=
 PureOK.gX ⟨_,Tryz.func154,rfl,rfl⟩ rfl fun E S w vs hl hv=>by
  match vs,hv with
  |[va],⟨h1,_⟩=>
   obtain⟨la,ra,ea,ka⟩:=ha.h S w va h1;subst ea;refine(alU ra (by omega)).mono ?_
   rintro e w' ⟨rfl,rfl⟩;exact⟨_,rfl,⟨[_,_],rfl,rfl,rfl,trivial⟩,Off.refl _ _⟩
theorem nSub[ha:NI a x k][hb:NI b y m](hk:k+m≤1099511627775):PureOK Tryz.prog 218 [.it (.one (.c a)),.it (.one (.c b))] (.tup [.one (.c (.sat (bB (x - y)))),.one (.c (.val (.bool (decide (y≤x)))))]):=
 PureOK.gX ⟨_,Tryz.func218,rfl,rfl⟩ rfl fun E S w vs hl hv=>by
  match vs,hv with
  |[va,vb],⟨h1,h2,_⟩=>
   obtain⟨la,ra,ea,ka⟩:=ha.h S w va h1;obtain⟨lb,rb,eb,kb⟩:=hb.h S w vb h2;subst ea eb;rcases Nat.lt_or_ge (nval WB la) (nval WB lb)with hlt|hge
   ·refine(amc ra rb (by omega) (by omega) hlt).mono ?_
    rintro e w' ⟨rfl,hx⟩;refine⟨_,rfl,⟨[_,_],rfl,?_,?_,trivial⟩,Off.of_below hx⟩
    ·show (bB _).has _ _ _;rw[Nat.sub_eq_zero_of_le (by omega)];exact bB.zero
    ·show _=_;rw[decide_eq_false (by omega)]
   ·refine(aoB ra rb (by omega) (by omega) hge).mono ?_
    rintro e w' ⟨⟨v,rfl,ho⟩,hx⟩;refine⟨_,rfl,⟨[_,_],rfl,bB.acf ho hl,?_,trivial⟩,Off.of_below hx⟩;show _=_;rw[decide_eq_true hge]
theorem adp[ha:NI a x k][hb:NI b y m](hk:k+m≤1099511627770):PureOK Tryz.prog 156 [.it (.one (.c a)),.it (.one (.c b))] (.tup [.one (.c (.sat (bB (x / y)))),.one (.c (.sat (bB (if y=0 then 0 else x % y)))),.one (.c (.val (.bool (decide (y≠0)))))]):=
 PureOK.gX ⟨_,Tryz.func156,rfl,rfl⟩ rfl fun E S w vs hl hv=>by
  match vs,hv with
  |[va,vb],⟨h1,h2,_⟩=>
   obtain⟨la,ra,ea,ka⟩:=ha.h S w va h1;obtain⟨lb,rb,eb,kb⟩:=hb.h S w vb h2;subst ea eb;by_cases h0:nval WB lb=0
   ·refine(aew ra rb (by omega) (by omega) h0).mono ?_
    rintro e w' ⟨rfl,hx⟩;rw[h0];exact⟨_,rfl,⟨[_,_,_],rfl,by show (bB _).has _ _ _;rw[Nat.div_zero];exact bB.zero,bB.zero,rfl,trivial⟩,Off.of_below hx⟩
   ·refine(aaj ra rb (by omega) (by omega) (Nat.pos_of_ne_zero h0)).mono ?_
    rintro e w' ⟨⟨vq,vr,rfl,hq,hr⟩,hx⟩;refine⟨_,rfl,⟨[_,_,_],rfl,bB.acf hq hl,?_,?_,trivial⟩,Off.of_below hx⟩
    ·rw[if_neg h0];exact bB.acf hr hl
    ·show _=_;rw[decide_eq_true h0]
end
theorem mY{l:List Nat}{S:Nat→Prop}{w:World}{v:Value}:(dJ l).has S w v↔Sm WB l∧(aI 1 l.length (l.map fun x:Nat=> .val (.int .u64 (x:Int)))).has S w v:=Iff.rfl
theorem vB{n k:Nat}{S:Nat→Prop}{w:World}{v:Value}:(ado n k).has S w v↔∃l,nval WB l=n∧l.length≤k∧(dJ l).has S w v:=Iff.rfl
theorem afX{n:Nat}{S:Nat→Prop}{w:World}{v:Value}:(bB n).has S w v↔∃l,Nrm l∧nval WB l=n∧(l=[]→v= .slice none 0 0)∧(dJ l).has S w v:=Iff.rfl
attribute [irreducible] ado dJ bB wds
end
section
attribute [local irreducible] IntKind.wrap bitLen kV nval Go1 Reg WP aQ aR bO aB aj ah aV Sat
def sgn(neg:Bool)(n:Nat):Int:=if neg then -(n:Int)else(n:Int)
theorem aiS(z:Int):sgn (decide (z < 0)) z.natAbs=z:=by unfold sgn;split <;> simp_all <;> omega
theorem jl(neg:Bool)(n:Nat):(sgn neg n).natAbs=n:=by unfold sgn;split <;> omega
abbrev zN(z:Int):List Atom:=[.c (.val (.bool (decide (z < 0)))),.c (.sat (bB z.natAbs))]
abbrev zR(neg:Bool)(n k:Nat):List Atom:=[.c (.val (.bool neg)),.c (.sat (ado n k))]
class ZI(l:List Atom)(z:outParam Int)(k:outParam Nat):Prop where
 h:∃neg n,z=sgn neg n∧∀E S w v,(AV.agg l).has E S w v→(AV.agg (zR neg n k)).has E S w v
theorem ZI.mk'{neg:Bool}{a:CA}{n k:Nat}(h:NI a n k):ZI [.c (.val (.bool neg)),.c a] (sgn neg n) k:=⟨neg,n,rfl,fun E S w v hv=>by
 obtain⟨vs,hv,hall⟩:=hv
 match vs,hall with
 |[x,y],⟨h1,h2,_⟩=>exact⟨[x,y],hv,h1,h.p S w y h2,trivial⟩⟩
instance ZI.nat(neg:Bool)(n k:Nat):ZI [.c (.val (.bool neg)),.c (.sat (ado n k))] (sgn neg n) k:=ZI.mk' inferInstance
instance ZI.nrm(z:Int)(k:Nat)[h:Bd z k]:ZI [.c (.val (.bool (decide (z < 0)))),.c (.sat (bB z.natAbs))] z k:=by
 have:=ZI.mk' (neg:=decide (z < 0)) (NI.aaL h.h)
 rwa [aiS]at this
instance ZI.raw(neg:Bool)(l:List Nat):ZI [.c (.val (.bool neg)),.c (.sat (dJ l))] (sgn neg (nval WB l)) l.length:=ZI.mk' inferInstance
instance ZI.zero:ZI [.c (.val (.bool false)),.c (.val (.slice none 0 0))] 0 0:=ZI.mk' (neg:=false) (n:=0) inferInstance
theorem aqt{n k:Nat}{S:Nat→Prop}{w:World}{v:Value}(h:(ado n k).has S w v):n < WB ^ k:=by
 obtain⟨l,h1,h2,h3⟩:=vB.1 h;rw[←h1];exact yE (dJ.rn h3).sm h2
theorem vO{neg:Bool}{n k:Nat}{E:Env}{S:Nat→Prop}{w:World}{v:Value}(h:(AV.agg (zR neg n k)).has E S w v):n < WB ^ k:=by
 obtain⟨vs,_,hall⟩:=h
 match vs,hall with
 |[_,_],⟨_,h2,_⟩=>exact aqt h2
theorem z1{f:FuncId}{r:AV}{l:List Atom}{z:Int}{k:Nat}[h:ZI l z k](he:∃fn,Tryz.prog.funcs[f]? =some fn∧(fn.name== "runtime.NumGoroutine")=false∧fn.body.isNone=false)
  (hf:∀neg n,z=sgn neg n→BdN n k→PureOK Tryz.prog f [.agg (zR neg n k)] r):PureOK Tryz.prog f [.agg l] r:=by
 obtain⟨neg,n,hz,hm⟩:=h.h;refine PureOK.fact he (fun hb=>hf neg n hz hb) fun E S w vs hv=>?_
 match vs,hv with
 |[x],⟨h1,_⟩=>exact⟨⟨hm E S w x h1,trivial⟩,⟨vO (hm E S w x h1)⟩⟩
theorem z2{f:FuncId}{r:AV}{l l':List Atom}{z z':Int}{k k':Nat}[h:ZI l z k][h':ZI l' z' k'](he:∃fn,Tryz.prog.funcs[f]? =some fn∧(fn.name== "runtime.NumGoroutine")=false∧fn.body.isNone=false)
  (hf:∀neg n neg' n',z=sgn neg n→z'=sgn neg' n'→BdN n k→BdN n' k'→PureOK Tryz.prog f [.agg (zR neg n k),.agg (zR neg' n' k')] r):PureOK Tryz.prog f [.agg l,.agg l'] r:=by
 obtain⟨neg,n,hz,hm⟩:=h.h;obtain⟨neg',n',hz',hm'⟩:=h'.h;refine PureOK.fact (φ:=BdN n k∧BdN n' k') he (fun hb=>hf neg n neg' n' hz hz' hb.1 hb.2) fun E S w vs hv=>?_
 match vs,hv with
 |[x,y],⟨h1,h2,_⟩=>exact⟨⟨hm E S w x h1,hm' E S w y h2,trivial⟩,⟨vO (hm E S w x h1)⟩,⟨vO (hm' E S w y h2)⟩⟩
instance Bd.sgn(neg:Bool)(n k:Nat)[h:BdN n k]:Bd (sgn neg n) k:=⟨by rw[jl];exact h.h⟩
theorem arS(neg:Bool)(n:Nat):zN (sgn neg n)=[.c (.val (.bool (neg&&decide (0 < n)))),.c (.sat (bB n))]:=by
 have h1:decide (sgn neg n < 0)=(neg&&decide (0 < n)):=by
  unfold sgn;cases neg <;> simp
 unfold zN;rw[jl,h1]
theorem qF{a:CA}{x k:Nat}[ha:NI a x k](neg:Bool)(hk:k≤1099511627775):PureOK Tryz.prog 62 [.it (.one (.c a)),.v (.bool neg)] (.agg (zN (sgn neg x))):=by
 rw[arS];refine PureOK.args (args':=[.r (ado x k),.v (.bool neg)]) ?_ (fun E S w vs hv=>?_)
 rotate_left
 ·match vs,hv with
  |[u,v],⟨h1,h2,_⟩=>exact⟨ha.p S w u h1,h2,trivial⟩
 refine PureOK.fn Tryz.func62 Tryz.results62 Tryz.ntmps62 rfl rfl rfl (by simp[AV.ids,AV0.ids,Atom.ids]) rfl (fun w0 T B E0 hB=>?_)
 cases neg
 ·repeat(first|refine SX.goZ ?_|(refine SX.Go1.is ?_;refine SX.Go1.bJ ?_;first
     |refine SX.Go1.call rfl (aqX hk) rfl rfl ?_))
  exact aB.eq1 (aj.gD rfl rfl rfl) rfl
 ·repeat(first|refine SX.goZ ?_|(refine SX.Go1.is ?_;refine SX.Go1.bJ ?_;first
     |refine SX.Go1.call rfl (aqX hk) rfl rfl ?_))
  refine aB.eq1 (aj.gD rfl rfl rfl) ?_;have h:decide (0 < ((wds x).length:Int))=decide (0 < x):=by
   have:=sD x;rw[decide_eq_decide];omega
  show AV0.agg [Atom.c (CA.val (.bool (decide (0 < ((wds x).length:Int))))),_]=_;rw[h];rfl
def aU(z:Int):Int:=if z=0 then 0 else if z < 0 then -1 else 1
theorem nO{n:Nat}:bitLen n=0↔n=0:=by
 unfold bitLen;split <;> simp_all
theorem yF{l:List Atom}{z:Int}{k:Nat}[h:ZI l z k](hk:k≤1099511627775):PureOK Tryz.prog 39 [.agg l] (.v (.int .i64 (aU z))):=by
 refine z1 ⟨_,Tryz.func39,rfl,rfl⟩ fun neg n hz hn=>?_
 subst hz;refine PureOK.fn Tryz.func39 Tryz.results39 Tryz.ntmps39 rfl rfl rfl (by simp[AV.ids,AV0.ids,Atom.ids]) rfl (fun w0 T B E0 hB=>?_)
 have hb:=nO (n:=n);repeat(first|refine SX.goZ ?_|(refine SX.Go1.is ?_;refine SX.Go1.bJ ?_;first
    |refine SX.Go1.call rfl (aeR hk) rfl rfl ?_))
 refine WP.cond rfl (fun hc=>?_) (fun hc=>?_)
 ·repeat(first|refine SX.goZ ?_)
  refine aB.eq1 (aj.tmp rfl) ?_;have:n=0:=by simp at hc;omega
  subst this;cases neg <;> rfl
 ·repeat(first|refine SX.goZ ?_)
  have hn:0 < n:=by simp at hc;omega
  cases neg
  ·repeat(first|refine SX.goZ ?_)
   refine aB.eq1 (aj.tmp rfl) ?_;have:aU (sgn false n)=1:=by unfold aU sgn;simp;omega
   rw[this]
  ·repeat(first|refine SX.goZ ?_)
   refine aB.eq1 (aj.tmp rfl) ?_;have:aU (sgn true n)= -1:=by unfold aU sgn;simp;omega
   rw[this]
theorem apO(neg:Bool)(n:Nat):sgn (!neg) n= -sgn neg n:=by unfold sgn;cases neg <;> simp
theorem zNeg{l:List Atom}{z:Int}{k:Nat}[h:ZI l z k](hk:k≤1099511627775):PureOK Tryz.prog 148 [.agg l] (.agg (zN (-z))):=by
 refine z1 ⟨_,Tryz.func148,rfl,rfl⟩ fun neg n hz hn=>?_
 subst hz;rw[←apO];refine PureOK.fn Tryz.func148 Tryz.results148 Tryz.ntmps148 rfl rfl rfl (by simp[AV.ids,AV0.ids,Atom.ids]) rfl (fun w0 T B E0 hB=>?_)
 repeat(first|refine SX.goZ ?_|(refine SX.Go1.is ?_;refine SX.Go1.bJ ?_;first
    |refine SX.Go1.call rfl (qF _ hk) rfl rfl ?_))
 exact aB.eq1 (aj.gD rfl rfl rfl) rfl
end
section
attribute [local irreducible] IntKind.wrap bitLen kV nval Go1 Reg WP aQ aR bO aB aj ah aV Sat
attribute [local irreducible] sgn aU
theorem ajY(z:Int)(h0:0≤z)(h1:z < 18446744073709551616):PureOK Tryz.prog 64 [.v (.int .u64 z)] (.r (bB z.natAbs)):=by
 have:=nOf z.natAbs (by rw[aX];omega)
 rwa [show ((z.natAbs:Nat):Int)=z by omega]at this
theorem zOf(z:Int)(h1: -9223372036854775808≤z)(h2:z≤9223372036854775807):PureOK Tryz.prog 42 [.v (.int .i64 z)] (.agg (zN z)):=by
 have hb:NI (.sat (bB z.natAbs)) z.natAbs 1:=NI.aaL (ar3 z h1 h2);refine PureOK.fn Tryz.func42 Tryz.results42 Tryz.ntmps42 rfl rfl rfl (by simp[AV.ids,AV0.ids,Atom.ids]) rfl (fun w0 T B E0 hB=>?_)
 repeat(first|refine SX.goZ ?_)
 refine WP.cond rfl (fun hc=>?_) (fun hc=>?_)
 ·have hz:z < 0:=by simpa using hc
  have hw:IntKind.u64.wrap (0 - IntKind.u64.wrap z)=(z.natAbs:Int):=by
   simp only[IntKind.wrap,IntKind.bits,IntKind.signed];simp;omega
  have hs:sgn true z.natAbs=z:=by unfold sgn;simp;omega
  have hcc:=nOf (z.natAbs) (by rw[aX];omega)
  repeat(first|refine SX.goZ ?_|(refine SX.Go1.is ?_;refine SX.Go1.bJ ?_;first
     |refine SX.Go1.call rfl (hcc) rfl rfl ?_
     |refine SX.Go1.call rfl (qF true (by omega)) rfl rfl ?_))
  rw[hs];exact aB.eq1 (aj.gD rfl rfl rfl) rfl
 ·have hz:0≤z:=by simpa using hc
  have hw:IntKind.u64.wrap z=(z.natAbs:Int):=by
   simp only[IntKind.wrap,IntKind.bits,IntKind.signed];simp;omega
  have hs:sgn false z.natAbs=z:=by unfold sgn;simp;omega
  have hcc:=nOf (z.natAbs) (by rw[aX];omega)
  repeat(first|refine SX.goZ ?_|(refine SX.Go1.is ?_;refine SX.Go1.bJ ?_;first
     |refine SX.Go1.call rfl (hcc) rfl rfl ?_
     |refine SX.Go1.call rfl (ajY _ hz (by omega)) rfl rfl ?_
     |refine SX.Go1.call rfl (qF false (by omega)) rfl rfl ?_))
  rw[hs];exact aB.eq1 (aj.gD rfl rfl rfl) rfl
theorem acP(neg:Bool)(n m:Nat):sgn neg (n+m)=sgn neg n+sgn neg m:=by unfold sgn;split <;> omega
theorem ahz(neg:Bool){n m:Nat}(h:m≤n):sgn neg (n - m)=sgn neg n+sgn (!neg) m:=by unfold sgn;cases neg <;> simp <;> omega
theorem ag1(neg:Bool){n m:Nat}(h:n≤m):sgn (!neg) (m - n)=sgn neg n+sgn (!neg) m:=by unfold sgn;cases neg <;> simp <;> omega
theorem zAdd{l l':List Atom}{x y:Int}{k m:Nat}[h:ZI l x k][h':ZI l' y m](hk:k+m≤1099511627774):PureOK Tryz.prog 181 [.agg l,.agg l'] (.agg (zN (x+y))):=by
 refine z2 ⟨_,Tryz.func181,rfl,rfl⟩ fun neg n neg2 n2 hz hz2 hn hn2=>?_
 subst hz hz2;refine PureOK.fn Tryz.func181 Tryz.results181 Tryz.ntmps181 rfl rfl rfl (by simp[AV.ids,AV0.ids,Atom.ids]) rfl (fun w0 T B E0 hB=>?_)
 repeat(first|refine SX.goZ ?_)
 refine WP.cond rfl (fun hc=>?_) (fun hc=>?_)
 ·have hq:neg=neg2:=by simpa using hc
  subst hq;repeat(first|refine SX.goZ ?_|(refine SX.Go1.is ?_;refine SX.Go1.bJ ?_;first
     |refine SX.Go1.call rfl (nAdd (by omega)) rfl rfl ?_
     |refine SX.Go1.call rfl (qF _ (by omega)) rfl rfl ?_))
  rw[←acP];exact aB.eq1 (aj.gD rfl rfl rfl) rfl
 ·have hq:neg2=!neg:=by cases neg <;> cases neg2 <;> simp_all
  subst hq;repeat(first|refine SX.goZ ?_|(refine SX.Go1.is ?_;refine SX.Go1.bJ ?_;first
     |refine SX.Go1.call rfl (nSub (by omega)) rfl rfl ?_))
  refine WP.cond rfl (fun hc2=>?_) (fun hc2=>?_)
  ·have hle:n2≤n:=by simpa using hc2
   repeat(first|refine SX.goZ ?_|(refine SX.Go1.is ?_;refine SX.Go1.bJ ?_;first
      |refine SX.Go1.call rfl (qF _ (by omega)) rfl rfl ?_))
   rw[←ahz neg hle];exact aB.eq1 (aj.gD rfl rfl rfl) rfl
  ·have hle:n≤n2:=by simp at hc2;omega
   repeat(first|refine SX.goZ ?_|(refine SX.Go1.is ?_;refine SX.Go1.bJ ?_;first
      |refine SX.Go1.call rfl (nSub (by omega)) rfl rfl ?_
      |refine SX.Go1.call rfl (qF _ (by omega)) rfl rfl ?_))
   rw[←ag1 neg hle];exact aB.eq1 (aj.gD rfl rfl rfl) rfl
theorem zSub{l l':List Atom}{x y:Int}{k m:Nat}[h:ZI l x k][h':ZI l' y m](hk:k+m≤1099511627774):PureOK Tryz.prog 145 [.agg l,.agg l'] (.agg (zN (x - y))):=by
 refine z2 ⟨_,Tryz.func145,rfl,rfl⟩ fun neg n neg2 n2 hz hz2 hn hn2=>?_
 subst hz hz2;rw[Int.sub_eq_add_neg];refine PureOK.fn Tryz.func145 Tryz.results145 Tryz.ntmps145 rfl rfl rfl (by simp[AV.ids,AV0.ids,Atom.ids]) rfl (fun w0 T B E0 hB=>?_)
 repeat(first|refine SX.goZ ?_|(refine SX.Go1.is ?_;refine SX.Go1.bJ ?_;first
    |refine SX.Go1.call rfl (zNeg (by omega)) rfl rfl ?_
    |refine SX.Go1.call rfl (zAdd (by omega)) rfl rfl ?_))
 exact aB.eq1 (aj.gD rfl rfl rfl) rfl
theorem aqi(a b:Bool)(n m:Nat):sgn (!(a==b)) (n*m)=sgn a n*sgn b m:=by unfold sgn;cases a <;> cases b <;> simp[Int.neg_mul,Int.mul_neg]
theorem zMul{l l':List Atom}{x y:Int}{k m:Nat}[h:ZI l x k][h':ZI l' y m](hk:k+m≤274877906944):PureOK Tryz.prog 184 [.agg l,.agg l'] (.agg (zN (x*y))):=by
 refine z2 ⟨_,Tryz.func184,rfl,rfl⟩ fun neg n neg2 n2 hz hz2 hn hn2=>?_
 subst hz hz2;rw[←aqi];refine PureOK.fn Tryz.func184 Tryz.results184 Tryz.ntmps184 rfl rfl rfl (by simp[AV.ids,AV0.ids,Atom.ids]) rfl (fun w0 T B E0 hB=>?_)
 repeat(first|refine SX.goZ ?_|(refine SX.Go1.is ?_;refine SX.Go1.bJ ?_;first
    |refine SX.Go1.call rfl (mMul (by omega)) rfl rfl ?_
    |refine SX.Go1.call rfl (qF _ (by omega)) rfl rfl ?_))
 exact aB.eq1 (aj.gD rfl rfl rfl) rfl
def zn(x y:Int):Int:=if x < y then -1 else if x=y then 0 else 1
theorem ajz(n m:Nat):zn (sgn true n) (sgn true m)=kV m n:=by
 unfold zn sgn kV;simp;repeat' split <;> omega
theorem aom(n m:Nat):zn (sgn false n) (sgn false m)=kV n m:=by
 unfold zn sgn kV;simp;repeat' split <;> omega
theorem zCmp{l l':List Atom}{x y:Int}{k m:Nat}[h:ZI l x k][h':ZI l' y m](hk:k+m≤1099511627774):PureOK Tryz.prog 61 [.agg l,.agg l'] (.v (.int .i64 (zn x y))):=by
 refine z2 ⟨_,Tryz.func61,rfl,rfl⟩ fun neg n neg2 n2 hz hz2 hn hn2=>?_
 subst hz hz2;refine PureOK.fn Tryz.func61 Tryz.results61 Tryz.ntmps61 rfl rfl rfl (by simp[AV.ids,AV0.ids,Atom.ids]) rfl (fun w0 T B E0 hB=>?_)
 repeat(first|refine SX.goZ ?_|(refine SX.Go1.is ?_;refine SX.Go1.bJ ?_;first
    |refine SX.Go1.call rfl (yF (by omega)) rfl rfl ?_))
 have hx:aU (sgn neg n) < 0↔sgn neg n < 0:=by unfold aU;repeat' split <;> omega
 have hx0:0 < aU (sgn neg n)↔0 < sgn neg n:=by unfold aU;repeat' split <;> omega
 have hy:aU (sgn neg2 n2) < 0↔sgn neg2 n2 < 0:=by unfold aU;repeat' split <;> omega
 have hy0:0 < aU (sgn neg2 n2)↔0 < sgn neg2 n2:=by unfold aU;repeat' split <;> omega
 have hxr: -1≤aU (sgn neg n)∧aU (sgn neg n)≤1:=by unfold aU;repeat' split <;> omega
 have hyr: -1≤aU (sgn neg2 n2)∧aU (sgn neg2 n2)≤1:=by unfold aU;repeat' split <;> omega
 refine WP.cond rfl (fun hc=>?_) (fun hc=>?_)
 ·repeat(first|refine SX.goZ ?_)
  refine aB.eq1 (aj.tmp rfl) ?_;have:zn (sgn neg n) (sgn neg2 n2)= -1:=by unfold zn;rw[if_pos (by simp at hc;omega)]
  rw[this]
 ·repeat(first|refine SX.goZ ?_)
  refine WP.cond rfl (fun hc2=>?_) (fun hc2=>?_)
  ·repeat(first|refine SX.goZ ?_)
   refine aB.eq1 (aj.tmp rfl) ?_;have:zn (sgn neg n) (sgn neg2 n2)=1:=by unfold zn;rw[if_neg (by simp at hc2;omega),if_neg (by simp at hc2;omega)]
   rw[this]
  ·repeat(first|refine SX.goZ ?_)
   refine WP.cond rfl (fun hc3=>?_) (fun hc3=>?_)
   ·have e1:sgn neg n=sgn true n:=by simp at hc hc2 hc3;unfold sgn at*;cases neg <;> simp at* <;> omega
    have e2:sgn neg2 n2=sgn true n2:=by simp at hc hc2 hc3;unfold sgn at*;cases neg2 <;> simp at* <;> omega
    repeat(first|refine SX.goZ ?_|(refine SX.Go1.is ?_;refine SX.Go1.bJ ?_;first
       |refine SX.Go1.call rfl (nCmp (by omega)) rfl rfl ?_))
    rw[e1,e2,ajz];exact aB.eq1 (aj.tmp rfl) rfl
   ·have e1:sgn neg n=sgn false n:=by simp at hc hc2 hc3;unfold sgn at*;cases neg <;> simp at* <;> omega
    have e2:sgn neg2 n2=sgn false n2:=by simp at hc hc2 hc3;unfold sgn at*;cases neg2 <;> simp at* <;> omega
    repeat(first|refine SX.goZ ?_|(refine SX.Go1.is ?_;refine SX.Go1.bJ ?_;first
       |refine SX.Go1.call rfl (nCmp (by omega)) rfl rfl ?_))
    rw[e1,e2,aom];exact aB.eq1 (aj.tmp rfl) rfl
theorem akf(x y:Int):decide (zn x y=0)=decide (x=y):=by
 unfold zn;rw[decide_eq_decide];repeat' split <;> omega
theorem ars{l l':List Atom}{x y:Int}{k m:Nat}[h:ZI l x k][h':ZI l' y m](hk:k+m≤1099511627774):PureOK Tryz.prog 40 [.agg l,.agg l'] (.v (.bool (decide (x=y)))):=by
 refine z2 ⟨_,Tryz.func40,rfl,rfl⟩ fun neg n neg2 n2 hz hz2 hn hn2=>?_
 subst hz hz2;rw[←akf];refine PureOK.fn Tryz.func40 Tryz.results40 Tryz.ntmps40 rfl rfl rfl (by simp[AV.ids,AV0.ids,Atom.ids]) rfl (fun w0 T B E0 hB=>?_)
 repeat(first|refine SX.goZ ?_|(refine SX.Go1.is ?_;refine SX.Go1.bJ ?_;first
    |refine SX.Go1.call rfl (zCmp (by omega)) rfl rfl ?_))
 exact aB.eq1 (aj.tmp rfl) rfl
theorem zBits{l:List Atom}{z:Int}{k:Nat}[h:ZI l z k](hk:k≤1099511627775):PureOK Tryz.prog 134 [.agg l] (.v (.int .i64 (bitLen z.natAbs:Int))):=by
 refine z1 ⟨_,Tryz.func134,rfl,rfl⟩ fun neg n hz hn=>?_
 subst hz;rw[jl];refine PureOK.fn Tryz.func134 Tryz.results134 Tryz.ntmps134 rfl rfl rfl (by simp[AV.ids,AV0.ids,Atom.ids]) rfl (fun w0 T B E0 hB=>?_)
 repeat(first|refine SX.goZ ?_|(refine SX.Go1.is ?_;refine SX.Go1.bJ ?_;first
    |refine SX.Go1.call rfl (aeR (by omega)) rfl rfl ?_))
 exact aB.eq1 (aj.tmp rfl) rfl
def nL(z:Int):Bool:=decide (-9223372036854775808≤z)&&decide (z≤9223372036854775807)
def uh(z:Int):Int:=if nL z then z else 0
theorem as5{l:List Atom}{z:Int}{k:Nat}[h:ZI l z k](hk:k≤1099511627775):PureOK Tryz.prog 337 [.agg l] (.tup [.one (.c (.val (.int .i64 (uh z)))),.one (.c (.val (.bool (nL z))))]):=by
 refine z1 ⟨_,Tryz.func337,rfl,rfl⟩ fun neg n hz hn=>?_
 subst hz;refine PureOK.fn Tryz.func337 Tryz.results337 Tryz.ntmps337 rfl rfl rfl (by simp[AV.ids,AV0.ids,Atom.ids]) rfl (fun w0 T B E0 hB=>?_)
 repeat(first|refine SX.goZ ?_|(refine SX.Go1.is ?_;refine SX.Go1.bJ ?_;first
    |refine SX.Go1.call rfl (aja (by omega)) rfl rfl ?_
    |refine SX.Go1.call rfl (yF (by omega)) rfl rfl ?_))
 have hsg:decide (aU (sgn neg n) < 0)=decide (sgn neg n < 0):=by
  rw[decide_eq_decide];unfold aU;repeat' split <;> omega
 have hab:=jl neg n;have hW:=aX;generalize sgn neg n=z at*;generalize hd:decide (aU z < 0)=s at*;generalize hX:(if n < WB then n else 0)=X at*
 refine WP.cond rfl (fun hc=>?_) (fun hc=>?_)
 ·have hb:nL z=false:=by unfold nL;simp at hc ⊢;omega
  repeat(first|refine SX.goZ ?_)
  refine aB.eq2 (aj.tmp rfl) (aj.tmp rfl) ?_ ?_
  ·unfold uh;rw[hb];rfl
  ·rw[hb]
 ·have hlt:n < WB:=by simpa using hc
  rw[if_pos hlt]at hX;subst hX;cases s with
  |true=>
   have hz:z < 0:=by simpa using hsg.symm
   repeat(first|refine SX.goZ ?_)
   refine WP.cond rfl (fun hc=>?_) (fun hc=>?_)
   ·have hb:nL z=false:=by unfold nL;simp at hc ⊢;omega
    repeat(first|refine SX.goZ ?_)
    refine aB.eq2 (aj.tmp rfl) (aj.tmp rfl) ?_ ?_
    ·unfold uh;rw[hb];rfl
    ·rw[hb]
   ·have hb:nL z=true:=by unfold nL;simp at hc ⊢;omega
    repeat(first|refine SX.goZ ?_)
    refine aB.eq2 (aj.tmp rfl) (aj.tmp rfl) ?_ ?_
    ·have e:uh z=z:=by unfold uh;rw[hb];rfl
     have e2:IntKind.i64.wrap (0 - IntKind.i64.wrap (n:Int))=z:=by simp at hc;simp only[IntKind.wrap_i64];omega
     rw[e,e2]
    ·rw[hb]
  |false=>
   have hz:0≤z:=by simpa using hsg.symm
   repeat(first|refine SX.goZ ?_)
   refine WP.cond rfl (fun hc=>?_) (fun hc=>?_)
   ·have hb:nL z=false:=by unfold nL;simp at hc ⊢;omega
    repeat(first|refine SX.goZ ?_)
    refine aB.eq2 (aj.tmp rfl) (aj.tmp rfl) ?_ ?_
    ·unfold uh;rw[hb];rfl
    ·rw[hb]
   ·have hb:nL z=true:=by unfold nL;simp at hc ⊢;omega
    repeat(first|refine SX.goZ ?_)
    refine aB.eq2 (aj.tmp rfl) (aj.tmp rfl) ?_ ?_
    ·have e:uh z=z:=by unfold uh;rw[hb];rfl
     have e2:IntKind.i64.wrap (n:Int)=z:=by simp at hc;simp only[IntKind.wrap_i64];omega
     rw[e,e2]
    ·rw[hb]
end
section
attribute [local irreducible] IntKind.wrap bitLen kV nval Go1 Reg WP aQ aR bO aB aj ah aV Sat
def ou(x y:Int):Int:=if y=0 then 0 else x.tmod y
theorem apV(a b:Bool)(n m:Nat):sgn (!(a==b)) (n / m)=(sgn a n).tdiv (sgn b m):=by
 unfold sgn;cases a <;> cases b <;> simp[Int.neg_tdiv,Int.tdiv_neg]
theorem qZ{b:Bool}{m:Nat}:sgn b m=0↔m=0:=by unfold sgn;cases b <;> simp
theorem aqw(a b:Bool)(n m:Nat):sgn a (if m=0 then 0 else n % m)=ou (sgn a n) (sgn b m):=by
 unfold ou;by_cases h:m=0
 ·rw[if_pos h,if_pos (qZ.2 h)];cases a <;> rfl
 ·rw[if_neg h,if_neg (fun e=>h (qZ.1 e))]
  unfold sgn;cases a <;> cases b <;> simp[Int.neg_tmod,Int.tmod_neg,Int.tmod_eq_emod_of_nonneg (Int.natCast_nonneg n)]
instance Bd.tdiv(x y:Int)(k:Nat)[h:Bd x k]:Bd (x.tdiv y) k:=⟨by rw[Int.natAbs_tdiv];exact Nat.lt_of_le_of_lt (Nat.div_le_self _ _) h.h⟩
instance Bd.ou(x y:Int)(k:Nat)[h:Bd x k]:Bd (ou x y) k:=⟨by
 unfold Proofs.YtmgfiodmdfaclaaGreatDoor.ou
 split
 ·exact Nat.lt_of_lt_of_le (by decide) (iU k)
 ·rw[Int.natAbs_tmod];exact Nat.lt_of_le_of_lt (Nat.mod_le _ _) h.h⟩
attribute [local irreducible] sgn aU ou
theorem zQuo{l l':List Atom}{x y:Int}{k m:Nat}[h:ZI l x k][h':ZI l' y m](hk:k+m≤1099511627770):PureOK Tryz.prog 188 [.agg l,.agg l'] (.tup [.agg (zN (x.tdiv y)),.agg (zN (ou x y)),.one (.c (.val (.bool (decide (y≠0)))))]):=by
 refine z2 ⟨_,Tryz.func188,rfl,rfl⟩ fun neg n neg2 n2 hz hz2 hn hn2=>?_
 subst hz hz2;rw[←apV,←aqw,show decide (sgn neg2 n2≠0)=decide (n2≠0)by rw[decide_eq_decide,ne_eq,ne_eq,qZ]]
 refine PureOK.fn Tryz.func188 Tryz.results188 Tryz.ntmps188 rfl rfl rfl (by simp[AV.ids,AV0.ids,Atom.ids]) rfl (fun w0 T B E0 hB=>?_)
 repeat(first|refine SX.goZ ?_|(refine SX.Go1.is ?_;refine SX.Go1.bJ ?_;first
    |refine SX.Go1.call rfl (adp (by omega)) rfl rfl ?_
    |refine SX.Go1.call rfl (qF _ (by omega)) rfl rfl ?_))
 exact aB.eq3 (aj.gD rfl rfl rfl) (aj.gD rfl rfl rfl) (aj.tmp rfl) rfl rfl rfl
theorem zOne:PureOK Tryz.prog 514 [] (.agg (zN 1)):=by
 refine PureOK.fn Tryz.func514 Tryz.results514 Tryz.ntmps514 rfl rfl rfl (by simp) rfl (fun w0 T B E0 hB=>?_)
 repeat(first|refine SX.goZ ?_|(refine SX.Go1.is ?_;refine SX.Go1.bJ ?_;first
    |refine SX.Go1.call rfl (zOf 1 (by omega) (by omega)) rfl rfl ?_))
 exact aB.eq1 (aj.gD rfl rfl rfl) rfl
def zfq(x y:Int):Int:=if y=0 then 0 else x.fdiv y
def zfr(x y:Int):Int:=if y=0 then 0 else x.fmod y
theorem floor_step{x y:Int}(hy:y≠0)(h:x.tmod y*y < 0):x.tdiv y - 1=x.fdiv y∧x.tmod y+y=x.fmod y:=by
 have h1:=Int.tmod_add_mul_tdiv x y;have h2:=Int.fmod_add_mul_fdiv x y;have hq:x.tdiv y - 1=x.fdiv y:=by
  have h0:¬y ∣ x:=fun hd=>by rw[Int.tmod_eq_zero_of_dvd hd]at h;simp at h
  rw[Int.tdiv_eq_ediv,Int.fdiv_eq_ediv];have hs:(x.tmod y < 0∧0 < y)∨(0 < x.tmod y∧y < 0):=by
   rcases Int.lt_trichotomy (x.tmod y) 0 with ha|ha|ha
   ·refine .inl ⟨ha,?_⟩;rcases Int.lt_trichotomy y 0 with hb|hb|hb
    ·have:=Int.mul_pos_of_neg_of_neg ha hb;omega
    ·exact absurd hb hy
    ·exact hb
   ·rw[ha]at h;simp at h
   ·refine .inr ⟨ha,?_⟩;rcases Int.lt_trichotomy y 0 with hb|hb|hb
    ·exact hb
    ·exact absurd hb hy
    ·have:=Int.mul_pos ha hb;omega
  rcases hs with⟨a,b⟩|⟨a,b⟩
  ·have hx:x < 0:=by
    rcases Int.lt_or_le x 0 with hx|hx
    ·exact hx
    ·have:=Int.tmod_nonneg y hx;omega
   rw[if_neg (by simp[h0];omega),if_pos (by left;omega)]
   rw[Int.sign_eq_one_of_pos b];omega
  ·have hx:0 < x:=by
    rcases Int.lt_or_le 0 x with hx|hx
    ·exact hx
    ·have:=Int.tmod_nonneg y (show 0≤ -x by omega);rw[Int.neg_tmod]at this;omega
   rw[if_pos (by left;omega),if_neg (by simp[h0];omega)];omega
 refine⟨hq,?_⟩;rw[←hq,Int.mul_sub]at h2;omega
theorem floor_keep{x y:Int}(hy:y≠0)(h:¬x.tmod y*y < 0):x.tdiv y=x.fdiv y∧x.tmod y=x.fmod y:=by
 have h1:=Int.tmod_add_mul_tdiv x y;have h2:=Int.fmod_add_mul_fdiv x y;have hq:x.tdiv y=x.fdiv y:=by
  rw[Int.tdiv_eq_ediv,Int.fdiv_eq_ediv];by_cases hd:y ∣ x
  ·rw[if_pos (.inr hd),if_pos (.inr hd)];omega
  ·have h0:x.tmod y≠0:=fun e=>hd (Int.dvd_of_tmod_eq_zero e)
   rcases Int.lt_trichotomy y 0 with hb|hb|hb
   ·have:x.tmod y < 0:=by
     rcases Int.lt_trichotomy (x.tmod y) 0 with ha|ha|ha
     ·exact ha
     ·exact absurd ha h0
     ·have:=Int.mul_neg_of_pos_of_neg ha hb;omega
    have hx:x < 0:=by
     rcases Int.lt_or_le x 0 with hx|hx
     ·exact hx
     ·have:=Int.tmod_nonneg y hx;omega
    rw[if_neg (by simp[hd];omega),if_neg (by simp[hd];omega),Int.sign_eq_neg_one_of_neg hb];omega
   ·exact absurd hb hy
   ·have:0 < x.tmod y:=by
     rcases Int.lt_trichotomy (x.tmod y) 0 with ha|ha|ha
     ·have:=Int.mul_neg_of_neg_of_pos ha hb;omega
     ·exact absurd ha h0
     ·exact ha
    have hx:0≤x:=by
     rcases Int.lt_or_le x 0 with hx|hx
     ·have:=Int.tmod_nonneg y (show 0≤ -x by omega);rw[Int.neg_tmod]at this;omega
     ·exact hx
    rw[if_pos (.inl hx),if_pos (.inl (by omega))];omega
 refine⟨hq,?_⟩;rw[←hq]at h2;omega
instance Bd.zfq(x y:Int)(k:Nat)[h:Bd x k]:Bd (zfq x y) (k+1+1):=⟨by
 unfold Proofs.YtmgfiodmdfaclaaGreatDoor.zfq
 split
 ·exact Nat.lt_of_lt_of_le (by decide) (iU _)
 ·by_cases h0:x.tmod y*y < 0
  ·rw[←(floor_step (by assumption) h0).1];exact(Bd.sub (x.tdiv y) 1 k 1).h
  ·rw[←(floor_keep (by assumption) h0).1];exact Bd.mono (Bd.tdiv x y k).h (by omega)⟩
instance Bd.zfr(x y:Int)(k m:Nat)[h:Bd x k][h':Bd y m]:Bd (zfr x y) (k+m+1):=⟨by
 unfold Proofs.YtmgfiodmdfaclaaGreatDoor.zfr
 split
 ·exact Nat.lt_of_lt_of_le (by decide) (iU _)
 ·have hb:Bd (x.tmod y) k:=⟨by rw[Int.natAbs_tmod];exact Nat.lt_of_le_of_lt (Nat.mod_le _ _) h.h⟩
  by_cases h0:x.tmod y*y < 0
  ·rw[←(floor_step (by assumption) h0).2];exact(Bd.add (x.tmod y) y k m).h
  ·rw[←(floor_keep (by assumption) h0).2];exact Bd.mono hb.h (by omega)⟩
attribute [local irreducible] zfq zfr
def zeq(x y:Int):Int:=if y=0 then 0 else x / y
def zer(x y:Int):Int:=if y=0 then 0 else x % y
theorem afO{x y:Int}(hy:y≠0)(h:0≤x.tmod y):x.tdiv y=x / y∧x.tmod y=x % y:=by
 have h1:=Int.tmod_add_mul_tdiv x y;have h2:=Int.emod_add_mul_ediv x y;have hq:x.tdiv y=x / y:=by
  rw[Int.tdiv_eq_ediv];by_cases hd:y ∣ x
  ·rw[if_pos (.inr hd)];omega
  ·have h0:x.tmod y≠0:=fun e=>hd (Int.dvd_of_tmod_eq_zero e)
   have hx:0≤x:=by
    rcases Int.lt_or_le x 0 with hx|hx
    ·have:=Int.tmod_nonneg y (show 0≤ -x by omega);rw[Int.neg_tmod]at this;omega
    ·exact hx
   rw[if_pos (.inl hx)];omega
 refine⟨hq,?_⟩;rw[←hq]at h2;omega
theorem aff{x y:Int}(hy:y≠0)(h:x.tmod y < 0):(0 < y→x.tdiv y - 1=x / y∧x.tmod y+y=x % y)∧(y < 0→x.tdiv y+1=x / y∧x.tmod y - y=x % y):=by
 have h1:=Int.tmod_add_mul_tdiv x y;have h2:=Int.emod_add_mul_ediv x y;have hd:¬y ∣ x:=fun hd=>by rw[Int.tmod_eq_zero_of_dvd hd]at h;omega
 have hx:x < 0:=by
  rcases Int.lt_or_le x 0 with hx|hx
  ·exact hx
  ·have:=Int.tmod_nonneg y hx;omega
 have hq:x.tdiv y=x / y+y.sign:=by rw[Int.tdiv_eq_ediv,if_neg (by simp[hd];omega)]
 constructor
 ·intro hp;rw[Int.sign_eq_one_of_pos hp]at hq;have e:x.tdiv y - 1=x / y:=by omega
  refine⟨e,?_⟩;rw[←e,Int.mul_sub]at h2;omega
 ·intro hp;rw[Int.sign_eq_neg_one_of_neg hp]at hq;have e:x.tdiv y+1=x / y:=by omega
  refine⟨e,?_⟩;rw[←e,Int.mul_add]at h2;omega
theorem akF(z:Int):decide (0 < aU z)=decide (0 < z):=by
 rw[decide_eq_decide];unfold aU;repeat' split <;> omega
theorem ads(z:Int):decide (0≤aU z)=decide (0≤z):=by
 rw[decide_eq_decide];unfold aU;repeat' split <;> omega
theorem agS(z:Int):decide (aU z=0)=decide (z=0):=by
 rw[decide_eq_decide];unfold aU;repeat' split <;> omega
theorem apX{l l':List Atom}{x y:Int}{k m:Nat}[h:ZI l x k][h':ZI l' y m](hk:k+m≤1099511627760):PureOK Tryz.prog 506 [.agg l,.agg l'] (.tup [.agg (zN (zeq x y)),.agg (zN (zer x y)),.one (.c (.val (.bool (decide (y≠0)))))]):=by
 refine z2 ⟨_,Tryz.func506,rfl,rfl⟩ fun neg n neg2 n2 hz hz2 hn hn2=>?_
 refine PureOK.fn Tryz.func506 Tryz.results506 Tryz.ntmps506 rfl rfl rfl (by simp[AV.ids,AV0.ids,Atom.ids]) rfl (fun w0 T B E0 hB=>?_)
 have hbx:Bd x k:=by rw[hz];infer_instance
 have hby:Bd y m:=by rw[hz2];infer_instance
 by_cases hy:y=0
 ·have hok:decide (y≠0)=false:=by simp[hy]
  have hok2:(!decide (y≠0))=true:=by simp[hy]
  rw[hz2]at hok hok2;subst hz hz2;repeat(first|refine SX.goZ ?_|(refine SX.Go1.is ?_;refine SX.Go1.bJ ?_;first
     |refine SX.Go1.call rfl (zQuo (by omega)) rfl rfl ?_))
  refine aB.eq3 (aj.gD rfl rfl rfl) (aj.gD rfl rfl rfl) (aj.tmp rfl) ?_ ?_ rfl
  ·have:zeq (sgn neg n) (sgn neg2 n2)=(sgn neg n).tdiv (sgn neg2 n2):=by unfold zeq;rw[if_pos hy,hy,Int.tdiv_zero]
   rw[this]
  ·have:zer (sgn neg n) (sgn neg2 n2)=ou (sgn neg n) (sgn neg2 n2):=by unfold zer ou;rw[if_pos hy,if_pos hy]
   rw[this]
 ·have hok:decide (y≠0)=true:=by simp[hy]
  have hok2:(!decide (y≠0))=false:=by simp[hy]
  rw[hz2]at hok hok2;subst hz hz2;have hr:ou (sgn neg n) (sgn neg2 n2)=(sgn neg n).tmod (sgn neg2 n2):=by unfold ou;rw[if_neg hy]
  have bq:Bd ((sgn neg n).tdiv (sgn neg2 n2)) k:=inferInstance;have br:Bd ((sgn neg n).tmod (sgn neg2 n2)) k:=by rw[←hr];infer_instance
  repeat(first|refine SX.goZ ?_|(refine SX.Go1.is ?_;refine SX.Go1.bJ ?_;first
     |refine SX.Go1.call rfl (zQuo (by omega)) rfl rfl ?_
     |refine SX.Go1.call rfl (yF (by omega)) rfl rfl ?_))
  rw[ads,hr];refine WP.cond rfl (fun hc=>?_) (fun hc=>?_)
  ·obtain⟨e1,e2⟩:=afO hy (by simpa using hc)
   repeat(first|refine SX.goZ ?_)
   refine aB.eq3 (aj.gD rfl rfl rfl) (aj.gD rfl rfl rfl) (aj.tmp rfl) ?_ ?_ rfl
   ·unfold zeq;rw[if_neg hy,e1]
   ·unfold zer;rw[if_neg hy,e2]
  ·obtain⟨e1,e2⟩:=aff hy (by simpa using hc)
   repeat(first|refine SX.goZ ?_|(refine SX.Go1.is ?_;refine SX.Go1.bJ ?_;first
      |refine SX.Go1.call rfl (yF (by omega)) rfl rfl ?_))
   rw[akF];refine WP.cond rfl (fun hc2=>?_) (fun hc2=>?_)
   ·obtain⟨e1,e2⟩:=e1 (by simpa using hc2)
    repeat(first|refine SX.goZ ?_|(refine SX.Go1.is ?_;refine SX.Go1.bJ ?_;first
       |refine SX.Go1.call rfl (zOne) rfl rfl ?_
       |refine SX.Go1.call rfl (zSub (by omega)) rfl rfl ?_
       |refine SX.Go1.call rfl (zAdd (by omega)) rfl rfl ?_))
    refine aB.eq3 (aj.gD rfl rfl rfl) (aj.gD rfl rfl rfl) (aj.tmp rfl) ?_ ?_ ?_
    ·unfold zeq;rw[if_neg hy,e1]
    ·unfold zer;rw[if_neg hy,e2]
    ·rw[hok]
   ·obtain⟨e1,e2⟩:=e2 (by simp at hc2;omega)
    repeat(first|refine SX.goZ ?_|(refine SX.Go1.is ?_;refine SX.Go1.bJ ?_;first
       |refine SX.Go1.call rfl (zOne) rfl rfl ?_
       |refine SX.Go1.call rfl (zSub (by omega)) rfl rfl ?_
       |refine SX.Go1.call rfl (zAdd (by omega)) rfl rfl ?_))
    refine aB.eq3 (aj.gD rfl rfl rfl) (aj.gD rfl rfl rfl) (aj.tmp rfl) ?_ ?_ ?_
    ·unfold zeq;rw[if_neg hy,e1]
    ·unfold zer;rw[if_neg hy,e2]
    ·rw[hok]
end
section
attribute [local irreducible] IntKind.wrap bitLen kV nval Go1 Reg WP aQ aR bO aB aj ah aV Sat
attribute [local irreducible] sgn aU ou zfq zfr
def zround(x y:Int):Int:=if y < 0 then zfq (-x+ -x+ -y) (-y+ -y)else zfq (x+x+y) (y+y)
theorem zN0:AV0.imp (.agg [.c (.val (.bool false)),.c (.val (.slice none 0 0))]) (.agg (zN 0)):=by
 rintro E S w v ⟨vs,hv,hall⟩
 match vs,hall with
 |[a,b],⟨h1,h2,_⟩=>
  refine⟨[a,b],hv,h1,?_,trivial⟩;rw[show b=_ from h2]
  exact bB.zero
def qy(x y:Int):Bool:=decide (y≠0)&&decide (ou x y=0)
def iY(x y:Int):Int:=if qy x y then x.tdiv y else 0
instance Bd.iY(x y:Int)(k:Nat)[h:Bd x k]:Bd (iY x y) k:=⟨by
 unfold Proofs.YtmgfiodmdfaclaaGreatDoor.iY
 split
 ·exact(Bd.tdiv x y k).h
 ·exact Nat.lt_of_lt_of_le (by decide) (iU _)⟩
theorem arH{l l':List Atom}{x y:Int}{k m:Nat}[h:ZI l x k][h':ZI l' y m](hk:k+m≤1099511627760):PureOK Tryz.prog 149 [.agg l,.agg l'] (.tup [.agg (zN (iY x y)),.one (.c (.val (.bool (qy x y))))]):=by
 refine z2 ⟨_,Tryz.func149,rfl,rfl⟩ fun neg n neg2 n2 hz hz2 hn hn2=>?_
 refine PureOK.fn Tryz.func149 Tryz.results149 Tryz.ntmps149 rfl rfl rfl (by simp[AV.ids,AV0.ids,Atom.ids]) rfl (fun w0 T B E0 hB=>?_)
 by_cases hy:y=0
 ·have hok:decide (y≠0)=false:=by simp[hy]
  have hok2:(!decide (y≠0))=true:=by simp[hy]
  have he:qy x y=false:=by unfold qy;rw[hok];rfl
  have hq:iY x y=0:=by unfold iY;rw[he];rfl
  rw[he,hq];rw[hz2]at hok hok2;subst hz hz2;repeat(first|refine SX.goZ ?_|(refine SX.Go1.is ?_;refine SX.Go1.bJ ?_;first
     |refine SX.Go1.call rfl (zQuo (by omega)) rfl rfl ?_))
  exact aB.mk2 (aj.imp (aj.gD rfl rfl rfl) zN0) (aj.tmp rfl)
 ·have hok:decide (y≠0)=true:=by simp[hy]
  have hok2:(!decide (y≠0))=false:=by simp[hy]
  rw[hz2]at hok hok2;subst hz hz2;repeat(first|refine SX.goZ ?_|(refine SX.Go1.is ?_;refine SX.Go1.bJ ?_;first
     |refine SX.Go1.call rfl (zQuo (by omega)) rfl rfl ?_
     |refine SX.Go1.call rfl (yF (by omega)) rfl rfl ?_))
  have hne:decide (aU (ou (sgn neg n) (sgn neg2 n2))≠0)=decide (ou (sgn neg n) (sgn neg2 n2)≠0):=by
   have:=agS (ou (sgn neg n) (sgn neg2 n2));rw[decide_eq_decide]at*;omega
  rw[hne];refine WP.cond rfl (fun hc=>?_) (fun hc=>?_)
  ·have hz0:ou (sgn neg n) (sgn neg2 n2)≠0:=by simpa using hc
   have he:qy (sgn neg n) (sgn neg2 n2)=false:=by unfold qy;simp[hz0]
   have hq:iY (sgn neg n) (sgn neg2 n2)=0:=by unfold iY;rw[he];rfl
   rw[he,hq];repeat(first|refine SX.goZ ?_)
   exact aB.mk2 (aj.imp (aj.gD rfl rfl rfl) zN0) (aj.tmp rfl)
  ·have hz0:ou (sgn neg n) (sgn neg2 n2)=0:=by simpa using hc
   have he:qy (sgn neg n) (sgn neg2 n2)=true:=by unfold qy;rw[hok];simp[hz0]
   have hq:iY (sgn neg n) (sgn neg2 n2)=(sgn neg n).tdiv (sgn neg2 n2):=by unfold iY;rw[he];rfl
   rw[he,hq];repeat(first|refine SX.goZ ?_)
   exact aB.mk2 (aj.gD rfl rfl rfl) (aj.tmp rfl)
theorem akZ(n:Nat):sgn false n=(n:Int):=by unfold sgn;simp
theorem zGcd{l l':List Atom}{x y:Int}{k m:Nat}[h:ZI l x k][h':ZI l' y m](hk:k+m≤1099511627760):PureOK Tryz.prog 41 [.agg l,.agg l'] (.agg (zN (Int.gcd x y:Int))):=by
 refine z2 ⟨_,Tryz.func41,rfl,rfl⟩ fun neg n neg2 n2 hz hz2 hn hn2=>?_
 subst hz hz2;rw[show (Int.gcd (sgn neg n) (sgn neg2 n2):Int)=sgn false (Nat.gcd n n2)by rw[akZ];unfold Int.gcd;rw[jl,jl]]
 refine PureOK.fn Tryz.func41 Tryz.results41 Tryz.ntmps41 rfl rfl rfl (by simp[AV.ids,AV0.ids,Atom.ids]) rfl (fun w0 T B E0 hB=>?_)
 repeat(first|refine SX.goZ ?_|(refine SX.Go1.is ?_;refine SX.Go1.bJ ?_;first
    |refine SX.Go1.call rfl (dGcd (by omega)) rfl rfl ?_
    |refine SX.Go1.call rfl (qF _ (by omega)) rfl rfl ?_))
 exact aB.eq1 (aj.gD rfl rfl rfl) rfl
instance BdN.igcd(x y:Int)(k m:Nat)[hx:Bd x k][hy:Bd y m]:BdN (Int.gcd x y) (k+m):=⟨(BdN.gcd x.natAbs y.natAbs k m).h⟩
end
section
attribute [local irreducible] IntKind.wrap bitLen kV nval Go1 Reg WP aQ aR bO aB aj ah aV Sat
theorem ap5{a:CA}{x k:Nat}[ha:NI a x k](hk:k+k≤274877906944):PureOK Tryz.prog 157 [.it (.one (.c a))] (.r (bB (x*x))):=by
 refine PureOK.fn Tryz.func157 Tryz.results157 Tryz.ntmps157 rfl rfl rfl (by simp[AV.ids,AV0.ids,Atom.ids]) rfl (fun w0 T B E0 hB=>?_)
 repeat(first|refine SX.goZ ?_|(refine SX.Go1.is ?_;refine SX.Go1.bJ ?_;first
    |refine SX.Go1.call rfl (mMul (by omega)) rfl rfl ?_))
 exact aB.eq1 (aj.tmp rfl) rfl
def powok(x:Nat)(n:Int):Bool:=decide (0≤n)&&(decide (bitLen x=0)||decide (n≤((1048576 / bitLen x:Nat):Int)))
def powv(x:Nat)(n:Int):Nat:=if powok x n=true then x ^ n.toNat else 0
theorem pow_lt{x e N b K W:Nat}(hW:1 < W)(hx:x < 2 ^ b)(he:e≤N)(hN:N*b≤64*K)(hK:0 < K)(hw:W=2 ^ 64):x ^ e < W ^ K:=by
 subst hw;rw[←Nat.pow_mul];cases e with
 |zero=>rw[Nat.pow_zero];exact Nat.one_lt_two_pow (by omega)
 |succ e=>
  refine Nat.lt_of_lt_of_le (Nat.pow_lt_pow_left hx (by omega)) ?_
  rw[←Nat.pow_mul];exact Nat.pow_le_pow_right (by omega) (Nat.le_trans (by rw[Nat.mul_comm];exact Nat.mul_le_mul_right b he) hN)
@[irreducible] def pwK:Nat:=16384
theorem pwK_eq:pwK=16384:=by unfold pwK;rfl
theorem pow_bd{x e N:Nat}(he:e≤N)(hN:N*bitLen x≤1048576):BdN (x ^ e) pwK:=⟨pow_lt (K:=pwK) uI (bitLen_spec x).1 he (by rw[pwK_eq];omega) (by rw[pwK_eq];omega) kR⟩
attribute [local irreducible] powok powv
theorem powv_bd(x:Nat)(n:Int):powv x n < WB ^ pwK:=by
 unfold powv
 split
 ·rename_i h;unfold powok at h;simp only[Bool.and_eq_true,Bool.or_eq_true,decide_eq_true_eq]at h;refine(pow_bd (N:=n.toNat) (Nat.le_refl _) ?_).h;rcases h.2 with hb|hb
  ·rw[hb];omega
  ·have h5:n.toNat≤1048576 / bitLen x:=by omega
   exact Nat.le_trans (Nat.mul_le_mul_right _ h5) (Nat.div_mul_le_self ..)
 ·exact Nat.lt_of_lt_of_le (by decide) (iU pwK)
instance BdN.powv(x:Nat)(n:Int):BdN (powv x n) pwK:=⟨powv_bd x n⟩
def zpowv(z:Int)(n:Int):Int:=if powok z.natAbs n=true then z ^ n.toNat else 0
theorem sgn_pow(neg:Bool)(x:Nat)(n:Int):sgn (neg&&decide (n.tmod 2≠0)) (powv x n)=zpowv (sgn neg x) n:=by
 unfold powv zpowv;rw[jl]
 split
 ·rename_i h;have h0:0≤n:=by unfold powok at h;simp at h;exact h.1
  have ht:n.tmod 2=((n.toNat % 2:Nat):Int):=by rw[Int.tmod_eq_emod_of_nonneg h0];omega
  unfold sgn;cases neg
  ·simp
  ·rcases Nat.mod_two_eq_zero_or_one n.toNat with e|e
   ·rw[ht,e];simp;rw[show (-(x:Int)) ^ n.toNat=(x:Int) ^ n.toNat from ?_]
    obtain⟨m,hm⟩:∃m,n.toNat=2*m:=⟨n.toNat / 2,by omega⟩
    rw[hm,Int.pow_mul,Int.pow_mul];congr 1;simp[Int.pow_succ,Int.neg_mul_neg]
   ·rw[ht,e];simp;obtain⟨m,hm⟩:∃m,n.toNat=2*m+1:=⟨n.toNat / 2,by omega⟩
    rw[hm,Int.pow_succ,Int.pow_succ,Int.pow_mul,Int.pow_mul,show (-(x:Int)) ^ 2=(x:Int) ^ 2 by simp[Int.pow_succ,Int.neg_mul_neg],Int.mul_neg]
 ·unfold sgn;simp
instance Bd.zpowv(z:Int)(n:Int):Bd (zpowv z n) pwK:=⟨by
 have h:=sgn_pow (decide (z < 0)) z.natAbs n;rw[aiS]at h;rw[←h,jl];exact powv_bd _ _⟩
attribute [local irreducible] sgn zpowv
end
end Go.Proofs.YtmgfiodmdfaclaaGreatDoor