import Derived.Test.YtegehclknhmkgaaGreatDoorA12
import Derived.Test.YtegehclknhmkgaaGreatDoorA35
import Derived.Test.YtegehclknhmkgaaGreatDoorA9
set_option linter.unusedVariables false
set_option linter.unusedSimpArgs false
namespace Go.Proofs.YtegehclknhmkgaaGreatDoor
open Go.RowKit QM SX
section
attribute [local irreducible] IntKind.wrap Go1 Reg WP aN aQ bM bI aL aC aj ah aT Sat
attribute [local irreducible] iX pw nD pwM pwm aO
section
variable{a b:CA}{x y k m:Nat}
instance uF[ha:NI a x k]:Con Tryz.prog 35 [.it (.one (.c a))] (k≤1099511627775) (.v (.int .i64 (bitLen x:Int))):=⟨fun h=>adA h⟩
instance anG[ha:NI a x k]:Con Tryz.prog 79 [.it (.one (.c a))] (k+k≤274877906944) (.r (bC (x*x))):=⟨fun h=>amX h⟩
end
theorem apS(x:Nat):iX 0 x=[]:=by unfold iX;rfl
theorem aow(n x:Nat):iX (n+1) x=iX n (x / 10)++[UInt8.ofNat (48+x % 10)]:=by rw[iX]
theorem pureS{f:FuncId}{args:List Value}{r:Value}(he:∃fn,Tryz.prog.funcs[f]? =some fn∧(fn.name== "runtime.NumGoroutine")=false∧fn.body.isNone=false)(h:∀w,Calls Tryz.prog f args.toArray w fun e w'=>e= .returned r∧w'=w):PureOK Tryz.prog f (args.map AV.v) (.v r):=
 PureOK.gQ he rfl fun E S w vs hl hv=>by
  have hvs:vs=args:=by
   clear h
   induction args generalizing vs with
   |nil=>cases vs with|nil=>rfl|cons _ _=>exact hv.elim
   |cons a l ih=>cases vs with|nil=>exact hv.elim|cons b m=>rw[ih m hv.2,show b=a from hv.1]
  subst hvs;exact(h w).mono fun e w' ⟨h1,h2⟩=>⟨r,h1,rfl,by subst h2;exact Off.refl _ _⟩
theorem aoB(d:Nat):((UInt8.ofNat (48+d % 10)).toNat:Int)=((48+d % 10:Nat):Int):=by
 rw[UInt8.toNat_ofNat'];omega
theorem al3(x:Nat)(hx:x < WB):mV Tryz.prog 77 [.v (.int .u64 (x:Int))] 5 1 18 ((iX 18 x).flatMap jA):=by
 rw[bY]at hx;refine mV.fnF Tryz.func77 Tryz.results77 Tryz.ntmps77 rfl rfl rfl (by simp[AV.ids,AV0.ids,Atom.ids]) (fun w0 T B E0 hB=>?_)
 refine SX.goM ?_;refine W.aiQ (fun(k y:Nat) (tl:List UInt8)=>k+tl.length=18∧y < 18446744073709551616∧iX k y++tl=iX 18 x) (fun k y tl=>[(0,.v (.int .u64 (y:Int))),(3,.own 100),(4,.v (.int .i64 ((k:Int) - 1)))])
  (fun k y tl=>[(100,.row 5 1 18 ((List.replicate k 0++tl).flatMap jA))]) (fun k _ _=>k) 18 x [] ⟨rfl,hx,by simp⟩ (fun k y tl ⟨hk,hy,hd⟩=>?_)
 cases k with
 |zero=>
  have e:(List.replicate 0 0++tl).flatMap jA=(iX 18 x).flatMap jA:=by rw[←hd,apS];rfl
  refine SX.goM ?_;exact retO
 |succ k=>
  rw[show ((k+1:Nat):Int) - 1=(k:Int)by omega]
  have e:spl ((List.replicate (k+1) 0++tl).flatMap jA) (k*1) [.val (.int .u8 ((48+y % 10:Nat):Int))]=(List.replicate k 0++(UInt8.ofNat (48+y % 10)::tl)).flatMap jA:=by
   rw[←aoB,show [CA.val (.int .u8 ((UInt8.ofNat (48+y % 10)).toNat:Int))]=jA (UInt8.ofNat (48+y % 10))from rfl,tC _ _ _ (by simp;omega),List.replicate_succ']
   congr 1
   rw[List.append_assoc,List.set_append_right _ _ (by simp)]
   simp
  refine SX.goM ?_
  -- ??
  exact W.alO k (y / 10) (UInt8.ofNat (48+y % 10)::tl) ⟨by simp at hk ⊢;omega,by omega,by rw[←hd,aow];simp⟩ (by omega)
def acg(n:Nat):List CA:=[.sat (bC n)]
instance:eB acg 1:=⟨fun _=>rfl⟩
def pws(j:Nat):List Nat:=(List.range j).map pw
theorem ab6(j:Nat):(pws j).length=j:=by simp[pws]
theorem agt{i j:Nat}(h:i < j):(pws j)[i]? =some (pw i):=by simp[pws,h]
theorem aiK{i j:Nat}(h:i≤j):(pws j).take i=pws i:=by
 unfold pws;rw[←List.map_take,List.take_range,Nat.min_eq_left h]
theorem ajm(j:Nat):pws (j+1)=pws j++[pw j]:=by simp[pws,List.range_succ]
theorem aju:pw 0=1000000000000000000:=afE
theorem aeH{a:CA}{x k:Nat}[ha:NI a x k](hx:x < WB ^ k)(hk:k≤1000000000):PureOK Tryz.prog 38 [.it (.one (.c a))] (.r (aF 1 acg (pws (pwm x+1)))):=by
 have cO:PureOK Tryz.prog 18 [.v (.int .u64 1000000000000000000)] (.r (bC (pw 0))):=by rw[afE];exact nOf 1000000000000000000 (by rw[bY];decide)
 have hb:=abJ hx;have mark:xJ 5:=⟨⟩;have e0:[CA.sat (bC (pw 0))]=(pws (0+1)).flatMap acg:=rfl;refine PureOK.fnF Tryz.func38 Tryz.results38 Tryz.ntmps38 rfl rfl rfl (by simp[AV.ids,AV0.ids,Atom.ids]) rfl (fun w0 T B E0 hB=>?_)
 refine SX.goM ?_;have hpm:pwM x (bitLen x+2) 0=pwm x:=by unfold pwm;rfl
 refine W.lC (fun(j f:Nat)=>(j=0∨nD j≤bitLen x+1)∧pwM x f j=pwm x∧f+j=bitLen x+2) (fun j f=>[(0,.it (.one (.c a))),(3,.own 100)]) (fun j f=>[(100,.row 25 1 (j+1) ((pws (j+1)).flatMap acg))]) (fun j f=>f) 0 (bitLen x+2) ⟨.inl rfl,hpm,rfl⟩ (fun j f ⟨h1,h2,h3⟩=>?_)
 have hn:nD j≤64000000001:=by
  rcases h1 with rfl|h1
  ·have:nD 0=18:=by unfold nD;rfl
   omega
  ·omega
 have hg:(pws (j+1))[j+1 - 1]? =some (pw j):=agt (by omega)
 have hbp:=xg j;have hbj:=aaR j;have hbu:=abJ (BdN.pw j).h;by_cases hq:2*bitLen (pw j)≤bitLen x+1
 ·cases f with
  |zero=>exact absurd hq (by omega)
  |succ f=>
   have e1:(pws (j+1)).flatMap acg++[CA.sat (bC (pw j*pw j))]=(pws (j+1+1)).flatMap acg:=by
    rw[ajm (j+1),List.flatMap_append,ab0];rfl
   have h2':pwM x f (j+1)=pwm x:=by rw[←h2];conv=>rhs;unfold pwM;rw[if_pos hq]
   have hs:nD (j+1)=nD j+nD j:=by conv=>lhs;unfold nD
   refine SX.goM ?_;exact W.kG (j+1) f ⟨.inr (by omega),h2',by omega⟩ (by omega)
 ·have hjm:j=pwm x:=by
   rw[←h2];cases f with
   |zero=>unfold pwM;rfl
   |succ f=>conv=>rhs;unfold pwM;rw[if_neg hq]
  refine SX.goM ?_;refine aL.frz 100 ?_;refine agj ?_;rw[←hjm];show AV0.imp _ (.one (.c (.sat (aM 1 (pws (j+1)).length ((pws (j+1)).flatMap acg)))));rw[ab6];exact AV0.imp.refl _
theorem qQ:∀(j:Nat) {a:CA} {x k:Nat} [ha:NI a x k] (L:List Nat),L=pws j→x < pw j→nD j≤200000000000→k≤500000000000→
  mV Tryz.prog 37 [.it (.one (.c a)),.r (aF 1 acg L)] 5 1 (nD j) ((iX (nD j) x).flatMap jA)
 |0,a,x,k,ha,L,hL,hx,hn,hk=>by
  have e18:nD 0=18:=by unfold nD;rfl
  have hxw:x < WB:=by rw[aju]at hx;rw[bY];omega
  have cW:=aoa (a:=a) (x:=x) (k:=k) (by omega)
  rw[if_pos hxw]at cW;have cw:=al3 x hxw;have hl0:L.length=0:=by rw[hL,ab6]
  rw[e18];refine mV.fnF Tryz.func37 Tryz.results37 Tryz.ntmps37 rfl rfl rfl (by simp[AV.ids,AV0.ids,Atom.ids]) (fun w0 T B E0 hB=>?_)
  refine SX.goM ?_;exact retO
 |j+1,a,x,k,ha,L,hL,hx,hn,hk=>by
  have hs:nD (j+1)=nD j+nD j:=by conv=>lhs;unfold nD
  have hj:=aaR j;have hl1:L.length=j+1:=by rw[hL,ab6]
  have hg:L[L.length - 1]? =some (pw j):=by rw[hl1,hL];exact agt (by omega)
  have ht:L.take (L.length - 1)=pws j:=by rw[hl1,hL];exact aiK (by omega)
  have hp:=alz j;rw[ab0]at hx;have hq:x / pw j < pw j:=Nat.div_lt_of_lt_mul hx;have hr:x % pw j < pw j:=Nat.mod_lt _ hp;have cD:=abm (a:=a) (x:=x) (k:=k) (b:= .sat (bC (pw j))) (y:=pw j) (m:=nD j) (by omega)
  rw[if_neg (by omega)]at cD
  haveI b1:BdN (x / pw j) (nD j):=⟨Nat.lt_trans hq (BdN.pw j).h⟩
  haveI b2:BdN (x % pw j) (nD j):=⟨Nat.lt_trans hr (BdN.pw j).h⟩
  have c1:=qQ j (a:= .sat (bC (x / pw j))) (k:=nD j) (L.take (L.length - 1)) ht hq (by omega) (by omega)
  have c2:=(qQ j (a:= .sat (bC (x % pw j))) (k:=nD j) (L.take (L.length - 1)) ht hr (by omega) (by omega)).pure
  have e1:(iX (nD j) (x / pw j)).flatMap jA++(iX (nD j) (x % pw j)).flatMap jA=(iX (nD j+nD j) x).flatMap jA:=by
   rw[adO,List.flatMap_append,show 10 ^ nD j=pw j by unfold pw;rfl]
  rw[hs];refine mV.fnF Tryz.func37 Tryz.results37 Tryz.ntmps37 rfl rfl rfl (by simp[AV.ids,AV0.ids,Atom.ids]) (fun w0 T B E0 hB=>?_)
  refine SX.goM ?_;exact retO
theorem abE(l:List UInt8):PureOK Tryz.prog 36 [.v (str l),.v (str [48])] (.v (str (l.dropWhile (· ==48)))):=
 pureS (args:=[str l,str [48]]) ⟨_,Tryz.func36,rfl,rfl⟩ fun w=>(Tryz.strings_TrimLeft_one ⟨⟨l⟩⟩ 48 (by decide) w).mono fun e w' ⟨h1,h2⟩=>⟨h1,h2⟩
theorem ajr(x:Nat):x < pw (pwm x+1):=by
 have key:∀(f j:Nat),f+j=bitLen x+2→¬2*bitLen (pw (pwM x f j))≤bitLen x+1:=by
  intro f
  induction f with
  |zero=>
   intro j hj;have h1:=xg j;have h2:=aaR j;unfold pwM;omega
  |succ f ih=>
   intro j hj;unfold pwM
   split
   ·exact ih (j+1) (by omega)
   ·assumption
 have:=key (bitLen x+2) 0 rfl;exact ahz (by unfold pwm;exact this)
theorem apJ{x k:Nat}(hx:x < WB ^ k)(hk:k≤1000000000):nD (pwm x+1)≤200000000000:=by
 have hb:=abJ hx;have key:∀(f j:Nat),(j=0∨nD j≤bitLen x+1)→nD (pwM x f j)≤64000000001:=by
  intro f
  induction f with
  |zero=>
   intro j hj;unfold pwM;rcases hj with rfl|hj
   ·have:nD 0=18:=by unfold nD;rfl
    omega
   ·omega
  |succ f ih=>
   intro j hj;unfold pwM
   split
   ·rename_i h;have h1:=xg j;exact ih (j+1) (.inr (by
                  conv=>lhs;unfold nD
                  omega))
   ·rcases hj with rfl|hj
    ·have:nD 0=18:=by unfold nD;rfl
     omega
    ·omega
 have h1:=key (bitLen x+2) 0 (.inl rfl);have h2:nD (pwm x+1)=nD (pwm x)+nD (pwm x):=by conv=>lhs;unfold nD
 have h3:nD (pwm x)≤64000000001:=by unfold pwm;exact h1
 omega
theorem aio{a:CA}{x k:Nat}[ha:NI a x k](hx:x < WB ^ k)(hk:k≤1000000000):PureOK Tryz.prog 16 [.it (.one (.c a))] (.v (str (aO x))):=by
 have cP:=aeH (a:=a) hx hk;have cD:=(qQ (pwm x+1) (a:=a) (k:=k) (pws (pwm x+1)) rfl (ajr x) (apJ hx hk) (by omega)).pure
 have el:nD (pwm x+1)=(iX (nD (pwm x+1)) x).length:=(rT _ _).symm;have cD':PureOK Tryz.prog 37 [.it (.one (.c a)),.r (aF 1 acg (pws (pwm x+1)))] (.r (aF 1 jA (iX (nD (pwm x+1)) x))):=by
  show PureOK _ _ _ (.r (aM 1 (iX (nD (pwm x+1)) x).length _));rw[rT];exact cD
 clear cD;have cT:=abE (iX (nD (pwm x+1)) x);have hd:=uI (nD (pwm x+1)) x (by have:=ajr x;unfold pw at this;exact this)
 rw[hd]at cT;have hS:aO x=if x=0 then [48]else dig x:=by unfold aO;rfl
 refine PureOK.fnF Tryz.func16 Tryz.results16 Tryz.ntmps16 rfl rfl rfl (by simp[AV.ids,AV0.ids,Atom.ids]) rfl (fun w0 T B E0 hB=>?_)
 by_cases h0:x=0
 ·have hz:decide (dig x=[])=true:=by subst h0;rw[jm];rfl
  refine SX.goM ?_;refine aew ?_;rw[hS,if_pos h0]
 ·have hz:decide (dig x=[])=false:=decide_eq_false (afv h0);refine SX.goM ?_;refine aew ?_;rw[hS,if_neg h0]
end
section
attribute [local irreducible] IntKind.wrap Go1 Reg WP aN aQ bM bI aL aC aj ah aT Sat
section
variable{l l':List Atom}{a:CA}{x y:Int}{n k m:Nat}
instance vD[h:ZI l x k]:Con Tryz.prog 15 [.agg l] (k≤1099511627775) (.v (.int .i64 (bO x))):=⟨fun h=>af0 h⟩
instance con_zNeg[h:ZI l x k]:Con Tryz.prog 198 [.agg l] (k≤1099511627775) (.agg (zN (-x))):=⟨fun h=>zNeg h⟩
instance wQ:Con Tryz.prog 6 [.v (.int .i64 x)] (-9223372036854775808≤x∧x≤9223372036854775807) (.agg (zN x)):=⟨fun h=>zOf x h.1 h.2⟩
instance aiZ[h:ZI l x k][h':ZI l' y m]:Con Tryz.prog 194 [.agg l,.agg l'] (k+m≤1099511627774) (.agg (zN (x+y))):=⟨fun h=>zAdd h⟩
instance con_zSub[h:ZI l x k][h':ZI l' y m]:Con Tryz.prog 161 [.agg l,.agg l'] (k+m≤1099511627774) (.agg (zN (x - y))):=⟨fun h=>zSub h⟩
instance con_zMul[h:ZI l x k][h':ZI l' y m]:Con Tryz.prog 202 [.agg l,.agg l'] (k+m≤274877906944) (.agg (zN (x*y))):=⟨fun h=>zMul h⟩
instance con_zCmp[h:ZI l x k][h':ZI l' y m]:Con Tryz.prog 88 [.agg l,.agg l'] (k+m≤1099511627774) (.v (.int .i64 (nZ x y))):=⟨fun h=>zCmp h⟩
instance ahx[h:ZI l x k][h':ZI l' y m]:Con Tryz.prog 48 [.agg l,.agg l'] (k+m≤1099511627774) (.v (.bool (decide (x=y)))):=⟨fun h=>zSame h⟩
instance dW[h:ZI l x k]:Con Tryz.prog 147 [.agg l] (k≤1099511627775) (.v (.int .i64 (bitLen x.natAbs:Int))):=⟨fun h=>zBits h⟩
instance aoO[h:ZI l x k][h':ZI l' y m]:Con Tryz.prog 199 [.agg l,.agg l'] (k+m≤1099511627760) (.tup [.agg (zN (fK x y)),.one (.c (.val (.bool (mX x y))))]):=⟨fun h=>aoE h⟩
instance akj[h:ZI l x k][h':ZI l' y m]:Con Tryz.prog 49 [.agg l,.agg l'] (k+m≤1099511627760) (.agg (zN (Int.gcd x y:Int))):=⟨fun h=>zGcd h⟩
instance aaW[h:NI a n k](neg:Bool):Con Tryz.prog 17 [.it (.one (.c a)),.v (.bool neg)] (k≤1099511627775) (.agg (zN (sgn neg n))):=⟨fun h=>oV neg h⟩
end
theorem abF(z:Int):bO z=0↔z=0:=by unfold bO;(repeat' split) <;> omega
theorem aeM(z:Int):bO z < 0↔z < 0:=by unfold bO;(repeat' split) <;> omega
def zS(z:Int):List UInt8:=if z < 0 then 45::aO z.natAbs else aO z.natAbs
theorem ac2{x k:Nat}(h:x < WB ^ k):(aO x).length≤20*k+1:=by
 unfold aO
 split
 ·simp
 ·have:WB ^ k≤10 ^ (20*k):=by rw[Nat.pow_mul];exact Nat.pow_le_pow_left (by rw[bY];decide) _
  have:=ab5 (Nat.lt_of_lt_of_le h this);omega
theorem akw{z:Int}{k:Nat}[h:Bd z k]:(zS z).length≤20*k+2:=by
 have:=ac2 h.h;unfold zS;split
 ·rw[List.length_cons];omega
 ·omega
instance qH{l:List Atom}{z:Int}{k:Nat}[h:ZI l z k]:Con Tryz.prog 5 [.agg l] (k≤1000000000) (.v (str (zS z))):=⟨fun hk=>by
 refine z1 ⟨_,Tryz.func5,rfl,rfl⟩ fun neg n hz hn=>?_
 subst hz;have hb:=(inferInstance:BdN n k).h;have cP:=aio (a:= .sat (abH n k)) hb hk;have hl:=ac2 hb;have hS:zS (sgn neg n)=if sgn neg n < 0 then 45::aO n else aO n:=by unfold zS;rw[gP]
 have hs:=aeM (sgn neg n);refine PureOK.fnF Tryz.func5 Tryz.results5 Tryz.ntmps5 rfl rfl rfl (by simp[AV.ids,AV0.ids,Atom.ids]) rfl (fun w0 T B E0 hB=>?_)
 by_cases h0:sgn neg n < 0
 ·refine SX.goM ?_;refine aew ?_;rw[hS,if_pos h0];rfl
 ·refine SX.goM ?_;refine aew ?_;rw[hS,if_neg h0]⟩
def rmk(x y:Int):Int×Int:=if y=0 then(0,1)else if y < 0 then(fK (-x) (Int.gcd (-x) (-y)),fK (-y) (Int.gcd (-x) (-y)))else(fK x (Int.gcd x y),fK y (Int.gcd x y))
abbrev rZ(q:Int×Int):List Atom:=[.c (.val (.bool (decide (q.1 < 0)))),.c (.sat (bC q.1.natAbs)),.c (.val (.bool (decide (q.2 < 0)))),.c (.sat (bC q.2.natAbs))]
instance Bd.ala(x y:Int)(k m:Nat)[h:Bd x k][h':Bd y m]:Bd (rmk x y).1 (k+m+1):=⟨by
 unfold rmk;repeat' split
 ·exact Bd.mono (Bd.zero).h (by omega)
 ·exact Bd.mono (Bd.fK (-x) _ k).h (by omega)
 ·exact Bd.mono (Bd.fK x _ k).h (by omega)⟩
instance Bd.ajC(x y:Int)(k m:Nat)[h:Bd x k][h':Bd y m]:Bd (rmk x y).2 (k+m+1):=⟨by
 unfold rmk;repeat' split
 ·exact Bd.mono (Bd.one).h (by omega)
 ·exact Bd.mono (Bd.fK (-y) _ m).h (by omega)
 ·exact Bd.mono (Bd.fK y _ m).h (by omega)⟩
instance pF{l:List Atom}{z:Int}{k:Nat}[h:ZI l z k]:Con Tryz.prog 226 [.agg l] (k≤1000000000) (.agg (rZ (z,1))):=⟨fun hk=>by
 refine z1 ⟨_,Tryz.func226,rfl,rfl⟩ fun neg n hz hn=>?_
 subst hz;refine PureOK.fnF Tryz.func226 Tryz.results226 Tryz.ntmps226 rfl rfl rfl (by simp[AV.ids,AV0.ids,Atom.ids]) rfl (fun w0 T B E0 hB=>?_)
 refine SX.goM ?_;exact qg (aj.uG rfl rfl rfl) rfl⟩
instance apW:Con Tryz.prog 197 [] True (.agg (rZ (0,1))):=⟨fun hk=>by
 refine PureOK.fnF Tryz.func197 Tryz.results197 Tryz.ntmps197 rfl rfl rfl (by simp[AV.ids,AV0.ids,Atom.ids]) rfl (fun w0 T B E0 hB=>?_)
 refine SX.goM ?_;exact qg (aj.uG rfl rfl rfl) rfl⟩
instance apX{l l':List Atom}{x y:Int}{k m:Nat}[h:ZI l x k][h':ZI l' y m]:Con Tryz.prog 155 [.agg l,.agg l'] (k+m≤1000000000) (.tup [.agg (rZ (rmk x y)),.one (.c (.val (.bool (decide (y≠0)))))]):=⟨fun hk=>by
 refine z2 ⟨_,Tryz.func155,rfl,rfl⟩ fun neg n neg2 n2 hz hz2 hn hn2=>?_
 subst hz;subst hz2;have hs0:=abF (sgn neg2 n2);have hsn:=aeM (sgn neg2 n2);refine PureOK.fnF Tryz.func155 Tryz.results155 Tryz.ntmps155 rfl rfl rfl (by simp[AV.ids,AV0.ids,Atom.ids]) rfl (fun w0 T B E0 hB=>?_)
 by_cases h0:sgn neg2 n2=0
 ·refine SX.goM ?_;have e:rmk (sgn neg n) (sgn neg2 n2)=(0,1):=by unfold rmk;rw[if_pos h0]
  rw[e];exact nW (aj.uG rfl rfl rfl) (aj.tmp rfl) (AV0.imp.refl _) (AV0.imp.of_eq (cb (by simp[h0])))
 ·by_cases h1:sgn neg2 n2 < 0
  ·refine SX.goM ?_;have e:rmk (sgn neg n) (sgn neg2 n2)=(fK (-sgn neg n) (Int.gcd (-sgn neg n) (-sgn neg2 n2)),fK (-sgn neg2 n2) (Int.gcd (-sgn neg n) (-sgn neg2 n2))):=by unfold rmk;rw[if_neg h0,if_pos h1]
   rw[e];exact nW (aj.uG rfl rfl rfl) (aj.tmp rfl) (AV0.imp.refl _) (AV0.imp.of_eq (cb (by simp[h0])))
  ·refine SX.goM ?_;have e:rmk (sgn neg n) (sgn neg2 n2)=(fK (sgn neg n) (Int.gcd (sgn neg n) (sgn neg2 n2)),fK (sgn neg2 n2) (Int.gcd (sgn neg n) (sgn neg2 n2))):=by unfold rmk;rw[if_neg h0,if_neg h1]
   rw[e];exact nW (aj.uG rfl rfl rfl) (aj.tmp rfl) (AV0.imp.refl _) (AV0.imp.of_eq (cb (by simp[h0])))⟩
theorem q1{f:FuncId}{r:AV}{x0 x1 x2 x3:Atom}{p q:Int}{k m:Nat}[h:ZI [x0,x1] p k][h':ZI [x2,x3] q m](he:∃fn,Tryz.prog.funcs[f]? =some fn∧(fn.name== "runtime.NumGoroutine")=false∧fn.body.isNone=false)
  (hf:∀neg n neg' n',p=sgn neg n→q=sgn neg' n'→BdN n k→BdN n' m→PureOK Tryz.prog f [.agg (zR neg n k++zR neg' n' m)] r):PureOK Tryz.prog f [.agg [x0,x1,x2,x3]] r:=by
 obtain⟨neg,n,hz,hm⟩:=h.h;obtain⟨neg',n',hz',hm'⟩:=h'.h;refine PureOK.fact (φ:=BdN n k∧BdN n' m) he (fun hb=>hf neg n neg' n' hz hz' hb.1 hb.2) fun E S w vs hv=>?_
 match vs,hv with
 |[_],⟨⟨[v0,v1,v2,v3],rfl,h0,h1,h2,h3,_⟩,_⟩=>
  have a1:=hm E S w _ ⟨[v0,v1],rfl,h0,h1,trivial⟩;have a2:=hm' E S w _ ⟨[v2,v3],rfl,h2,h3,trivial⟩;refine⟨⟨⟨[v0,v1,v2,v3],rfl,?_⟩,trivial⟩,⟨tK a1⟩,⟨tK a2⟩⟩;obtain⟨us,e1,b1⟩:=a1;obtain⟨us',e2,b2⟩:=a2
  match us,us',b1,b2 with
  |[_,_],[_,_],⟨c0,c1,_⟩,⟨d0,d1,_⟩=>
   cases e1;cases e2;exact⟨c0,c1,d0,d1,trivial⟩
theorem q2{f:FuncId}{r:AV}{x0 x1 x2 x3 y0 y1 y2 y3:Atom}{p q p' q':Int}{k m k' m':Nat}[h:ZI [x0,x1] p k][h':ZI [x2,x3] q m][g:ZI [y0,y1] p' k'][g':ZI [y2,y3] q' m'](he:∃fn,Tryz.prog.funcs[f]? =some fn∧(fn.name== "runtime.NumGoroutine")=false∧fn.body.isNone=false)
  (hf:∀neg n neg' n' neg2 n2 neg3 n3,p=sgn neg n→q=sgn neg' n'→p'=sgn neg2 n2→q'=sgn neg3 n3→BdN n k→BdN n' m→BdN n2 k'→BdN n3 m'→PureOK Tryz.prog f [.agg (zR neg n k++zR neg' n' m),.agg (zR neg2 n2 k'++zR neg3 n3 m')] r):PureOK Tryz.prog f [.agg [x0,x1,x2,x3],.agg [y0,y1,y2,y3]] r:=by
 obtain⟨neg,n,hz,hm⟩:=h.h;obtain⟨neg',n',hz',hm'⟩:=h'.h;obtain⟨neg2,n2,hz2,hm2⟩:=g.h;obtain⟨neg3,n3,hz3,hm3⟩:=g'.h;refine PureOK.fact (φ:=BdN n k∧BdN n' m∧BdN n2 k'∧BdN n3 m') he (fun hb=>hf neg n neg' n' neg2 n2 neg3 n3 hz hz' hz2 hz3 hb.1 hb.2.1 hb.2.2.1 hb.2.2.2) fun E S w vs hv=>?_
 match vs,hv with
 |[_,_],⟨⟨[v0,v1,v2,v3],rfl,h0,h1,h2,h3,_⟩,⟨[w0,w1,w2,w3],rfl,i0,i1,i2,i3,_⟩,_⟩=>
  have a1:=hm E S w _ ⟨[v0,v1],rfl,h0,h1,trivial⟩;have a2:=hm' E S w _ ⟨[v2,v3],rfl,h2,h3,trivial⟩;have a3:=hm2 E S w _ ⟨[w0,w1],rfl,i0,i1,trivial⟩;have a4:=hm3 E S w _ ⟨[w2,w3],rfl,i2,i3,trivial⟩;refine⟨⟨⟨[v0,v1,v2,v3],rfl,?_⟩,⟨[w0,w1,w2,w3],rfl,?_⟩,trivial⟩,⟨tK a1⟩,⟨tK a2⟩,⟨tK a3⟩,⟨tK a4⟩⟩
  ·obtain⟨us,e1,b1⟩:=a1;obtain⟨us',e2,b2⟩:=a2
   match us,us',b1,b2 with
   |[_,_],[_,_],⟨c0,c1,_⟩,⟨d0,d1,_⟩=>
    cases e1;cases e2;exact⟨c0,c1,d0,d1,trivial⟩
  ·obtain⟨us,e1,b1⟩:=a3;obtain⟨us',e2,b2⟩:=a4
   match us,us',b1,b2 with
   |[_,_],[_,_],⟨c0,c1,_⟩,⟨d0,d1,_⟩=>
    cases e1;cases e2;exact⟨c0,c1,d0,d1,trivial⟩
attribute [irreducible] rmk
section
variable{x0 x1 x2 x3 y0 y1 y2 y3:Atom}{p q r s:Int}{k m k' m':Nat}
abbrev qn(p q:Int):Int×Int:=rmk p q
instance apT[h:ZI [x0,x1] p k][h':ZI [x2,x3] q m]:Con Tryz.prog 102 [.agg [x0,x1,x2,x3]] (k+m≤1000000000) (.agg (rZ (rmk p q))):=⟨fun hk=>by
 refine q1 ⟨_,Tryz.func102,rfl,rfl⟩ fun neg n neg2 n2 hz hz2 hn hn2=>?_
 subst hz;subst hz2;refine PureOK.fnF Tryz.func102 Tryz.results102 Tryz.ntmps102 rfl rfl rfl (by simp[AV.ids,AV0.ids,Atom.ids]) rfl (fun w0 T B E0 hB=>?_)
 refine SX.goM ?_;exact qg (aj.uG rfl rfl rfl) rfl⟩
instance al4[h:ZI [x0,x1] p k][h':ZI [x2,x3] q m]:Con Tryz.prog 159 [.agg [x0,x1,x2,x3]] (k+m≤1000000000) (.agg (rZ (-(rmk p q).1,(rmk p q).2))):=⟨fun hk=>by
 refine q1 ⟨_,Tryz.func159,rfl,rfl⟩ fun neg n neg2 n2 hz hz2 hn hn2=>?_
 subst hz;subst hz2;refine PureOK.fnF Tryz.func159 Tryz.results159 Tryz.ntmps159 rfl rfl rfl (by simp[AV.ids,AV0.ids,Atom.ids]) rfl (fun w0 T B E0 hB=>?_)
 refine SX.goM ?_;exact qg (aj.uG rfl rfl rfl) rfl⟩
def bT(p q r s:Int):Int×Int:=rmk ((rmk p q).1*(rmk r s).2+(rmk r s).1*(rmk p q).2) ((rmk p q).2*(rmk r s).2)
def bU(p q r s:Int):Int×Int:=rmk ((rmk p q).1*(rmk r s).1) ((rmk p q).2*(rmk r s).2)
def bV(p q r s:Int):Int×Int:=rmk ((rmk p q).1*(rmk r s).2) ((rmk p q).2*(rmk r s).1)
instance akg[h:ZI [x0,x1] p k][h':ZI [x2,x3] q m][g:ZI [y0,y1] r k'][g':ZI [y2,y3] s m']:Con Tryz.prog 158 [.agg [x0,x1,x2,x3],.agg [y0,y1,y2,y3]] (k+m+k'+m'≤10000000) (.agg (rZ (bT p q r s))):=⟨fun hk=>by
 refine q2 ⟨_,Tryz.func158,rfl,rfl⟩ fun neg n neg2 n2 neg3 n3 neg4 n4 hz hz2 hz3 hz4 hn hn2 hn3 hn4=>?_
 subst hz;subst hz2;subst hz3;subst hz4;refine PureOK.fnF Tryz.func158 Tryz.results158 Tryz.ntmps158 rfl rfl rfl (by simp[AV.ids,AV0.ids,Atom.ids]) rfl (fun w0 T B E0 hB=>?_)
 refine SX.goM ?_;exact qg (aj.uG rfl rfl rfl) rfl⟩
end
end
section
attribute [local irreducible] IntKind.wrap Go1 Reg WP aN aQ bM bI aL aC aj ah aT Sat
attribute [local irreducible] aO zS
theorem aoJ(z:Int):0 < bO z↔0 < z:=by unfold bO;(repeat' split) <;> omega
theorem yQ:AV0.imp (.agg [.c (.val (.bool false)),.c (.val (.slice none 0 0))]) (.agg (zN 0)):=fun E S w v h=>by
 obtain⟨vs,rfl,hall⟩:=h
 match vs,hall with
 |[a,b],⟨h1,h2,_⟩=>
  have h2':b= .slice none 0 0:=h2;subst h2';exact⟨[a,_],rfl,h1,bC.zero,trivial⟩
def dz(p q r s:Int):Int×Int:=bT p q (-(rmk r s).1) (rmk r s).2
section
variable{x0 x1 x2 x3 y0 y1 y2 y3:Atom}{p q r s:Int}{k m k' m':Nat}
instance Bd.qadd1(p q r s:Int)(k m k' m':Nat)[Bd p k][Bd q m][Bd r k'][Bd s m']:Bd (bT p q r s).1 (3*(k+m+k'+m')+12):=⟨by unfold bT;exact Bd.mono (Bd.ala _ _ _ _).h (by omega)⟩
instance Bd.qadd2(p q r s:Int)(k m k' m':Nat)[Bd p k][Bd q m][Bd r k'][Bd s m']:Bd (bT p q r s).2 (3*(k+m+k'+m')+12):=⟨by unfold bT;exact Bd.mono (Bd.ajC _ _ _ _).h (by omega)⟩
instance Bd.qmul1(p q r s:Int)(k m k' m':Nat)[Bd p k][Bd q m][Bd r k'][Bd s m']:Bd (bU p q r s).1 (3*(k+m+k'+m')+12):=⟨by unfold bU;exact Bd.mono (Bd.ala _ _ _ _).h (by omega)⟩
instance Bd.qmul2(p q r s:Int)(k m k' m':Nat)[Bd p k][Bd q m][Bd r k'][Bd s m']:Bd (bU p q r s).2 (3*(k+m+k'+m')+12):=⟨by unfold bU;exact Bd.mono (Bd.ajC _ _ _ _).h (by omega)⟩
instance Bd.qquo1(p q r s:Int)(k m k' m':Nat)[Bd p k][Bd q m][Bd r k'][Bd s m']:Bd (bV p q r s).1 (3*(k+m+k'+m')+12):=⟨by unfold bV;exact Bd.mono (Bd.ala _ _ _ _).h (by omega)⟩
instance Bd.qquo2(p q r s:Int)(k m k' m':Nat)[Bd p k][Bd q m][Bd r k'][Bd s m']:Bd (bV p q r s).2 (3*(k+m+k'+m')+12):=⟨by unfold bV;exact Bd.mono (Bd.ajC _ _ _ _).h (by omega)⟩
instance ak4[h:ZI [x0,x1] p k][h':ZI [x2,x3] q m][g:ZI [y0,y1] r k'][g':ZI [y2,y3] s m']:Con Tryz.prog 353 [.agg [x0,x1,x2,x3],.agg [y0,y1,y2,y3]] (k+m+k'+m'≤10000000) (.agg (rZ (bU p q r s))):=⟨fun hk=>by
 refine q2 ⟨_,Tryz.func353,rfl,rfl⟩ fun neg n neg2 n2 neg3 n3 neg4 n4 hz hz2 hz3 hz4 hn hn2 hn3 hn4=>?_
 subst hz;subst hz2;subst hz3;subst hz4;refine PureOK.fnF Tryz.func353 Tryz.results353 Tryz.ntmps353 rfl rfl rfl (by simp[AV.ids,AV0.ids,Atom.ids]) rfl (fun w0 T B E0 hB=>?_)
 refine SX.goM ?_;exact qg (aj.uG rfl rfl rfl) rfl⟩
instance ak9[h:ZI [x0,x1] p k][h':ZI [x2,x3] q m][g:ZI [y0,y1] r k'][g':ZI [y2,y3] s m']:Con Tryz.prog 340 [.agg [x0,x1,x2,x3],.agg [y0,y1,y2,y3]] (k+m+k'+m'≤10000000) (.tup [.agg (rZ (bV p q r s)),.one (.c (.val (.bool (decide ((rmk p q).2*(rmk r s).1≠0)))))]):=⟨fun hk=>by
 refine q2 ⟨_,Tryz.func340,rfl,rfl⟩ fun neg n neg2 n2 neg3 n3 neg4 n4 hz hz2 hz3 hz4 hn hn2 hn3 hn4=>?_
 subst hz;subst hz2;subst hz3;subst hz4;refine PureOK.fnF Tryz.func340 Tryz.results340 Tryz.ntmps340 rfl rfl rfl (by simp[AV.ids,AV0.ids,Atom.ids]) rfl (fun w0 T B E0 hB=>?_)
 refine SX.goM ?_;exact nW (aj.uG rfl rfl rfl) (aj.tmp rfl) (AV0.imp.refl _) (AV0.imp.refl _)⟩
def dA(p q r s:Int):Int:=bO ((dz p q r s).1*(dz p q r s).2)
def oD(p q:Int):Int:=if(rmk p q).2=1 then(rmk p q).1 else 0
instance zK[h:ZI [x0,x1] p k][h':ZI [x2,x3] q m]:Con Tryz.prog 193 [.agg [x0,x1,x2,x3]] (k+m≤1000000) (.tup [.agg (zN (oD p q)),.one (.c (.val (.bool (decide ((rmk p q).2=1)))))]):=⟨fun hk=>by
 refine q1 ⟨_,Tryz.func193,rfl,rfl⟩ fun neg n neg2 n2 hz hz2 hn hn2=>?_
 subst hz;subst hz2;refine PureOK.fnF Tryz.func193 Tryz.results193 Tryz.ntmps193 rfl rfl rfl (by simp[AV.ids,AV0.ids,Atom.ids]) rfl (fun w0 T B E0 hB=>?_)
 by_cases h1:(rmk (sgn neg n) (sgn neg2 n2)).2=1
 ·refine SX.goM ?_;exact nW (aj.iW rfl rfl rfl) (aj.tmp rfl) (AV0.imp.of_eq (by unfold oD;rw[if_pos h1])) (AV0.imp.of_eq (cb (decide_eq_true h1).symm))
 ·refine SX.goM ?_;have e:oD (sgn neg n) (sgn neg2 n2)=0:=by unfold oD;rw[if_neg h1]
  rw[e];exact nW (aj.iW rfl rfl rfl) (aj.tmp rfl) yQ (AV0.imp.of_eq (cb (decide_eq_false h1).symm))⟩
def rS(q:Int×Int):List UInt8:=if q.2=1 then zS q.1 else zS q.1++[47]++zS q.2
instance aes[h:ZI [x0,x1] p k][h':ZI [x2,x3] q m]:Con Tryz.prog 53 [.agg [x0,x1,x2,x3]] (k+m≤1000000) (.v (str (rS (rmk p q)))):=⟨fun hk=>by
 refine q1 ⟨_,Tryz.func53,rfl,rfl⟩ fun neg n neg2 n2 hz hz2 hn hn2=>?_
 subst hz;subst hz2;have l1:=akw (z:=(rmk (sgn neg n) (sgn neg2 n2)).1);have l2:=akw (z:=(rmk (sgn neg n) (sgn neg2 n2)).2);refine PureOK.fnF Tryz.func53 Tryz.results53 Tryz.ntmps53 rfl rfl rfl (by simp[AV.ids,AV0.ids,Atom.ids]) rfl (fun w0 T B E0 hB=>?_)
 by_cases h1:(rmk (sgn neg n) (sgn neg2 n2)).2=1
 ·refine SX.goM ?_;refine aew ?_;unfold rS;rw[if_pos h1]
 ·refine SX.goM ?_;refine aew ?_;unfold rS;rw[if_neg h1]⟩
end
def isR(p q x y:Int):Prop:=(0 < q∧(Int.gcd p q:Int)=1)∧p*y=x*q
attribute [irreducible] isR
end
section
attribute [local irreducible] IntKind.wrap Go1 Reg WP aN aQ bM bI aL aC aj ah aT Sat
attribute [local irreducible] aO zS oD dz bU bV dA rS
theorem acD{x y:Int}(hy:y≠0)(h:y ∣ x):fK x y=x.tdiv y:=by
 have hz:pY x y=0:=by unfold pY;first|(rw[if_neg hy];exact Int.tmod_eq_zero_of_dvd h)|exact Int.tmod_eq_zero_of_dvd h
 unfold fK mX;rw[hz];simp[hy]
theorem zy{x y:Int}(hy:y≠0):0 < (rmk x y).2∧Int.gcd (rmk x y).1 (rmk x y).2=1∧(rmk x y).1*y=x*(rmk x y).2:=by
 have key:∀x y:Int,0 < y→0 < fK y (Int.gcd x y)∧Int.gcd (fK x (Int.gcd x y)) (fK y (Int.gcd x y))=1∧fK x (Int.gcd x y)*y=x*fK y (Int.gcd x y):=by
  intro x y hy;have hg:(Int.gcd x y:Int)≠0:=by
   have:=Int.gcd_ne_zero_right (a:=x) (b:=y) (by omega)
   omega
  have hgp:(0:Int) < Int.gcd x y:=by omega
  obtain⟨a,ha⟩:=Int.gcd_dvd_left x y;obtain⟨b,hb⟩:=Int.gcd_dvd_right x y;have e1:fK x (Int.gcd x y)=a:=by
   rw[acD hg (Int.gcd_dvd_left x y)]
   conv=>lhs;arg 1;rw[ha]
   exact Int.mul_tdiv_cancel_left _ hg
  have e2:fK y (Int.gcd x y)=b:=by
   rw[acD hg (Int.gcd_dvd_right x y)]
   conv=>lhs;arg 1;rw[hb]
   exact Int.mul_tdiv_cancel_left _ hg
  rw[e1,e2];generalize hG:Int.gcd x y=g at*;have hbp:0 < b:=by
   rw[hb]at hy;exact Int.pos_of_mul_pos_right hy (by omega)
  refine⟨hbp,?_,?_⟩
  ·have h1:Int.gcd ((g:Int)*a) ((g:Int)*b)=g*Int.gcd a b:=by rw[Int.gcd_mul_left];simp
   rw[←ha,←hb,hG]at h1;have hgn:0 < g:=by omega
   exact Nat.eq_of_mul_eq_mul_left hgn (by omega)
  ·rw[ha,hb];grind
 unfold rmk;rw[if_neg hy];by_cases h:y < 0
 ·rw[if_pos h];have:=key (-x) (-y) (by omega)
  refine⟨this.1,this.2.1,?_⟩;have h3:=this.2.2
  grind
 ·rw[if_neg h];exact key x y (by omega)
theorem y9(x:Int):rmk x 0=(0,1):=by unfold rmk;rfl
abbrev qW(b:Bool)(l:List Nat)(c:Bool)(m:List Nat):List Atom:=[.c (.val (.bool b)),.c (.sat (dQ l)),.c (.val (.bool c)),.c (.sat (dQ m))]
end
section
attribute [local irreducible] dz bU bV dA bT
def qv(p q:Int):Rat:=(p:Rat) / (q:Rat)
theorem c0{z:Int}(h:z≠0):(z:Rat)≠0:=fun e=>h (Rat.intCast_inj.1 e)
theorem aj7{a b c d:Int}(hb:b≠0)(hd:d≠0)(h:a*d=c*b):qv a b=qv c d:=by
 have h1:=c0 hb;have h2:=c0 hd;have h3:(a:Rat)*d=c*b:=by rw[←Rat.intCast_mul,←Rat.intCast_mul,h]
 unfold qv;grind
theorem lX(p q:Int):0 < (rmk p q).2:=by
 by_cases h:q=0
 ·rw[h,y9];decide
 ·exact(zy h).1
theorem wS(p q:Int):Int.gcd (rmk p q).1 (rmk p q).2=1:=by
 by_cases h:q=0
 ·rw[h,y9];decide
 ·exact(zy h).2.1
theorem iH(p q:Int):qv (rmk p q).1 (rmk p q).2=qv p q:=by
 by_cases h:q=0
 ·rw[h,y9];unfold qv;grind
 ·have hs:=zy (x:=p) h;exact aj7 (by omega) h hs.2.2
structure Rd(X:Int×Int)(v:Rat)(K:Nat):Prop where
 v:qv X.1 X.2=v
 d:0 < X.2
 g:Int.gcd X.1 X.2=1
 b1:Bd X.1 K
 b2:Bd X.2 K
theorem Rd.rmk{p q:Int}{k m K:Nat}{v:Rat}(h:Bd p k)(h':Bd q m)(hv:qv p q=v)(hK:k+m+1≤K):Rd (rmk p q) v K:=
 ⟨(iH p q).trans hv,lX p q,wS p q,⟨Bd.mono (Bd.ala p q k m).h hK⟩,⟨Bd.mono (Bd.ajC p q k m).h hK⟩⟩
class Ra(l:List Atom)(v:outParam Rat)(K:outParam Nat):Prop where
 h:∃x0 x1 x2 x3 p q k m,l=[x0,x1,x2,x3]∧ZI [x0,x1] p k∧ZI [x2,x3] q m∧k≤K∧m≤K∧Bd p k∧Bd q m∧qv p q=v
theorem Ra.raw{b c:Bool}{l m:List Nat}{K:Nat}(i1:BdN (nval WB l) l.length)(i2:BdN (nval WB m) m.length)(h1:l.length≤K)(h2:m.length≤K):Ra (qW b l c m) (qv (sgn b (nval WB l)) (sgn c (nval WB m))) K:=
 ⟨_,_,_,_,_,_,_,_,rfl,inferInstance,inferInstance,h1,h2,inferInstance,inferInstance,rfl⟩
section
variable{l l':List Atom}{v v':Rat}{K K':Nat}
theorem ajW{a b c d:Int}:qv (a*d) (b*c)=qv a b / qv c d:=by
 unfold qv;rw[Rat.intCast_mul,Rat.intCast_mul];grind
theorem aiY{a b c d:Int}:qv (a*c) (b*d)=qv a b*qv c d:=by
 unfold qv;rw[Rat.intCast_mul,Rat.intCast_mul];grind
theorem aoD{a b c d:Int}(hb:b≠0)(hd:d≠0):qv (a*d+c*b) (b*d)=qv a b+qv c d:=by
 have h1:=c0 hb;have h2:=c0 hd;unfold qv;rw[Rat.intCast_add,Rat.intCast_mul,Rat.intCast_mul,Rat.intCast_mul];grind
theorem aoz{a b:Int}:qv (-a) b= -qv a b:=by
 unfold qv;rw[Rat.intCast_neg];grind
theorem akE(p q r s:Int):qv (bT p q r s).1 (bT p q r s).2=qv p q+qv r s:=by
 have h1:=lX p q;have h2:=lX r s;unfold bT;rw[iH,aoD (by omega) (by omega),iH,iH]
theorem akc(p q r s:Int):qv (bU p q r s).1 (bU p q r s).2=qv p q*qv r s:=by
 unfold bU;rw[iH,aiY,iH,iH]
theorem aiM(p q r s:Int):qv (bV p q r s).1 (bV p q r s).2=qv p q / qv r s:=by
 unfold bV;rw[iH,ajW,iH,iH]
theorem ahh(p q r s:Int):∃x y,bT p q r s=rmk x y:=⟨_,_,by unfold bT;rfl⟩
theorem agJ(p q r s:Int):∃x y,bU p q r s=rmk x y:=⟨_,_,by unfold bU;rfl⟩
theorem af6(p q r s:Int):∃x y,bV p q r s=rmk x y:=⟨_,_,by unfold bV;rfl⟩
theorem mk_pos{X:Int×Int}(h:∃x y,X=rmk x y):0 < X.2∧Int.gcd X.1 X.2=1:=by
 obtain⟨x,y,rfl⟩:=h;exact⟨lX x y,wS x y⟩
theorem ams{a b:Int}:(bO (a*b)=0↔qv a b=0)∧(bO (a*b) < 0↔qv a b < 0):=by
 have key:∀a b:Int,0 < b→(a*b=0↔qv a b=0)∧(a*b < 0↔qv a b < 0):=by
  intro a b hb;have h1:(0:Rat) < b:=by rw[show (0:Rat)=((0:Int):Rat)from rfl];exact Rat.intCast_lt_intCast.2 hb
  have ea:(a:Rat)=qv a b*b:=by unfold qv;grind
  constructor
  ·rw[Int.mul_eq_zero];constructor
   ·rintro(h|h)
    ·unfold qv;rw[h];grind
    ·omega
   ·intro h;rw[h]at ea;left;exact Rat.intCast_inj.1 (by rw[ea];grind)
  ·have hneg:a*b < 0↔a < 0:=by
    constructor
    ·intro h;exact Decidable.byContradiction fun hn=>by
      have:=Int.mul_nonneg (show 0≤a by omega) (show 0≤b by omega)
      omega
    ·intro h;exact Int.mul_neg_of_neg_of_pos h hb
   have ha:a < 0↔(a:Rat) < 0:=by rw[show (0:Rat)=((0:Int):Rat)from rfl,Rat.intCast_lt_intCast]
   rw[hneg,ha,ea];generalize qv a b=v at*;generalize (b:Rat)=c at*;constructor
   ·intro h;exact Decidable.byContradiction fun hn=>by
     have:=Rat.mul_nonneg (show 0≤v by grind) (show 0≤c by grind)
     grind
   ·intro h;have:=Rat.mul_pos (show 0 < -v by grind) h1
    grind
 have hn:bO (a*b) < 0↔a*b < 0:=aeM _;have hz:bO (a*b)=0↔a*b=0:=abF _;rw[hn,hz];by_cases hb:b=0
 ·subst hb;have:qv a 0=0:=by unfold qv;grind
  rw[this];simp
 ·by_cases hb0:0 < b
  ·exact key a b hb0
  ·have h:=key (-a) (-b) (by omega)
   have e:qv (-a) (-b)=qv a b:=aj7 (by omega) hb (by grind)
   rw[e,show -a* -b=a*b by grind]at h
   exact h
theorem eAdd(l l':List Atom)[a:Ra l v K][b:Ra l' v' K'](h:K+K'≤1000000):∃X,PureOK Tryz.prog 158 [.agg l,.agg l'] (.agg (rZ X))∧Rd X (v+v') (6*(K+K')+20):=by
 obtain⟨x0,x1,x2,x3,p,q,k,m,rfl,z1,z2,hk,hm,b1,b2,hv⟩:=a.h;obtain⟨y0,y1,y2,y3,r,s,k',m',rfl,z3,z4,hk',hm',b3,b4,hv'⟩:=b.h;exact⟨_,(akg (h:=z1) (h':=z2) (g:=z3) (g':=z4)).h (by omega),⟨by rw[akE,hv,hv'],(mk_pos (ahh ..)).1,(mk_pos (ahh ..)).2,⟨Bd.mono (Bd.qadd1 p q r s k m k' m').h (by omega)⟩,⟨Bd.mono (Bd.qadd2 p q r s k m k' m').h (by omega)⟩⟩⟩
theorem eMul(l l':List Atom)[a:Ra l v K][b:Ra l' v' K'](h:K+K'≤1000000):∃X,PureOK Tryz.prog 353 [.agg l,.agg l'] (.agg (rZ X))∧Rd X (v*v') (6*(K+K')+20):=by
 obtain⟨x0,x1,x2,x3,p,q,k,m,rfl,z1,z2,hk,hm,b1,b2,hv⟩:=a.h;obtain⟨y0,y1,y2,y3,r,s,k',m',rfl,z3,z4,hk',hm',b3,b4,hv'⟩:=b.h;exact⟨_,(ak4 (h:=z1) (h':=z2) (g:=z3) (g':=z4)).h (by omega),⟨by rw[akc,hv,hv'],(mk_pos (agJ ..)).1,(mk_pos (agJ ..)).2,⟨Bd.mono (Bd.qmul1 p q r s k m k' m').h (by omega)⟩,⟨Bd.mono (Bd.qmul2 p q r s k m k' m').h (by omega)⟩⟩⟩
theorem eQuo(l l':List Atom)[a:Ra l v K][b:Ra l' v' K'](h:K+K'≤1000000):∃X ok,PureOK Tryz.prog 340 [.agg l,.agg l'] (.tup [.agg (rZ X),.one (.c (.val (.bool ok)))])∧Rd X (v / v') (6*(K+K')+20)∧(ok=true↔v'≠0):=by
 obtain⟨x0,x1,x2,x3,p,q,k,m,rfl,z1,z2,hk,hm,b1,b2,hv⟩:=a.h;obtain⟨y0,y1,y2,y3,r,s,k',m',rfl,z3,z4,hk',hm',b3,b4,hv'⟩:=b.h;refine⟨_,_,(ak9 (h:=z1) (h':=z2) (g:=z3) (g':=z4)).h (by omega),⟨by rw[aiM,hv,hv'],(mk_pos (af6 ..)).1,(mk_pos (af6 ..)).2,⟨Bd.mono (Bd.qquo1 p q r s k m k' m').h (by omega)⟩,⟨Bd.mono (Bd.qquo2 p q r s k m k' m').h (by omega)⟩⟩,?_⟩
 have h1:=lX p q;have h2:=lX r s;rw[decide_eq_true_iff,←hv',←iH r s];have e:qv (rmk r s).1 (rmk r s).2=0↔(rmk r s).1=0:=by
  have:=(ams (a:=(rmk r s).1) (b:=(rmk r s).2)).1;rw[←this,abF,Int.mul_eq_zero];omega
 rw[Ne,Ne,e,Int.mul_eq_zero];omega
theorem eNeg(l:List Atom)[a:Ra l v K](h:K≤400000):∃X,PureOK Tryz.prog 159 [.agg l] (.agg (rZ X))∧Rd X (-v) (2*K+1):=by
 obtain⟨x0,x1,x2,x3,p,q,k,m,rfl,z1,z2,hk,hm,b1,b2,hv⟩:=a.h;exact⟨_,(al4 (h:=z1) (h':=z2)).h (by omega),⟨by show qv (-(rmk p q).1) (rmk p q).2=_;rw[aoz,iH,hv],lX p q,by show Int.gcd (-(rmk p q).1) _=1;rw[Int.neg_gcd];exact wS p q,⟨by show (-(rmk p q).1).natAbs < _;rw[Int.natAbs_neg];exact Bd.mono (Bd.ala p q k m).h (by omega)⟩,⟨Bd.mono (Bd.ajC p q k m).h (by omega)⟩⟩⟩
end
end
section
attribute [local irreducible] IntKind.wrap Go1 Reg WP aN aQ bM bI aL aC aj ah aT Sat
attribute [local irreducible] dz bU bV dA bT qv
section
theorem qv_lt{n d m e:Int}(hd:0 < d)(he:0 < e):(qv n d < qv m e↔n*e < m*d)∧(qv n d=qv m e↔n*e=m*d):=by
 have hd':(0:Rat) < d:=by rw[show (0:Rat)=((0:Int):Rat)from rfl];exact Rat.intCast_lt_intCast.2 hd
 have he':(0:Rat) < e:=by rw[show (0:Rat)=((0:Int):Rat)from rfl];exact Rat.intCast_lt_intCast.2 he
 have en:(n:Rat)=qv n d*d:=by unfold qv;grind
 have em:(m:Rat)=qv m e*e:=by unfold qv;grind
 have hde:=Rat.mul_pos hd' he';constructor
 ·rw[←Rat.intCast_lt_intCast (a:=n*e),Rat.intCast_mul,Rat.intCast_mul,en,em];generalize qv n d=v at*;generalize qv m e=u at*;constructor
  ·intro h;have:=Rat.mul_pos (show 0 < u - v by grind) hde
   grind
  ·intro h;exact Decidable.byContradiction fun hn=>by
    have:=Rat.mul_nonneg (show 0≤v - u by grind) (show (0:Rat)≤(d:Rat)*e by grind)
    grind
 ·rw[←Rat.intCast_inj (a:=n*e),Rat.intCast_mul,Rat.intCast_mul,en,em];generalize qv n d=v at*;generalize qv m e=u at*;constructor
  ·intro h;rw[h];grind
  ·intro h;have h0:(v - u)*((d:Rat)*e)=0:=by grind
   rcases Rat.mul_eq_zero.1 h0 with h1|h1
   ·grind
   ·rw[h1]at hde;grind
attribute [local irreducible] bO nZ sgn
end
section
theorem Rd.uniq{p q r s:Int}(h1:0 < q)(g1:Int.gcd p q=1)(h2:0 < s)(g2:Int.gcd r s=1)(hv:qv p q=qv r s):p=r∧q=s:=by
 have he:=(qv_lt (n:=p) (m:=r) h1 h2).2.1 hv;have d1:q ∣ s:=by
  have:q ∣ p*s:=⟨r,by rw[he,Int.mul_comm]⟩
  exact Int.natAbs_dvd_natAbs.1 (Nat.Coprime.dvd_of_dvd_mul_left (show Nat.gcd q.natAbs p.natAbs=1 by rw[Nat.gcd_comm];exact g1) (by rw[←Int.natAbs_mul];exact Int.natAbs_dvd_natAbs.2 this))
 have d2:s ∣ q:=by
  have:s ∣ r*q:=⟨p,by rw[←he,Int.mul_comm]⟩
  exact Int.natAbs_dvd_natAbs.1 (Nat.Coprime.dvd_of_dvd_mul_left (show Nat.gcd s.natAbs r.natAbs=1 by rw[Nat.gcd_comm];exact g2) (by rw[←Int.natAbs_mul];exact Int.natAbs_dvd_natAbs.2 this))
 have e:q=s:=Int.dvd_antisymm (by omega) (by omega) d1 d2
 subst e;exact⟨Int.eq_of_mul_eq_mul_right (by omega) he,rfl⟩
attribute [local irreducible] ahb agP sgn bO
section
variable{x0 x1 x2 x3:Atom}{p q:Int}{k m:Nat}
end
end
end
section
attribute [local irreducible] dz bU bV dA bT
abbrev qC(v:Rat):List CA:=[.val (.bool (decide (v.num < 0))),.sat (bC v.num.natAbs),.val (.bool (decide ((v.den:Int) < 0))),.sat (bC (v.den:Int).natAbs)]
abbrev qA(v:Rat):List Atom:=[.c (.val (.bool (decide (v.num < 0)))),.c (.sat (bC v.num.natAbs)),.c (.val (.bool (decide ((v.den:Int) < 0)))),.c (.sat (bC (v.den:Int).natAbs))]
theorem oM(v:Rat):(v.den:Int)≠0:=by have:=v.den_nz;omega
theorem iT(v:Rat):qv v.num v.den=v:=by
 unfold qv;rw[←Rat.divInt_eq_div];exact Rat.num_divInt_den v
theorem alI{p q:Int}{v:Rat}(hq:q≠0)(h:qv p q=v):v.num*q=p*v.den:=by
 have h2:=iT v;have d1:=c0 hq;have d2:=c0 (oM v);unfold qv at h h2;apply Rat.intCast_inj.1
 rw[Rat.intCast_mul,Rat.intCast_mul];generalize ((v.den:Int):Rat)=d at*;generalize ((v.num:Int):Rat)=n at*;generalize (p:Rat)=a at*;generalize (q:Rat)=b at*;subst h2
 grind
theorem ado{p q:Int}{v:Rat}(hq:q≠0)(h:qv p q=v):∃c:Int,q=c*v.den∧p=c*v.num:=by
 have hx:=alI hq h;have hc:Nat.Coprime v.num.natAbs v.den:=v.reduced;have hd:(v.den:Int) ∣ v.num*q:=⟨p,by rw[hx];exact Int.mul_comm _ _⟩
 have hd2:v.den ∣ q.natAbs:=by
  have h1:v.den ∣ (v.num*q).natAbs:=Int.natAbs_natCast v.den▸(Int.natAbs_dvd_natAbs.2 hd);rw[Int.natAbs_mul]at h1;exact hc.symm.dvd_of_dvd_mul_left h1
 obtain⟨c,hcq⟩:(v.den:Int) ∣ q:=Int.natAbs_dvd_natAbs.1 (by rw[Int.natAbs_natCast];exact hd2)
 refine⟨c,by rw[hcq];exact Int.mul_comm _ _,?_⟩
 rw[hcq]at hx;have h0:=oM v;have:(v.den:Int)*(v.num*c)=(v.den:Int)*p:=by grind
 have:=Int.eq_of_mul_eq_mul_left h0 this
 grind
structure RB(v:Rat)(K:Nat):Prop where
 n:v.num.natAbs < WB ^ K
 d:v.den < WB ^ K
theorem RB.of{p q:Int}{v:Rat}{K:Nat}(hq:q≠0)(h:qv p q=v)(h1:p.natAbs < WB ^ K)(h2:q.natAbs < WB ^ K):RB v K:=by
 obtain⟨c,e1,e2⟩:=ado hq h;have hc:1≤c.natAbs:=by
  rcases Nat.eq_zero_or_pos c.natAbs with h|h
  ·have:c=0:=by omega
   subst this;rw[Int.zero_mul]at e1;exact absurd e1 hq
  ·exact h
 have a1:q.natAbs=c.natAbs*v.den:=by rw[e1,Int.natAbs_mul,Int.natAbs_natCast]
 have a2:p.natAbs=c.natAbs*v.num.natAbs:=by rw[e2,Int.natAbs_mul]
 have b1:=Nat.mul_le_mul_right v.den hc;have b2:=Nat.mul_le_mul_right v.num.natAbs hc;exact⟨by omega,by omega⟩
theorem ajg(K:Nat):1≤WB ^ K:=Nat.pow_pos aU
theorem gT{a b K L:Nat}(h1:a < WB ^ K)(h2:b < WB ^ L):a*b < WB ^ (K+L):=by
 rw[Nat.pow_add];have:=Nat.mul_le_mul (show a≤WB ^ K - 1 by omega) (show b≤WB ^ L - 1 by omega)
 have p1:=ajg K;have p2:=ajg L;refine Nat.lt_of_le_of_lt this ?_;have h3:(WB ^ K - 1)*(WB ^ L - 1)≤(WB ^ K - 1)*WB ^ L:=Nat.mul_le_mul_left _ (Nat.sub_le _ _);have h4:(WB ^ K - 1)*WB ^ L < WB ^ K*WB ^ L:=(Nat.mul_lt_mul_right (by omega)).2 (by omega)
 omega
theorem apt(K:Nat):2*WB ^ K≤WB ^ (K+1):=by
 rw[Nat.pow_succ,Nat.mul_comm];exact Nat.mul_le_mul_left _ (by rw[bY];decide)
theorem RB.mul{u v:Rat}{K L:Nat}(h:RB u K)(k:RB v L):RB (u*v) (K+L):=by
 refine RB.of (p:=u.num*v.num) (q:=u.den*v.den) (Int.mul_ne_zero (oM u) (oM v)) ?_ ?_ ?_
 ·rw[aiY,iT,iT]
 ·rw[Int.natAbs_mul];exact gT h.n k.n
 ·rw[Int.natAbs_mul,Int.natAbs_natCast,Int.natAbs_natCast];exact gT h.d k.d
theorem RB.zero{K:Nat}(hK:1≤K):RB 0 K:=by
 have h:WB ^ 1≤WB ^ K:=Nat.pow_le_pow_right aU hK;rw[Nat.pow_one]at h;have:=bY;exact⟨by show (0:Nat) < _;omega,by show (1:Nat) < _;omega⟩
theorem RB.div{u v:Rat}{K L:Nat}(h:RB u K)(k:RB v L)(hv:v≠0):RB (u / v) (K+L):=by
 have hn:v.num≠0:=fun e=>hv (Rat.num_eq_zero.1 e)
 refine RB.of (p:=u.num*v.den) (q:=u.den*v.num) (Int.mul_ne_zero (oM u) hn) ?_ ?_ ?_
 ·rw[ajW,iT,iT]
 ·rw[Int.natAbs_mul,Int.natAbs_natCast];exact gT h.n k.d
 ·rw[Int.natAbs_mul,Int.natAbs_natCast];exact gT h.d k.n
theorem RB.ra{v:Rat}{K:Nat}(h:RB v K):Ra (qA v) v K:=
 ⟨_,_,_,_,v.num,(v.den:Int),K,K,rfl,(haveI:Bd v.num K:=⟨h.n⟩;inferInstance),(haveI:Bd (v.den:Int) K:=⟨by rw[Int.natAbs_natCast];exact h.d⟩;inferInstance),Nat.le_refl _,Nat.le_refl _,⟨h.n⟩,⟨by rw[Int.natAbs_natCast];exact h.d⟩,iT v⟩
theorem Rd.nf{X:Int×Int}{v:Rat}{K:Nat}(h:Rd X v K):X=(v.num,(v.den:Int)):=by
 obtain⟨p,q⟩:=X;have hq:q≠0:=by have:=h.d;dsimp only at this;omega
 obtain⟨c,e1,e2⟩:=ado hq (show qv p q=v from h.v)
 have hg:Int.gcd p q=1:=h.g;have hc1:c.natAbs ∣ Int.gcd p q:=Nat.dvd_gcd (by rw[e2,Int.natAbs_mul];exact Nat.dvd_mul_right _ _) (by rw[e1,Int.natAbs_mul];exact Nat.dvd_mul_right _ _)
 rw[hg]at hc1;have hca:c.natAbs=1:=Nat.dvd_one.1 hc1;have hpos:0 < q:=h.d;have hden:0 < (v.den:Int):=by have:=v.den_nz;omega
 have hc:c=1:=by
  rcases Int.natAbs_eq_iff.1 hca with h|h
  ·exact h
  ·subst h;rw[e1]at hpos;simp at hpos;omega
 subst hc;rw[Int.one_mul]at e1 e2;rw[e1,e2]
section
variable{l l':List Atom}{v v':Rat}{K K':Nat}
instance con_qAdd[a:Ra l v K][b:Ra l' v' K']:Con Tryz.prog 158 [.agg l,.agg l'] (K+K'≤1000000) (.agg (qA (v+v'))):=⟨fun h=>by
 obtain⟨X,c,r⟩:=eAdd l l' h;rw[r.nf]at c;exact c⟩
instance ajE[a:Ra l v K][b:Ra l' v' K']:Con Tryz.prog 353 [.agg l,.agg l'] (K+K'≤1000000) (.agg (qA (v*v'))):=⟨fun h=>by
 obtain⟨X,c,r⟩:=eMul l l' h;rw[r.nf]at c;exact c⟩
instance ac9[a:Ra l v K][b:Ra l' v' K']:Con Tryz.prog 340 [.agg l,.agg l'] (K+K'≤1000000) (.tup [.agg (qA (v / v')),.one (.c (.val (.bool (decide (v'≠0)))))]):=⟨fun h=>by
 obtain⟨X,ok,c,r,ho⟩:=eQuo l l' h;have e:ok=decide (v'≠0):=by
  cases ok with
  |true=>exact(decide_eq_true (ho.1 rfl)).symm
  |false=>exact(decide_eq_false fun hn=>by have:=ho.2 hn;cases this).symm
 rw[r.nf,e]at c;exact c⟩
end
end
section
attribute [local irreducible] IntKind.wrap Go1 Reg WP aN aQ bM bI aL aC aj ah aT Sat
attribute [local irreducible] dz bU bV dA bT qv
instance aqa:Con Tryz.prog 333 [] True (.agg (qA 0)):=⟨fun _=>by
 refine PureOK.fnF Tryz.func333 Tryz.results333 Tryz.ntmps333 rfl rfl rfl (by simp[AV.ids,AV0.ids,Atom.ids]) rfl (fun w0 T B E0 hB=>?_)
 refine SX.goM ?_;exact qg (aj.uG rfl rfl rfl) rfl⟩
def tkL(r s:List Rat)(f:Rat)(k:Nat):List Rat:=(List.zipWith (fun a b=>a - f*b) (r.take k) (s.take k))++r.drop k
def kC(c:Nat)(val:Nat→Nat→Rat)(i:Nat):List Rat:=(List.range i).flatMap fun i=>(List.range c).map (val i)
theorem ais{c:Nat}{val:Nat→Nat→Rat}:kC c val 0=[]:=rfl
theorem uR{c i:Nat}{val:Nat→Nat→Rat}:kC c val (i+1)=kC c val i++(List.range c).map (val i):=by
 unfold kC;rw[List.range_succ,List.flatMap_append];simp
theorem lu{c:Nat}{val:Nat→Nat→Rat}:∀i,(kC c val i).length=i*c
 |0=>by simp[ais]
 |i+1=>by rw[uR,List.length_append,lu i];simp[Nat.succ_mul]
def zY(val:Nat→Nat→Rat)(i k:Nat):List Rat:=(List.range k).map (val i)
theorem ahr{val:Nat→Nat→Rat}{i k:Nat}:zY val i (k+1)=zY val i k++[val i k]:=by
 unfold zY;rw[List.range_succ,List.map_append];rfl
abbrev Q4:=Bool×Rep×Bool×Rep
abbrev q4A(q:Q4):List Atom:=[.c (.val (.bool q.1)),.c (.sat q.2.1),.c (.val (.bool q.2.2.1)),.c (.sat q.2.2.2)]
abbrev ahY(r c:Nat)(l:List Rat):List Atom:=[.c (.val (.int .i64 (r:Int))),.c (.val (.int .i64 (c:Int))),.c (.sat (aF 4 qC l))]
theorem adD(r c:Nat)(x:CA)(L:Nat→Nat→Q4)(val:Nat→Nat→Rat)(K:Nat)(hr:r≤100)(hc:c≤100)(hK:K+1≤1000000)
  (hx:∀i k,i < r→k < c→FnV Tryz.prog x [.v (.int .i64 (i:Int)),.v (.int .i64 (k:Int))] (.agg (q4A (L i k)))) (hL:∀i k,i < r→k < c→Ra (q4A (L i k)) (val i k) K) (hx1:x.dS=true):
  PureOK Tryz.prog 351 [.v (.int .i64 (r:Int)),.v (.int .i64 (c:Int)),.it (.one (.c x))] (.agg (ahY r c (kC c val r))):=by
 have iz:Ra (qA 0) 0 1:=(RB.zero (Nat.le_refl 1)).ra;refine PureOK.fnF Tryz.func351 Tryz.results351 Tryz.ntmps351 rfl rfl rfl (by simp[AV.ids,AV0.ids,Atom.ids]) rfl (fun w0 T B E0 hB=>?_)
 refine SX.goM ?_;refine W.loop (fun i=>i≤r) (fun i=>[(1,.v (.int .i64 (c:Int))),(2,.it (.one (.c x))),(6,.ptr 6 0),(7,.ptr 7 0),(13,.v (.int .i64 (r:Int))),(14,.v (.int .i64 (i:Int)))]) (fun i=>[(6,.box 41 [.c (.val (.int .i64 0)),.c (.val (.int .i64 0)),.c (.val (.slice none 0 0))]),(7,.box 41 [.c (.val (.int .i64 (r:Int))),.c (.val (.int .i64 (c:Int))),.own 100]),(100,.row 38 4 (i*c) ((kC c val i).flatMap qC))]) (fun i=>r - i) 0 (Nat.zero_le _) (fun i hi=>?_)
  (by
   refine SX.St.bG [(100,none)] (by intro b h;cases h) ?_ ?_ rfl
   ·repeat(first|exact trivial|refine⟨⟨_,rfl,SX.aG.same rfl⟩,?_⟩)
   ·exact⟨SX.ak.same rfl rfl,SX.ak.mK rfl rfl ⟨aA.same rfl,aA.same rfl,aA.nil rfl,trivial⟩,by rw[Nat.zero_mul];exact SX.ak.dL rfl,trivial⟩)
 by_cases h:i < r
 ·refine SX.goM ?_;refine W.loop (fun k=>k≤c) (fun k=>[(1,.v (.int .i64 (c:Int))),(2,.it (.one (.c x))),(6,.ptr 6 0),(7,.ptr 7 0),(8,.v (.int .i64 (i:Int))),(13,.v (.int .i64 (r:Int))),(14,.v (.int .i64 (i:Int))),(17,.v (.int .i64 (c:Int))),(18,.v (.int .i64 (k:Int)))]) (fun k=>[(6,.box 41 [.c (.val (.int .i64 0)),.c (.val (.int .i64 0)),.c (.val (.slice none 0 0))]),(7,.box 41 [.c (.val (.int .i64 (r:Int))),.c (.val (.int .i64 (c:Int))),.own 100]),(100,.row 38 4 (i*c+k) ((kC c val i++zY val i k).flatMap qC))]) (fun k=>c - k) 0 (Nat.zero_le _) (fun k hk=>?_)
   (by
    have e:Ent.row 38 4 (i*c) ((kC c val i).flatMap qC)=Ent.row 38 4 (i*c+0) ((kC c val i++zY val i 0).flatMap qC):=by simp[zY]
    refine SX.St.bG [] (by intro b h;cases h) ?_ ?_ rfl
    ·repeat(first|exact trivial|refine⟨⟨_,rfl,SX.aG.same rfl⟩,?_⟩)
    ·exact⟨SX.ak.same rfl rfl,SX.ak.same rfl rfl,SX.ak.eq rfl e rfl,trivial⟩)
  by_cases h2:k < c
  ·have hf:=hx i k h h2;have ir:=hL i k h h2;have hlen:i*c+k≤20000:=by
    have:=Nat.mul_le_mul (show i≤100 by omega) hc
    omega
   refine SX.goM ?_;refine W.next (k+1) h2 (by omega) (by
    have e2:(kC c val i++zY val i k).flatMap qC++qC (val i k+0)=(kC c val i++zY val i (k+1)).flatMap qC:=by
     rw[Rat.add_zero,ahr,←List.append_assoc,List.flatMap_append (xs:=kC c val i++zY val i k)];simp
    refine SX.St.bG [(100,some 30)] (by intro b h;cases h) ?_ ?_ rfl
    ·repeat(first|exact trivial|refine⟨⟨_,rfl,SX.aG.same rfl⟩,?_⟩)
    ·exact⟨SX.ak.same rfl rfl,SX.ak.mK rfl rfl ⟨aA.same rfl,aA.same rfl,aA.own rfl,trivial⟩,SX.ak.row rfl rfl (by omega) e2,trivial⟩)
  ·obtain rfl:k=c:=by omega
   refine SX.goM ?_;refine W.next (i+1) h (by omega) (by
    have e2:Ent.row 38 4 (i*k+k) ((kC k val i++zY val i k).flatMap qC)=Ent.row 38 4 ((i+1)*k) ((kC k val (i+1)).flatMap qC):=by rw[Nat.succ_mul,uR];rfl
    refine SX.St.bG [] (by intro b h;cases h) ?_ ?_ rfl
    ·repeat(first|exact trivial|refine⟨⟨_,rfl,SX.aG.same rfl⟩,?_⟩)
    ·exact⟨SX.ak.same rfl rfl,SX.ak.same rfl rfl,SX.ak.eq rfl e2 rfl,trivial⟩)
 ·obtain rfl:i=r:=by omega
  refine SX.goM ?_;have hm:ahY i c (kC c val i)=[.c (.val (.int .i64 (i:Int))),.c (.val (.int .i64 (c:Int))),.c (.sat (aM 4 (i*c) ((kC c val i).flatMap qC)))]:=by
   show [_,_,Atom.c (.sat (aM 4 (kC c val i).length _))]=_;rw[lu]
  rw[hm];refine aL.frz 100 ?_;exact qg (aj.aX rfl rfl rfl) rfl
abbrev q4C(q:Q4):List CA:=[.val (.bool q.1),.sat q.2.1,.val (.bool q.2.2.1),.sat q.2.2.2]
instance:eB q4C 4:=⟨fun _=>rfl⟩
abbrev aad(r c:Nat)(l:List Q4):List Atom:=[.c (.val (.int .i64 (r:Int))),.c (.val (.int .i64 (c:Int))),.c (.sat (aF 4 q4C l))]
structure MV(l:List Q4)(vs:List Rat)(K:Nat):Prop where
 len:l.length=vs.length
 ra:∀(i:Nat) q v,l[i]? =some q→vs[i]? =some v→Ra (q4A q) v K
instance yh(r c:Int){n:Nat}{cells:List CA}:Con Tryz.prog 92 [.agg [.c (.val (.int .i64 r)),.c (.val (.int .i64 c)),.c (.sat (aM 4 n cells))]] True (.v (.bool (decide (0≤r∧r≤64∧0≤c∧c≤64∧(n:Int)=r*c)))):=⟨fun _=>by
 refine PureOK.fnF Tryz.func92 Tryz.results92 Tryz.ntmps92 rfl rfl rfl (by simp[AV.ids,AV0.ids,Atom.ids]) rfl (fun w0 T B E0 hB=>?_)
 by_cases h1:r≥0
 ·by_cases h2:r≤64
  ·by_cases h3:c≥0
   ·by_cases h4:c≤64
    ·have hp:0≤r*c:=Int.mul_nonneg h1 h3;have hp2:r*c≤64*64:=Int.mul_le_mul h2 h4 h3 (by decide)
     refine SX.goM ?_;refine bK ?_;rw[decide_eq_decide];exact⟨fun h=>⟨h1,h2,h3,h4,h⟩,fun h=>h.2.2.2.2⟩
    ·refine SX.goM ?_;refine bK ?_;exact(decide_eq_false fun h=>h4 h.2.2.2.1).symm
   ·refine SX.goM ?_;refine bK ?_;exact(decide_eq_false fun h=>h3 h.2.2.1).symm
  ·refine SX.goM ?_;refine bK ?_;exact(decide_eq_false fun h=>h2 h.2.1).symm
 ·refine SX.goM ?_;refine bK ?_;exact(decide_eq_false fun h=>h1 h.1).symm⟩
theorem an5{r c i k:Nat}{l:List Q4}{q:Q4}(hq:l[i*c+k]? =some q)(hi:i≤100)(hc:c≤100)(hk:k≤100):
  PureOK Tryz.prog 334 [.agg (aad r c l),.v (.int .i64 (i:Int)),.v (.int .i64 (k:Int))] (.agg (q4A q)):=by
 have hb:=Nat.mul_le_mul hi hc;have hlt:i*c+k < l.length:=by
  rcases Nat.lt_or_ge (i*c+k) l.length with h|h
  ·exact h
  ·rw[List.getElem?_eq_none h]at hq;cases hq
 refine PureOK.fnF Tryz.func334 Tryz.results334 Tryz.ntmps334 rfl rfl rfl (by simp[AV.ids,AV0.ids,Atom.ids]) rfl (fun w0 T B E0 hB=>?_)
 refine SX.goM ?_;exact qg (aj.uG rfl rfl rfl) rfl
end
end Go.Proofs.YtegehclknhmkgaaGreatDoor