import Derived.Test.YtmgfiodmdfaclaaGreatDoorA11
import Derived.Test.YtmgfiodmdfaclaaGreatDoorA29
set_option linter.unusedVariables false
set_option linter.unusedSimpArgs false
namespace Go.Proofs.YtmgfiodmdfaclaaGreatDoor
open Go.RowKit QM SX
section
def jm:Nat→Nat→List UInt8
 |0,_=>[]
 |n+1,x=>jm n (x / 10)++[UInt8.ofNat (48+x % 10)]
theorem wM:∀n x,(jm n x).length=n
 |0,_=>rfl
 |n+1,x=>by rw[jm,List.length_append,wM n];rfl
theorem aee:∀(m n x:Nat),jm (n+m) x=jm n (x / 10 ^ m)++jm m (x % 10 ^ m)
 |0,n,x=>by simp[jm]
 |m+1,n,x=>by
  have e1:x / 10 ^ (m+1)=x / 10 / 10 ^ m:=by rw[Nat.div_div_eq_div_mul,Nat.pow_succ,Nat.mul_comm]
  have e2:x % 10 ^ (m+1) / 10=x / 10 % 10 ^ m:=by rw[Nat.pow_succ,Nat.mul_comm,Nat.mod_mul_right_div_self]
  have e3:x % 10 ^ (m+1) % 10=x % 10:=by rw[Nat.pow_succ,Nat.mul_comm,Nat.mod_mul_right_mod]
  rw[←Nat.add_assoc,jm,aee m n,jm,e1,e2,e3,List.append_assoc]
def dig(x:Nat):List UInt8:=if h:x=0 then []else dig (x / 10)++[UInt8.ofNat (48+x % 10)]
decreasing_by omega
theorem jT:dig 0=[]:=by rw[dig];rfl
theorem oI{x:Nat}(h:x≠0):dig x=dig (x / 10)++[UInt8.ofNat (48+x % 10)]:=by rw[dig,dif_neg h]
theorem acs:∀n,(jm n 0).all (· ==48)=true
 |0=>rfl
 |n+1=>by rw[jm,List.all_append,show 0 / 10=0 from rfl,acs n];decide
theorem tY{p:UInt8→Bool}:∀{l:List UInt8},l.all p=true→∀m,(l++m).dropWhile p=m.dropWhile p
 |[],_,m=>rfl
 |a::l,h,m=>by
  rw[List.all_cons,Bool.and_eq_true]at h;rw[List.cons_append,List.dropWhile_cons,if_pos h.1];exact tY h.2 m
theorem wY{p:UInt8→Bool}:∀{l:List UInt8} (m:List UInt8),l.dropWhile p≠[]→(l++m).dropWhile p=l.dropWhile p++m
 |[],m,h=>absurd rfl h
 |a::l,m,h=>by
  rw[List.cons_append,List.dropWhile_cons,List.dropWhile_cons]at*;cases hp:p a
  ·simp
  ·simp only[hp,if_true]at h ⊢;exact wY m h
theorem agX{x:Nat}(h:x≠0):dig x≠[]:=by rw[oI h];simp
theorem aqC{d:Nat}(h0:d≠0)(h1:d < 10):(UInt8.ofNat (48+d)==48)=false:=by
 rw[beq_eq_false_iff_ne];intro e;have:=congrArg UInt8.toNat e;rw[UInt8.toNat_ofNat']at this;have h48:(48:UInt8).toNat=48:=rfl;omega
theorem xW:∀(n x:Nat),x < 10 ^ n→(jm n x).dropWhile (· ==48)=dig x
 |0,x,h=>by
  have:x=0:=by simpa using h
  subst this;rw[jT];rfl
 |n+1,x,h=>by
  have hx:x / 10 < 10 ^ n:=by rw[Nat.pow_succ]at h;omega
  have ih:=xW n (x / 10) hx;rw[jm];by_cases h0:x / 10=0
  ·rw[h0,tY (acs n)];by_cases hx0:x=0
   ·subst hx0;rw[jT];decide
   ·rw[oI hx0,h0,jT,List.dropWhile_cons,aqC (by omega) (by omega)];rfl
  ·rw[wY _ (by rw[ih];exact agX h0),ih,←oI (by omega)]
def nD:Nat→Nat
 |0=>18
 |j+1=>nD j+nD j
def pw(j:Nat):Nat:=10 ^ nD j
theorem ajc:pw 0=1000000000000000000:=rfl
theorem aeb(j:Nat):pw (j+1)=pw j*pw j:=by unfold pw;rw[nD,Nat.pow_add]
theorem an2(j:Nat):0 < pw j:=Nat.pow_pos (by decide)
theorem abZ:∀j,j+18≤nD j
 |0=>Nat.le_refl _
 |j+1=>by have:=abZ j;rw[nD];omega
instance BdN.pw(j:Nat):BdN (pw j) (nD j):=⟨by
 show 10 ^ nD j < WB ^ nD j;exact Nat.pow_lt_pow_left (by rw[aX];decide) (by have:=abZ j;omega)⟩
theorem zQ(j:Nat):nD j≤bitLen (pw j):=by
 have h:=(bitLen_spec (pw j)).1;have h2:2 ^ nD j≤pw j:=Nat.pow_le_pow_left (by decide) _
 exact Nat.le_of_lt ((Nat.pow_lt_pow_iff_right (by decide)).1 (Nat.lt_of_le_of_lt h2 h))
theorem adr{x k:Nat}(h:x < WB ^ k):bitLen x≤64*k:=by
 have hs:=(bitLen_spec x).2;by_cases h0:x=0
 ·subst h0;exact Nat.zero_le _
 ·have h1:=hs h0;have e:WB ^ k=2 ^ (64*k):=by rw[Nat.pow_mul];rfl
  rw[e]at h;have:=(Nat.pow_lt_pow_iff_right (a:=2) (by decide)).1 (Nat.lt_of_le_of_lt h1 h)
  omega
def pwM(x:Nat):Nat→Nat→Nat
 |0,j=>j
 |f+1,j=>if 2*bitLen (pw j)≤bitLen x+1 then pwM x f (j+1)else j
def pwm(x:Nat):Nat:=pwM x (bitLen x+2) 0
theorem akK{x j:Nat}(h:¬2*bitLen (pw j)≤bitLen x+1):x < pw (j+1):=by
 have h1:=(bitLen_spec x).1;have h2:=(bitLen_spec (pw j)).2 (Nat.ne_of_gt (an2 j));have h3:=zQ j;have h4:=abZ j;rw[aeb];refine Nat.lt_of_lt_of_le h1 (Nat.le_trans ?_ (Nat.mul_le_mul h2 h2));rw[←Nat.pow_add];exact Nat.pow_le_pow_right (by decide) (by omega)
def aH(x:Nat):List UInt8:=if x=0 then [48]else dig x
theorem adY{x n:Nat}(h:x < 10 ^ n):(dig x).length≤n:=by
 rw[←xW n x h];exact Nat.le_trans (List.dropWhile_sublist _).length_le (Nat.le_of_eq (wM n x))
end
section
attribute [local irreducible] IntKind.wrap Go1 Reg WP aQ aR bO bN aN aB aj ah aV Sat
attribute [local irreducible] jm pw nD pwM pwm aH
section
variable{a b:CA}{x y k m:Nat}
instance yj[ha:NI a x k]:Con Tryz.prog 60 [.it (.one (.c a))] (k≤1099511627775) (.v (.int .i64 (bitLen x:Int))):=⟨fun h=>aeR h⟩
instance aqS[ha:NI a x k]:Con Tryz.prog 157 [.it (.one (.c a))] (k+k≤274877906944) (.r (bB (x*x))):=⟨fun h=>ap5 h⟩
end
theorem ar7(x:Nat):jm 0 x=[]:=by unfold jm;rfl
theorem asi(n x:Nat):jm (n+1) x=jm n (x / 10)++[UInt8.ofNat (48+x % 10)]:=by rw[jm]
theorem pureS{f:FuncId}{args:List Value}{r:Value}(he:∃fn,Tryz.prog.funcs[f]? =some fn∧(fn.name== "runtime.NumGoroutine")=false∧fn.body.isNone=false)(h:∀w,Calls Tryz.prog f args.toArray w fun e w'=>e= .returned r∧w'=w):PureOK Tryz.prog f (args.map AV.v) (.v r):=
 PureOK.gX he rfl fun E S w vs hl hv=>by
  have hvs:vs=args:=by
   clear h
   induction args generalizing vs with
   |nil=>cases vs with|nil=>rfl|cons _ _=>exact hv.elim
   |cons a l ih=>cases vs with|nil=>exact hv.elim|cons b m=>rw[ih m hv.2,show b=a from hv.1]
  subst hvs;exact(h w).mono fun e w' ⟨h1,h2⟩=>⟨r,h1,rfl,by subst h2;exact Off.refl _ _⟩
theorem arC(d:Nat):((UInt8.ofNat (48+d % 10)).toNat:Int)=((48+d % 10:Nat):Int):=by
 rw[UInt8.toNat_ofNat'];omega
theorem amX(x:Nat)(hx:x < WB):oL Tryz.prog 155 [.v (.int .u64 (x:Int))] 5 1 18 ((jm 18 x).flatMap kI):=by
 rw[aX]at hx;refine oL.fnF Tryz.func155 Tryz.results155 Tryz.ntmps155 rfl rfl rfl (by simp[AV.ids,AV0.ids,Atom.ids]) (fun w0 T B E0 hB=>?_)
 refine SX.go2 ?_;refine W.aoG (fun(k y:Nat) (tl:List UInt8)=>k+tl.length=18∧y < 18446744073709551616∧jm k y++tl=jm 18 x) (fun k y tl=>[(0,.v (.int .u64 (y:Int))),(3,.own 100),(4,.v (.int .i64 ((k:Int) - 1)))])
  (fun k y tl=>[(100,.row 5 1 18 ((List.replicate k 0++tl).flatMap kI))]) (fun k _ _=>k) 18 x [] ⟨rfl,hx,by simp⟩ (fun k y tl ⟨hk,hy,hd⟩=>?_)
 cases k with
 |zero=>
  have e:(List.replicate 0 0++tl).flatMap kI=(jm 18 x).flatMap kI:=by rw[←hd,ar7];rfl
  refine SX.go2 ?_;exact retO
 |succ k=>
  rw[show ((k+1:Nat):Int) - 1=(k:Int)by omega]
  have e:spl ((List.replicate (k+1) 0++tl).flatMap kI) (k*1) [.val (.int .u8 ((48+y % 10:Nat):Int))]=(List.replicate k 0++(UInt8.ofNat (48+y % 10)::tl)).flatMap kI:=by
   rw[←arC,show [CA.val (.int .u8 ((UInt8.ofNat (48+y % 10)).toNat:Int))]=kI (UInt8.ofNat (48+y % 10))from rfl,wI _ _ _ (by simp;omega),List.replicate_succ']
   congr 1
   rw[List.append_assoc,List.set_append_right _ _ (by simp)]
   simp
  refine SX.go2 ?_
  -- ??
  exact W.alo k (y / 10) (UInt8.ofNat (48+y % 10)::tl) ⟨by simp at hk ⊢;omega,by omega,by rw[←hd,asi];simp⟩ (by omega)
def adT(n:Nat):List CA:=[.sat (bB n)]
instance:dU adT 1:=⟨fun _=>rfl⟩
def pws(j:Nat):List Nat:=(List.range j).map pw
theorem adv(j:Nat):(pws j).length=j:=by simp[pws]
theorem aiL{i j:Nat}(h:i < j):(pws j)[i]? =some (pw i):=by simp[pws,h]
theorem anC{i j:Nat}(h:i≤j):(pws j).take i=pws i:=by
 unfold pws;rw[←List.map_take,List.take_range,Nat.min_eq_left h]
theorem anT(j:Nat):pws (j+1)=pws j++[pw j]:=by simp[pws,List.range_succ]
theorem aoc:pw 0=1000000000000000000:=ajc
theorem ahp{a:CA}{x k:Nat}[ha:NI a x k](hx:x < WB ^ k)(hk:k≤1000000000):PureOK Tryz.prog 106 [.it (.one (.c a))] (.r (ay 1 adT (pws (pwm x+1)))):=by
 have cO:PureOK Tryz.prog 64 [.v (.int .u64 1000000000000000000)] (.r (bB (pw 0))):=by rw[ajc];exact nOf 1000000000000000000 (by rw[aX];decide)
 have hb:=adr hx;have mark:aa6 5:=⟨⟩;have e0:[CA.sat (bB (pw 0))]=(pws (0+1)).flatMap adT:=rfl;refine PureOK.fnF Tryz.func106 Tryz.results106 Tryz.ntmps106 rfl rfl rfl (by simp[AV.ids,AV0.ids,Atom.ids]) rfl (fun w0 T B E0 hB=>?_)
 refine SX.go2 ?_;have hpm:pwM x (bitLen x+2) 0=pwm x:=by unfold pwm;rfl
 refine W.om (fun(j f:Nat)=>(j=0∨nD j≤bitLen x+1)∧pwM x f j=pwm x∧f+j=bitLen x+2) (fun j f=>[(0,.it (.one (.c a))),(3,.own 100)]) (fun j f=>[(100,.row 23 1 (j+1) ((pws (j+1)).flatMap adT))]) (fun j f=>f) 0 (bitLen x+2) ⟨.inl rfl,hpm,rfl⟩ (fun j f ⟨h1,h2,h3⟩=>?_)
 have hn:nD j≤64000000001:=by
  rcases h1 with rfl|h1
  ·have:nD 0=18:=by unfold nD;rfl
   omega
  ·omega
 have hg:(pws (j+1))[j+1 - 1]? =some (pw j):=aiL (by omega)
 have hbp:=zQ j;have hbj:=abZ j;have hbu:=adr (BdN.pw j).h;by_cases hq:2*bitLen (pw j)≤bitLen x+1
 ·cases f with
  |zero=>exact absurd hq (by omega)
  |succ f=>
   have e1:(pws (j+1)).flatMap adT++[CA.sat (bB (pw j*pw j))]=(pws (j+1+1)).flatMap adT:=by
    rw[anT (j+1),List.flatMap_append,aeb];rfl
   have h2':pwM x f (j+1)=pwm x:=by rw[←h2];conv=>rhs;unfold pwM;rw[if_pos hq]
   have hs:nD (j+1)=nD j+nD j:=by conv=>lhs;unfold nD
   refine SX.go2 ?_;exact W.oM (j+1) f ⟨.inr (by omega),h2',by omega⟩ (by omega)
 ·have hjm:j=pwm x:=by
   rw[←h2];cases f with
   |zero=>unfold pwM;rfl
   |succ f=>conv=>rhs;unfold pwM;rw[if_neg hq]
  refine SX.go2 ?_;refine aN.frz 100 ?_;refine abT ?_;rw[←hjm];show AV0.imp _ (.one (.c (.sat (aI 1 (pws (j+1)).length ((pws (j+1)).flatMap adT)))));rw[adv];exact AV0.imp.refl _
theorem uw:∀(j:Nat) {a:CA} {x k:Nat} [ha:NI a x k] (L:List Nat),L=pws j→x < pw j→nD j≤200000000000→k≤500000000000→
  oL Tryz.prog 105 [.it (.one (.c a)),.r (ay 1 adT L)] 5 1 (nD j) ((jm (nD j) x).flatMap kI)
 |0,a,x,k,ha,L,hL,hx,hn,hk=>by
  have e18:nD 0=18:=by unfold nD;rfl
  have hxw:x < WB:=by rw[aoc]at hx;rw[aX];omega
  have cW:=aja (a:=a) (x:=x) (k:=k) (by omega)
  rw[if_pos hxw]at cW;have cw:=amX x hxw;have hl0:L.length=0:=by rw[hL,adv]
  rw[e18];refine oL.fnF Tryz.func105 Tryz.results105 Tryz.ntmps105 rfl rfl rfl (by simp[AV.ids,AV0.ids,Atom.ids]) (fun w0 T B E0 hB=>?_)
  refine SX.go2 ?_;exact retO
 |j+1,a,x,k,ha,L,hL,hx,hn,hk=>by
  have hs:nD (j+1)=nD j+nD j:=by conv=>lhs;unfold nD
  have hj:=abZ j;have hl1:L.length=j+1:=by rw[hL,adv]
  have hg:L[L.length - 1]? =some (pw j):=by rw[hl1,hL];exact aiL (by omega)
  have ht:L.take (L.length - 1)=pws j:=by rw[hl1,hL];exact anC (by omega)
  have hp:=an2 j;rw[aeb]at hx;have hq:x / pw j < pw j:=Nat.div_lt_of_lt_mul hx;have hr:x % pw j < pw j:=Nat.mod_lt _ hp;have cD:=adp (a:=a) (x:=x) (k:=k) (b:= .sat (bB (pw j))) (y:=pw j) (m:=nD j) (by omega)
  rw[if_neg (by omega)]at cD
  haveI b1:BdN (x / pw j) (nD j):=⟨Nat.lt_trans hq (BdN.pw j).h⟩
  haveI b2:BdN (x % pw j) (nD j):=⟨Nat.lt_trans hr (BdN.pw j).h⟩
  have c1:=uw j (a:= .sat (bB (x / pw j))) (k:=nD j) (L.take (L.length - 1)) ht hq (by omega) (by omega)
  have c2:=(uw j (a:= .sat (bB (x % pw j))) (k:=nD j) (L.take (L.length - 1)) ht hr (by omega) (by omega)).pure
  have e1:(jm (nD j) (x / pw j)).flatMap kI++(jm (nD j) (x % pw j)).flatMap kI=(jm (nD j+nD j) x).flatMap kI:=by
   rw[aee,List.flatMap_append,show 10 ^ nD j=pw j by unfold pw;rfl]
  rw[hs];refine oL.fnF Tryz.func105 Tryz.results105 Tryz.ntmps105 rfl rfl rfl (by simp[AV.ids,AV0.ids,Atom.ids]) (fun w0 T B E0 hB=>?_)
  refine SX.go2 ?_;exact retO
theorem adK(l:List UInt8):PureOK Tryz.prog 104 [.v (str l),.v (str [48])] (.v (str (l.dropWhile (· ==48)))):=
 pureS (args:=[str l,str [48]]) ⟨_,Tryz.func104,rfl,rfl⟩ fun w=>(Tryz.strings_TrimLeft_one ⟨⟨l⟩⟩ 48 (by decide) w).mono fun e w' ⟨h1,h2⟩=>⟨h1,h2⟩
theorem amE(x:Nat):x < pw (pwm x+1):=by
 have key:∀(f j:Nat),f+j=bitLen x+2→¬2*bitLen (pw (pwM x f j))≤bitLen x+1:=by
  intro f
  induction f with
  |zero=>
   intro j hj;have h1:=zQ j;have h2:=abZ j;unfold pwM;omega
  |succ f ih=>
   intro j hj;unfold pwM
   split
   ·exact ih (j+1) (by omega)
   ·assumption
 have:=key (bitLen x+2) 0 rfl;exact akK (by unfold pwm;exact this)
theorem as1{x k:Nat}(hx:x < WB ^ k)(hk:k≤1000000000):nD (pwm x+1)≤200000000000:=by
 have hb:=adr hx;have key:∀(f j:Nat),(j=0∨nD j≤bitLen x+1)→nD (pwM x f j)≤64000000001:=by
  intro f
  induction f with
  |zero=>
   intro j hj;unfold pwM;rcases hj with rfl|hj
   ·have:nD 0=18:=by unfold nD;rfl
    omega
   ·omega
  |succ f ih=>
   intro j hj;unfold pwM
   split
   ·rename_i h;have h1:=zQ j;exact ih (j+1) (.inr (by
                  conv=>lhs;unfold nD
                  omega))
   ·rcases hj with rfl|hj
    ·have:nD 0=18:=by unfold nD;rfl
     omega
    ·omega
 have h1:=key (bitLen x+2) 0 (.inl rfl);have h2:nD (pwm x+1)=nD (pwm x)+nD (pwm x):=by conv=>lhs;unfold nD
 have h3:nD (pwm x)≤64000000001:=by unfold pwm;exact h1
 omega
theorem acA{a:CA}{x k:Nat}[ha:NI a x k](hx:x < WB ^ k)(hk:k≤1000000000):PureOK Tryz.prog 59 [.it (.one (.c a))] (.v (str (aH x))):=by
 have cP:=ahp (a:=a) hx hk;have cD:=(uw (pwm x+1) (a:=a) (k:=k) (pws (pwm x+1)) rfl (amE x) (as1 hx hk) (by omega)).pure
 have el:nD (pwm x+1)=(jm (nD (pwm x+1)) x).length:=(wM _ _).symm;have cD':PureOK Tryz.prog 105 [.it (.one (.c a)),.r (ay 1 adT (pws (pwm x+1)))] (.r (ay 1 kI (jm (nD (pwm x+1)) x))):=by
  show PureOK _ _ _ (.r (aI 1 (jm (nD (pwm x+1)) x).length _));rw[wM];exact cD
 clear cD;have cT:=adK (jm (nD (pwm x+1)) x);have hd:=xW (nD (pwm x+1)) x (by have:=amE x;unfold pw at this;exact this)
 rw[hd]at cT;have hS:aH x=if x=0 then [48]else dig x:=by unfold aH;rfl
 refine PureOK.fnF Tryz.func59 Tryz.results59 Tryz.ntmps59 rfl rfl rfl (by simp[AV.ids,AV0.ids,Atom.ids]) rfl (fun w0 T B E0 hB=>?_)
 by_cases h0:x=0
 ·have hz:decide (dig x=[])=true:=by subst h0;rw[jT];rfl
  refine SX.go2 ?_;refine iN ?_;rw[hS,if_pos h0]
 ·have hz:decide (dig x=[])=false:=decide_eq_false (agX h0);refine SX.go2 ?_;refine iN ?_;rw[hS,if_neg h0]
end
section
attribute [local irreducible] IntKind.wrap Go1 Reg WP aQ aR bO bN aN aB aj ah aV Sat
section
variable{l l':List Atom}{a:CA}{x y:Int}{n k m:Nat}
instance mI[h:ZI l x k]:Con Tryz.prog 39 [.agg l] (k≤1099511627775) (.v (.int .i64 (aU x))):=⟨fun h=>yF h⟩
instance con_zNeg[h:ZI l x k]:Con Tryz.prog 148 [.agg l] (k≤1099511627775) (.agg (zN (-x))):=⟨fun h=>zNeg h⟩
instance apA:Con Tryz.prog 42 [.v (.int .i64 x)] (-9223372036854775808≤x∧x≤9223372036854775807) (.agg (zN x)):=⟨fun h=>zOf x h.1 h.2⟩
instance con_zAdd[h:ZI l x k][h':ZI l' y m]:Con Tryz.prog 181 [.agg l,.agg l'] (k+m≤1099511627774) (.agg (zN (x+y))):=⟨fun h=>zAdd h⟩
instance al2[h:ZI l x k][h':ZI l' y m]:Con Tryz.prog 145 [.agg l,.agg l'] (k+m≤1099511627774) (.agg (zN (x - y))):=⟨fun h=>zSub h⟩
instance con_zMul[h:ZI l x k][h':ZI l' y m]:Con Tryz.prog 184 [.agg l,.agg l'] (k+m≤274877906944) (.agg (zN (x*y))):=⟨fun h=>zMul h⟩
instance ak4[h:ZI l x k][h':ZI l' y m]:Con Tryz.prog 40 [.agg l,.agg l'] (k+m≤1099511627774) (.v (.bool (decide (x=y)))):=⟨fun h=>ars h⟩
instance eu[h:ZI l x k]:Con Tryz.prog 134 [.agg l] (k≤1099511627775) (.v (.int .i64 (bitLen x.natAbs:Int))):=⟨fun h=>zBits h⟩
instance arP[h:ZI l x k][h':ZI l' y m]:Con Tryz.prog 149 [.agg l,.agg l'] (k+m≤1099511627760) (.tup [.agg (zN (iY x y)),.one (.c (.val (.bool (qy x y))))]):=⟨fun h=>arH h⟩
instance afh[h:ZI l x k][h':ZI l' y m]:Con Tryz.prog 41 [.agg l,.agg l'] (k+m≤1099511627760) (.agg (zN (Int.gcd x y:Int))):=⟨fun h=>zGcd h⟩
instance acz[h:NI a n k](neg:Bool):Con Tryz.prog 62 [.it (.one (.c a)),.v (.bool neg)] (k≤1099511627775) (.agg (zN (sgn neg n))):=⟨fun h=>qF neg h⟩
end
theorem ad5(z:Int):aU z=0↔z=0:=by unfold aU;(repeat' split) <;> omega
theorem agT(z:Int):aU z < 0↔z < 0:=by unfold aU;(repeat' split) <;> omega
theorem ah5(a b:Int):IntKind.i64.wrap (aU a*aU b)=aU (a*b):=by
 have h:aU a*aU b=aU (a*b):=by
  unfold aU;by_cases ha:a=0
  ·simp[ha]
  ·by_cases hb:b=0
   ·simp[hb]
   ·have hab:a*b≠0:=Int.mul_ne_zero ha hb;rw[if_neg ha,if_neg hb,if_neg hab];by_cases h1:a < 0
    ·by_cases h2:b < 0
     ·have:=Int.mul_pos_of_neg_of_neg h1 h2;rw[if_pos h1,if_pos h2,if_neg (by omega)];rfl
     ·have:=Int.mul_neg_of_neg_of_pos h1 (show 0 < b by omega)
      rw[if_pos h1,if_neg h2,if_pos (by omega)];rfl
    ·by_cases h2:b < 0
     ·have:=Int.mul_neg_of_pos_of_neg (show 0 < a by omega) h2
      rw[if_neg h1,if_pos h2,if_pos (by omega)];rfl
     ·have:=Int.mul_pos (show 0 < a by omega) (show 0 < b by omega)
      rw[if_neg h1,if_neg h2,if_neg (by omega)];rfl
 rw[h];have h1: -1≤aU (a*b)∧aU (a*b)≤1:=by unfold aU;(repeat' split) <;> omega
 exact pW (by omega) (by omega)
def zS(z:Int):List UInt8:=if z < 0 then 45::aH z.natAbs else aH z.natAbs
theorem aaC{x k:Nat}(h:x < WB ^ k):(aH x).length≤20*k+1:=by
 unfold aH
 split
 ·simp
 ·have:WB ^ k≤10 ^ (20*k):=by rw[Nat.pow_mul];exact Nat.pow_le_pow_left (by rw[aX];decide) _
  have:=adY (Nat.lt_of_lt_of_le h this);omega
theorem agl{z:Int}{k:Nat}[h:Bd z k]:(zS z).length≤20*k+2:=by
 have:=aaC h.h;unfold zS;split
 ·rw[List.length_cons];omega
 ·omega
instance aa2{l:List Atom}{z:Int}{k:Nat}[h:ZI l z k]:Con Tryz.prog 30 [.agg l] (k≤1000000000) (.v (str (zS z))):=⟨fun hk=>by
 refine z1 ⟨_,Tryz.func30,rfl,rfl⟩ fun neg n hz hn=>?_
 subst hz;have hb:=(inferInstance:BdN n k).h;have cP:=acA (a:= .sat (ado n k)) hb hk;have hl:=aaC hb;have hS:zS (sgn neg n)=if sgn neg n < 0 then 45::aH n else aH n:=by unfold zS;rw[jl]
 have hs:=agT (sgn neg n);refine PureOK.fnF Tryz.func30 Tryz.results30 Tryz.ntmps30 rfl rfl rfl (by simp[AV.ids,AV0.ids,Atom.ids]) rfl (fun w0 T B E0 hB=>?_)
 by_cases h0:sgn neg n < 0
 ·refine SX.go2 ?_;refine iN ?_;rw[hS,if_pos h0];rfl
 ·refine SX.go2 ?_;refine iN ?_;rw[hS,if_neg h0]⟩
def rmk(x y:Int):Int×Int:=if y=0 then(0,1)else if y < 0 then(iY (-x) (Int.gcd (-x) (-y)),iY (-y) (Int.gcd (-x) (-y)))else(iY x (Int.gcd x y),iY y (Int.gcd x y))
abbrev uJ(q:Int×Int):List Atom:=[.c (.val (.bool (decide (q.1 < 0)))),.c (.sat (bB q.1.natAbs)),.c (.val (.bool (decide (q.2 < 0)))),.c (.sat (bB q.2.natAbs))]
instance Bd.ao1(x y:Int)(k m:Nat)[h:Bd x k][h':Bd y m]:Bd (rmk x y).1 (k+m+1):=⟨by
 unfold rmk;repeat' split
 ·exact Bd.mono (Bd.zero).h (by omega)
 ·exact Bd.mono (Bd.iY (-x) _ k).h (by omega)
 ·exact Bd.mono (Bd.iY x _ k).h (by omega)⟩
instance Bd.aly(x y:Int)(k m:Nat)[h:Bd x k][h':Bd y m]:Bd (rmk x y).2 (k+m+1):=⟨by
 unfold rmk;repeat' split
 ·exact Bd.mono (Bd.one).h (by omega)
 ·exact Bd.mono (Bd.iY (-y) _ m).h (by omega)
 ·exact Bd.mono (Bd.iY y _ m).h (by omega)⟩
instance zG{l:List Atom}{z:Int}{k:Nat}[h:ZI l z k]:Con Tryz.prog 187 [.agg l] (k≤1000000000) (.agg (uJ (z,1))):=⟨fun hk=>by
 refine z1 ⟨_,Tryz.func187,rfl,rfl⟩ fun neg n hz hn=>?_
 subst hz;refine PureOK.fnF Tryz.func187 Tryz.results187 Tryz.ntmps187 rfl rfl rfl (by simp[AV.ids,AV0.ids,Atom.ids]) rfl (fun w0 T B E0 hB=>?_)
 refine SX.go2 ?_;exact nC (aj.vN rfl rfl rfl) rfl⟩
instance atc:Con Tryz.prog 147 [] True (.agg (uJ (0,1))):=⟨fun hk=>by
 refine PureOK.fnF Tryz.func147 Tryz.results147 Tryz.ntmps147 rfl rfl rfl (by simp[AV.ids,AV0.ids,Atom.ids]) rfl (fun w0 T B E0 hB=>?_)
 refine SX.go2 ?_;exact nC (aj.vN rfl rfl rfl) rfl⟩
instance atf{l l':List Atom}{x y:Int}{k m:Nat}[h:ZI l x k][h':ZI l' y m]:Con Tryz.prog 103 [.agg l,.agg l'] (k+m≤1000000000) (.tup [.agg (uJ (rmk x y)),.one (.c (.val (.bool (decide (y≠0)))))]):=⟨fun hk=>by
 refine z2 ⟨_,Tryz.func103,rfl,rfl⟩ fun neg n neg2 n2 hz hz2 hn hn2=>?_
 subst hz;subst hz2;have hs0:=ad5 (sgn neg2 n2);have hsn:=agT (sgn neg2 n2);refine PureOK.fnF Tryz.func103 Tryz.results103 Tryz.ntmps103 rfl rfl rfl (by simp[AV.ids,AV0.ids,Atom.ids]) rfl (fun w0 T B E0 hB=>?_)
 by_cases h0:sgn neg2 n2=0
 ·refine SX.go2 ?_;have e:rmk (sgn neg n) (sgn neg2 n2)=(0,1):=by unfold rmk;rw[if_pos h0]
  rw[e];exact qD (aj.vN rfl rfl rfl) (aj.tmp rfl) (AV0.imp.refl _) (AV0.imp.of_eq (cb (by simp[h0])))
 ·by_cases h1:sgn neg2 n2 < 0
  ·refine SX.go2 ?_;have e:rmk (sgn neg n) (sgn neg2 n2)=(iY (-sgn neg n) (Int.gcd (-sgn neg n) (-sgn neg2 n2)),iY (-sgn neg2 n2) (Int.gcd (-sgn neg n) (-sgn neg2 n2))):=by unfold rmk;rw[if_neg h0,if_pos h1]
   rw[e];exact qD (aj.vN rfl rfl rfl) (aj.tmp rfl) (AV0.imp.refl _) (AV0.imp.of_eq (cb (by simp[h0])))
  ·refine SX.go2 ?_;have e:rmk (sgn neg n) (sgn neg2 n2)=(iY (sgn neg n) (Int.gcd (sgn neg n) (sgn neg2 n2)),iY (sgn neg2 n2) (Int.gcd (sgn neg n) (sgn neg2 n2))):=by unfold rmk;rw[if_neg h0,if_neg h1]
   rw[e];exact qD (aj.vN rfl rfl rfl) (aj.tmp rfl) (AV0.imp.refl _) (AV0.imp.of_eq (cb (by simp[h0])))⟩
theorem q1{f:FuncId}{r:AV}{x0 x1 x2 x3:Atom}{p q:Int}{k m:Nat}[h:ZI [x0,x1] p k][h':ZI [x2,x3] q m](he:∃fn,Tryz.prog.funcs[f]? =some fn∧(fn.name== "runtime.NumGoroutine")=false∧fn.body.isNone=false)
  (hf:∀neg n neg' n',p=sgn neg n→q=sgn neg' n'→BdN n k→BdN n' m→PureOK Tryz.prog f [.agg (zR neg n k++zR neg' n' m)] r):PureOK Tryz.prog f [.agg [x0,x1,x2,x3]] r:=by
 obtain⟨neg,n,hz,hm⟩:=h.h;obtain⟨neg',n',hz',hm'⟩:=h'.h;refine PureOK.fact (φ:=BdN n k∧BdN n' m) he (fun hb=>hf neg n neg' n' hz hz' hb.1 hb.2) fun E S w vs hv=>?_
 match vs,hv with
 |[_],⟨⟨[v0,v1,v2,v3],rfl,h0,h1,h2,h3,_⟩,_⟩=>
  have a1:=hm E S w _ ⟨[v0,v1],rfl,h0,h1,trivial⟩;have a2:=hm' E S w _ ⟨[v2,v3],rfl,h2,h3,trivial⟩;refine⟨⟨⟨[v0,v1,v2,v3],rfl,?_⟩,trivial⟩,⟨vO a1⟩,⟨vO a2⟩⟩;obtain⟨us,e1,b1⟩:=a1;obtain⟨us',e2,b2⟩:=a2
  match us,us',b1,b2 with
  |[_,_],[_,_],⟨c0,c1,_⟩,⟨d0,d1,_⟩=>
   cases e1;cases e2;exact⟨c0,c1,d0,d1,trivial⟩
theorem q2{f:FuncId}{r:AV}{x0 x1 x2 x3 y0 y1 y2 y3:Atom}{p q p' q':Int}{k m k' m':Nat}[h:ZI [x0,x1] p k][h':ZI [x2,x3] q m][g:ZI [y0,y1] p' k'][g':ZI [y2,y3] q' m'](he:∃fn,Tryz.prog.funcs[f]? =some fn∧(fn.name== "runtime.NumGoroutine")=false∧fn.body.isNone=false)
  (hf:∀neg n neg' n' neg2 n2 neg3 n3,p=sgn neg n→q=sgn neg' n'→p'=sgn neg2 n2→q'=sgn neg3 n3→BdN n k→BdN n' m→BdN n2 k'→BdN n3 m'→PureOK Tryz.prog f [.agg (zR neg n k++zR neg' n' m),.agg (zR neg2 n2 k'++zR neg3 n3 m')] r):PureOK Tryz.prog f [.agg [x0,x1,x2,x3],.agg [y0,y1,y2,y3]] r:=by
 obtain⟨neg,n,hz,hm⟩:=h.h;obtain⟨neg',n',hz',hm'⟩:=h'.h;obtain⟨neg2,n2,hz2,hm2⟩:=g.h;obtain⟨neg3,n3,hz3,hm3⟩:=g'.h;refine PureOK.fact (φ:=BdN n k∧BdN n' m∧BdN n2 k'∧BdN n3 m') he (fun hb=>hf neg n neg' n' neg2 n2 neg3 n3 hz hz' hz2 hz3 hb.1 hb.2.1 hb.2.2.1 hb.2.2.2) fun E S w vs hv=>?_
 match vs,hv with
 |[_,_],⟨⟨[v0,v1,v2,v3],rfl,h0,h1,h2,h3,_⟩,⟨[w0,w1,w2,w3],rfl,i0,i1,i2,i3,_⟩,_⟩=>
  have a1:=hm E S w _ ⟨[v0,v1],rfl,h0,h1,trivial⟩;have a2:=hm' E S w _ ⟨[v2,v3],rfl,h2,h3,trivial⟩;have a3:=hm2 E S w _ ⟨[w0,w1],rfl,i0,i1,trivial⟩;have a4:=hm3 E S w _ ⟨[w2,w3],rfl,i2,i3,trivial⟩;refine⟨⟨⟨[v0,v1,v2,v3],rfl,?_⟩,⟨[w0,w1,w2,w3],rfl,?_⟩,trivial⟩,⟨vO a1⟩,⟨vO a2⟩,⟨vO a3⟩,⟨vO a4⟩⟩
  ·obtain⟨us,e1,b1⟩:=a1;obtain⟨us',e2,b2⟩:=a2
   match us,us',b1,b2 with
   |[_,_],[_,_],⟨c0,c1,_⟩,⟨d0,d1,_⟩=>
    cases e1;cases e2;exact⟨c0,c1,d0,d1,trivial⟩
  ·obtain⟨us,e1,b1⟩:=a3;obtain⟨us',e2,b2⟩:=a4
   match us,us',b1,b2 with
   |[_,_],[_,_],⟨c0,c1,_⟩,⟨d0,d1,_⟩=>
    cases e1;cases e2;exact⟨c0,c1,d0,d1,trivial⟩
attribute [irreducible] rmk
section
variable{x0 x1 x2 x3 y0 y1 y2 y3:Atom}{p q r s:Int}{k m k' m':Nat}
abbrev qn(p q:Int):Int×Int:=rmk p q
instance asZ[h:ZI [x0,x1] p k][h':ZI [x2,x3] q m]:Con Tryz.prog 58 [.agg [x0,x1,x2,x3]] (k+m≤1000000000) (.agg (uJ (rmk p q))):=⟨fun hk=>by
 refine q1 ⟨_,Tryz.func58,rfl,rfl⟩ fun neg n neg2 n2 hz hz2 hn hn2=>?_
 subst hz;subst hz2;refine PureOK.fnF Tryz.func58 Tryz.results58 Tryz.ntmps58 rfl rfl rfl (by simp[AV.ids,AV0.ids,Atom.ids]) rfl (fun w0 T B E0 hB=>?_)
 refine SX.go2 ?_;exact nC (aj.vN rfl rfl rfl) rfl⟩
instance atb[h:ZI [x0,x1] p k][h':ZI [x2,x3] q m]:Con Tryz.prog 92 [.agg [x0,x1,x2,x3]] (k+m≤1000000000) (.v (.int .i64 (aU (p*q)))):=⟨fun hk=>by
 refine q1 ⟨_,Tryz.func92,rfl,rfl⟩ fun neg n neg2 n2 hz hz2 hn hn2=>?_
 subst hz;subst hz2;have hw:IntKind.i64.wrap (aU (sgn neg n)*aU (sgn neg2 n2))=aU (sgn neg n*sgn neg2 n2):=ah5 _ _;refine PureOK.fnF Tryz.func92 Tryz.results92 Tryz.ntmps92 rfl rfl rfl (by simp[AV.ids,AV0.ids,Atom.ids]) rfl (fun w0 T B E0 hB=>?_)
 refine SX.go2 ?_;exact gV rfl⟩
instance anE[h:ZI [x0,x1] p k][h':ZI [x2,x3] q m]:Con Tryz.prog 143 [.agg [x0,x1,x2,x3]] (k+m≤1000000000) (.agg (uJ (-(rmk p q).1,(rmk p q).2))):=⟨fun hk=>by
 refine q1 ⟨_,Tryz.func143,rfl,rfl⟩ fun neg n neg2 n2 hz hz2 hn hn2=>?_
 subst hz;subst hz2;refine PureOK.fnF Tryz.func143 Tryz.results143 Tryz.ntmps143 rfl rfl rfl (by simp[AV.ids,AV0.ids,Atom.ids]) rfl (fun w0 T B E0 hB=>?_)
 refine SX.go2 ?_;exact nC (aj.vN rfl rfl rfl) rfl⟩
def bW(p q r s:Int):Int×Int:=rmk ((rmk p q).1*(rmk r s).2+(rmk r s).1*(rmk p q).2) ((rmk p q).2*(rmk r s).2)
def bV(p q r s:Int):Int×Int:=rmk ((rmk p q).1*(rmk r s).1) ((rmk p q).2*(rmk r s).2)
def bX(p q r s:Int):Int×Int:=rmk ((rmk p q).1*(rmk r s).2) ((rmk p q).2*(rmk r s).1)
instance amB[h:ZI [x0,x1] p k][h':ZI [x2,x3] q m][g:ZI [y0,y1] r k'][g':ZI [y2,y3] s m']:Con Tryz.prog 142 [.agg [x0,x1,x2,x3],.agg [y0,y1,y2,y3]] (k+m+k'+m'≤10000000) (.agg (uJ (bW p q r s))):=⟨fun hk=>by
 refine q2 ⟨_,Tryz.func142,rfl,rfl⟩ fun neg n neg2 n2 neg3 n3 neg4 n4 hz hz2 hz3 hz4 hn hn2 hn3 hn4=>?_
 subst hz;subst hz2;subst hz3;subst hz4;refine PureOK.fnF Tryz.func142 Tryz.results142 Tryz.ntmps142 rfl rfl rfl (by simp[AV.ids,AV0.ids,Atom.ids]) rfl (fun w0 T B E0 hB=>?_)
 refine SX.go2 ?_;exact nC (aj.vN rfl rfl rfl) rfl⟩
end
end
section
attribute [local irreducible] IntKind.wrap Go1 Reg WP aQ aR bO bN aN aB aj ah aV Sat
attribute [local irreducible] aH zS
theorem anm(z:Int):0 < aU z↔0 < z:=by unfold aU;(repeat' split) <;> omega
theorem vS:AV0.imp (.agg [.c (.val (.bool false)),.c (.val (.slice none 0 0))]) (.agg (zN 0)):=fun E S w v h=>by
 obtain⟨vs,rfl,hall⟩:=h
 match vs,hall with
 |[a,b],⟨h1,h2,_⟩=>
  have h2':b= .slice none 0 0:=h2;subst h2';exact⟨[a,_],rfl,h1,bB.zero,trivial⟩
def bS(p q r s:Int):Int×Int:=bW p q (-(rmk r s).1) (rmk r s).2
section
variable{x0 x1 x2 x3 y0 y1 y2 y3:Atom}{p q r s:Int}{k m k' m':Nat}
instance Bd.arf(p q r s:Int)(k m k' m':Nat)[Bd p k][Bd q m][Bd r k'][Bd s m']:Bd (bW p q r s).1 (3*(k+m+k'+m')+12):=⟨by unfold bW;exact Bd.mono (Bd.ao1 _ _ _ _).h (by omega)⟩
instance Bd.aqU(p q r s:Int)(k m k' m':Nat)[Bd p k][Bd q m][Bd r k'][Bd s m']:Bd (bW p q r s).2 (3*(k+m+k'+m')+12):=⟨by unfold bW;exact Bd.mono (Bd.aly _ _ _ _).h (by omega)⟩
instance Bd.qsub1(p q r s:Int)(k m k' m':Nat)[Bd p k][Bd q m][Bd r k'][Bd s m']:Bd (bS p q r s).1 (6*(k+m+k'+m')+20):=⟨by unfold bS;exact Bd.mono (Bd.arf _ _ _ _ _ _ _ _).h (by omega)⟩
instance Bd.qsub2(p q r s:Int)(k m k' m':Nat)[Bd p k][Bd q m][Bd r k'][Bd s m']:Bd (bS p q r s).2 (6*(k+m+k'+m')+20):=⟨by unfold bS;exact Bd.mono (Bd.aqU _ _ _ _ _ _ _ _).h (by omega)⟩
instance Bd.qmul1(p q r s:Int)(k m k' m':Nat)[Bd p k][Bd q m][Bd r k'][Bd s m']:Bd (bV p q r s).1 (3*(k+m+k'+m')+12):=⟨by unfold bV;exact Bd.mono (Bd.ao1 _ _ _ _).h (by omega)⟩
instance Bd.qmul2(p q r s:Int)(k m k' m':Nat)[Bd p k][Bd q m][Bd r k'][Bd s m']:Bd (bV p q r s).2 (3*(k+m+k'+m')+12):=⟨by unfold bV;exact Bd.mono (Bd.aly _ _ _ _).h (by omega)⟩
instance Bd.qquo1(p q r s:Int)(k m k' m':Nat)[Bd p k][Bd q m][Bd r k'][Bd s m']:Bd (bX p q r s).1 (3*(k+m+k'+m')+12):=⟨by unfold bX;exact Bd.mono (Bd.ao1 _ _ _ _).h (by omega)⟩
instance Bd.qquo2(p q r s:Int)(k m k' m':Nat)[Bd p k][Bd q m][Bd r k'][Bd s m']:Bd (bX p q r s).2 (3*(k+m+k'+m')+12):=⟨by unfold bX;exact Bd.mono (Bd.aly _ _ _ _).h (by omega)⟩
instance con_rSub[h:ZI [x0,x1] p k][h':ZI [x2,x3] q m][g:ZI [y0,y1] r k'][g':ZI [y2,y3] s m']:Con Tryz.prog 93 [.agg [x0,x1,x2,x3],.agg [y0,y1,y2,y3]] (k+m+k'+m'≤1000000) (.agg (uJ (bS p q r s))):=⟨fun hk=>by
 refine q2 ⟨_,Tryz.func93,rfl,rfl⟩ fun neg n neg2 n2 neg3 n3 neg4 n4 hz hz2 hz3 hz4 hn hn2 hn3 hn4=>?_
 subst hz;subst hz2;subst hz3;subst hz4;refine PureOK.fnF Tryz.func93 Tryz.results93 Tryz.ntmps93 rfl rfl rfl (by simp[AV.ids,AV0.ids,Atom.ids]) rfl (fun w0 T B E0 hB=>?_)
 refine SX.go2 ?_;exact nC (aj.vN rfl rfl rfl) rfl⟩
instance aob[h:ZI [x0,x1] p k][h':ZI [x2,x3] q m][g:ZI [y0,y1] r k'][g':ZI [y2,y3] s m']:Con Tryz.prog 358 [.agg [x0,x1,x2,x3],.agg [y0,y1,y2,y3]] (k+m+k'+m'≤10000000) (.agg (uJ (bV p q r s))):=⟨fun hk=>by
 refine q2 ⟨_,Tryz.func358,rfl,rfl⟩ fun neg n neg2 n2 neg3 n3 neg4 n4 hz hz2 hz3 hz4 hn hn2 hn3 hn4=>?_
 subst hz;subst hz2;subst hz3;subst hz4;refine PureOK.fnF Tryz.func358 Tryz.results358 Tryz.ntmps358 rfl rfl rfl (by simp[AV.ids,AV0.ids,Atom.ids]) rfl (fun w0 T B E0 hB=>?_)
 refine SX.go2 ?_;exact nC (aj.vN rfl rfl rfl) rfl⟩
instance aog[h:ZI [x0,x1] p k][h':ZI [x2,x3] q m][g:ZI [y0,y1] r k'][g':ZI [y2,y3] s m']:Con Tryz.prog 345 [.agg [x0,x1,x2,x3],.agg [y0,y1,y2,y3]] (k+m+k'+m'≤10000000) (.tup [.agg (uJ (bX p q r s)),.one (.c (.val (.bool (decide ((rmk p q).2*(rmk r s).1≠0)))))]):=⟨fun hk=>by
 refine q2 ⟨_,Tryz.func345,rfl,rfl⟩ fun neg n neg2 n2 neg3 n3 neg4 n4 hz hz2 hz3 hz4 hn hn2 hn3 hn4=>?_
 subst hz;subst hz2;subst hz3;subst hz4;refine PureOK.fnF Tryz.func345 Tryz.results345 Tryz.ntmps345 rfl rfl rfl (by simp[AV.ids,AV0.ids,Atom.ids]) rfl (fun w0 T B E0 hB=>?_)
 refine SX.go2 ?_;exact qD (aj.vN rfl rfl rfl) (aj.tmp rfl) (AV0.imp.refl _) (AV0.imp.refl _)⟩
def dx(p q r s:Int):Int:=aU ((bS p q r s).1*(bS p q r s).2)
instance amY[h:ZI [x0,x1] p k][h':ZI [x2,x3] q m][g:ZI [y0,y1] r k'][g':ZI [y2,y3] s m']:Con Tryz.prog 51 [.agg [x0,x1,x2,x3],.agg [y0,y1,y2,y3]] (k+m+k'+m'≤1000000) (.v (.int .i64 (dx p q r s))):=⟨fun hk=>by
 refine q2 ⟨_,Tryz.func51,rfl,rfl⟩ fun neg n neg2 n2 neg3 n3 neg4 n4 hz hz2 hz3 hz4 hn hn2 hn3 hn4=>?_
 subst hz;subst hz2;subst hz3;subst hz4;refine PureOK.fnF Tryz.func51 Tryz.results51 Tryz.ntmps51 rfl rfl rfl (by simp[AV.ids,AV0.ids,Atom.ids]) rfl (fun w0 T B E0 hB=>?_)
 refine SX.go2 ?_;exact gV rfl⟩
def rY(p q:Int):Int:=if(rmk p q).2=1 then(rmk p q).1 else 0
instance uq[h:ZI [x0,x1] p k][h':ZI [x2,x3] q m]:Con Tryz.prog 180 [.agg [x0,x1,x2,x3]] (k+m≤1000000) (.tup [.agg (zN (rY p q)),.one (.c (.val (.bool (decide ((rmk p q).2=1)))))]):=⟨fun hk=>by
 refine q1 ⟨_,Tryz.func180,rfl,rfl⟩ fun neg n neg2 n2 hz hz2 hn hn2=>?_
 subst hz;subst hz2;refine PureOK.fnF Tryz.func180 Tryz.results180 Tryz.ntmps180 rfl rfl rfl (by simp[AV.ids,AV0.ids,Atom.ids]) rfl (fun w0 T B E0 hB=>?_)
 by_cases h1:(rmk (sgn neg n) (sgn neg2 n2)).2=1
 ·refine SX.go2 ?_;exact qD (aj.gD rfl rfl rfl) (aj.tmp rfl) (AV0.imp.of_eq (by unfold rY;rw[if_pos h1])) (AV0.imp.of_eq (cb (decide_eq_true h1).symm))
 ·refine SX.go2 ?_;have e:rY (sgn neg n) (sgn neg2 n2)=0:=by unfold rY;rw[if_neg h1]
  rw[e];exact qD (aj.gD rfl rfl rfl) (aj.tmp rfl) vS (AV0.imp.of_eq (cb (decide_eq_false h1).symm))⟩
def rS(q:Int×Int):List UInt8:=if q.2=1 then zS q.1 else zS q.1++[47]++zS q.2
instance agz[h:ZI [x0,x1] p k][h':ZI [x2,x3] q m]:Con Tryz.prog 29 [.agg [x0,x1,x2,x3]] (k+m≤1000000) (.v (str (rS (rmk p q)))):=⟨fun hk=>by
 refine q1 ⟨_,Tryz.func29,rfl,rfl⟩ fun neg n neg2 n2 hz hz2 hn hn2=>?_
 subst hz;subst hz2;have l1:=agl (z:=(rmk (sgn neg n) (sgn neg2 n2)).1);have l2:=agl (z:=(rmk (sgn neg n) (sgn neg2 n2)).2);refine PureOK.fnF Tryz.func29 Tryz.results29 Tryz.ntmps29 rfl rfl rfl (by simp[AV.ids,AV0.ids,Atom.ids]) rfl (fun w0 T B E0 hB=>?_)
 by_cases h1:(rmk (sgn neg n) (sgn neg2 n2)).2=1
 ·refine SX.go2 ?_;refine iN ?_;unfold rS;rw[if_pos h1]
 ·refine SX.go2 ?_;refine iN ?_;unfold rS;rw[if_neg h1]⟩
end
def isR(p q x y:Int):Prop:=(0 < q∧(Int.gcd p q:Int)=1)∧p*y=x*q
attribute [irreducible] isR
end
section
attribute [local irreducible] IntKind.wrap Go1 Reg WP aQ aR bO bN aN aB aj ah aV Sat
attribute [local irreducible] aH zS rY bS bV bX dx rS
theorem aen{x y:Int}(hy:y≠0)(h:y ∣ x):iY x y=x.tdiv y:=by
 have hz:ou x y=0:=by unfold ou;first|(rw[if_neg hy];exact Int.tmod_eq_zero_of_dvd h)|exact Int.tmod_eq_zero_of_dvd h
 unfold iY qy;rw[hz];simp[hy]
theorem abj{x y:Int}(hy:y≠0):0 < (rmk x y).2∧Int.gcd (rmk x y).1 (rmk x y).2=1∧(rmk x y).1*y=x*(rmk x y).2:=by
 have key:∀x y:Int,0 < y→0 < iY y (Int.gcd x y)∧Int.gcd (iY x (Int.gcd x y)) (iY y (Int.gcd x y))=1∧iY x (Int.gcd x y)*y=x*iY y (Int.gcd x y):=by
  intro x y hy;have hg:(Int.gcd x y:Int)≠0:=by
   have:=Int.gcd_ne_zero_right (a:=x) (b:=y) (by omega)
   omega
  have hgp:(0:Int) < Int.gcd x y:=by omega
  obtain⟨a,ha⟩:=Int.gcd_dvd_left x y;obtain⟨b,hb⟩:=Int.gcd_dvd_right x y;have e1:iY x (Int.gcd x y)=a:=by
   rw[aen hg (Int.gcd_dvd_left x y)]
   conv=>lhs;arg 1;rw[ha]
   exact Int.mul_tdiv_cancel_left _ hg
  have e2:iY y (Int.gcd x y)=b:=by
   rw[aen hg (Int.gcd_dvd_right x y)]
   conv=>lhs;arg 1;rw[hb]
   exact Int.mul_tdiv_cancel_left _ hg
  rw[e1,e2];generalize hG:Int.gcd x y=g at*;have hbp:0 < b:=by
   rw[hb]at hy;exact Int.pos_of_mul_pos_right hy (by omega)
  refine⟨hbp,?_,?_⟩
  ·have h1:Int.gcd ((g:Int)*a) ((g:Int)*b)=g*Int.gcd a b:=by rw[Int.gcd_mul_left];simp
   rw[←ha,←hb,hG]at h1;have hgn:0 < g:=by omega
   exact Nat.eq_of_mul_eq_mul_left hgn (by omega)
  ·rw[ha,hb];grind
 unfold rmk;rw[if_neg hy];by_cases h:y < 0
 ·rw[if_pos h];have:=key (-x) (-y) (by omega)
  refine⟨this.1,this.2.1,?_⟩;have h3:=this.2.2
  grind
 ·rw[if_neg h];exact key x y (by omega)
theorem aaR(x:Int):rmk x 0=(0,1):=by unfold rmk;rfl
abbrev qW(b:Bool)(l:List Nat)(c:Bool)(m:List Nat):List Atom:=[.c (.val (.bool b)),.c (.sat (dJ l)),.c (.val (.bool c)),.c (.sat (dJ m))]
end
section
attribute [local irreducible] bS bV bX dx bW
def qv(p q:Int):Rat:=(p:Rat) / (q:Rat)
theorem c0{z:Int}(h:z≠0):(z:Rat)≠0:=fun e=>h (Rat.intCast_inj.1 e)
theorem amf{a b c d:Int}(hb:b≠0)(hd:d≠0)(h:a*d=c*b):qv a b=qv c d:=by
 have h1:=c0 hb;have h2:=c0 hd;have h3:(a:Rat)*d=c*b:=by rw[←Rat.intCast_mul,←Rat.intCast_mul,h]
 unfold qv;grind
theorem nT(p q:Int):0 < (rmk p q).2:=by
 by_cases h:q=0
 ·rw[h,aaR];decide
 ·exact(abj h).1
theorem zP(p q:Int):Int.gcd (rmk p q).1 (rmk p q).2=1:=by
 by_cases h:q=0
 ·rw[h,aaR];decide
 ·exact(abj h).2.1
theorem iE(p q:Int):qv (rmk p q).1 (rmk p q).2=qv p q:=by
 by_cases h:q=0
 ·rw[h,aaR];unfold qv;grind
 ·have hs:=abj (x:=p) h;exact amf (by omega) h hs.2.2
structure Rd(X:Int×Int)(v:Rat)(K:Nat):Prop where
 v:qv X.1 X.2=v
 d:0 < X.2
 g:Int.gcd X.1 X.2=1
 b1:Bd X.1 K
 b2:Bd X.2 K
theorem Rd.rmk{p q:Int}{k m K:Nat}{v:Rat}(h:Bd p k)(h':Bd q m)(hv:qv p q=v)(hK:k+m+1≤K):Rd (rmk p q) v K:=
 ⟨(iE p q).trans hv,nT p q,zP p q,⟨Bd.mono (Bd.ao1 p q k m).h hK⟩,⟨Bd.mono (Bd.aly p q k m).h hK⟩⟩
class Ra(l:List Atom)(v:outParam Rat)(K:outParam Nat):Prop where
 h:∃x0 x1 x2 x3 p q k m,l=[x0,x1,x2,x3]∧ZI [x0,x1] p k∧ZI [x2,x3] q m∧k≤K∧m≤K∧Bd p k∧Bd q m∧qv p q=v
theorem Ra.raw{b c:Bool}{l m:List Nat}{K:Nat}(i1:BdN (nval WB l) l.length)(i2:BdN (nval WB m) m.length)(h1:l.length≤K)(h2:m.length≤K):Ra (qW b l c m) (qv (sgn b (nval WB l)) (sgn c (nval WB m))) K:=
 ⟨_,_,_,_,_,_,_,_,rfl,inferInstance,inferInstance,h1,h2,inferInstance,inferInstance,rfl⟩
section
variable{l l':List Atom}{v v':Rat}{K K':Nat}
theorem arB{a b c d:Int}:qv (a*d) (b*c)=qv a b / qv c d:=by
 unfold qv;rw[Rat.intCast_mul,Rat.intCast_mul];grind
theorem al9{a b c d:Int}:qv (a*c) (b*d)=qv a b*qv c d:=by
 unfold qv;rw[Rat.intCast_mul,Rat.intCast_mul];grind
theorem arF{a b c d:Int}(hb:b≠0)(hd:d≠0):qv (a*d+c*b) (b*d)=qv a b+qv c d:=by
 have h1:=c0 hb;have h2:=c0 hd;unfold qv;rw[Rat.intCast_add,Rat.intCast_mul,Rat.intCast_mul,Rat.intCast_mul];grind
theorem anS{a b:Int}:qv (-a) b= -qv a b:=by
 unfold qv;rw[Rat.intCast_neg];grind
theorem aeL(p q r s:Int):qv (bW p q r s).1 (bW p q r s).2=qv p q+qv r s:=by
 have h1:=nT p q;have h2:=nT r s;unfold bW;rw[iE,arF (by omega) (by omega),iE,iE]
theorem aos(p q r s:Int):qv (bV p q r s).1 (bV p q r s).2=qv p q*qv r s:=by
 unfold bV;rw[iE,al9,iE,iE]
theorem aoz(p q r s:Int):qv (bX p q r s).1 (bX p q r s).2=qv p q / qv r s:=by
 unfold bX;rw[iE,arB,iE,iE]
theorem aoy(p q r s:Int):qv (bS p q r s).1 (bS p q r s).2=qv p q - qv r s:=by
 unfold bS;rw[aeL,anS,iE];grind
theorem aix(p q r s:Int):∃x y,bW p q r s=rmk x y:=⟨_,_,by unfold bW;rfl⟩
theorem aiH(p q r s:Int):∃x y,bV p q r s=rmk x y:=⟨_,_,by unfold bV;rfl⟩
theorem aib(p q r s:Int):∃x y,bX p q r s=rmk x y:=⟨_,_,by unfold bX;rfl⟩
theorem mk_pos{X:Int×Int}(h:∃x y,X=rmk x y):0 < X.2∧Int.gcd X.1 X.2=1:=by
 obtain⟨x,y,rfl⟩:=h;exact⟨nT x y,zP x y⟩
theorem ajr{a b:Int}:(aU (a*b)=0↔qv a b=0)∧(aU (a*b) < 0↔qv a b < 0):=by
 have key:∀a b:Int,0 < b→(a*b=0↔qv a b=0)∧(a*b < 0↔qv a b < 0):=by
  intro a b hb;have h1:(0:Rat) < b:=by rw[show (0:Rat)=((0:Int):Rat)from rfl];exact Rat.intCast_lt_intCast.2 hb
  have ea:(a:Rat)=qv a b*b:=by unfold qv;grind
  constructor
  ·rw[Int.mul_eq_zero];constructor
   ·rintro(h|h)
    ·unfold qv;rw[h];grind
    ·omega
   ·intro h;rw[h]at ea;left;exact Rat.intCast_inj.1 (by rw[ea];grind)
  ·have hneg:a*b < 0↔a < 0:=by
    constructor
    ·intro h;exact Decidable.byContradiction fun hn=>by
      have:=Int.mul_nonneg (show 0≤a by omega) (show 0≤b by omega)
      omega
    ·intro h;exact Int.mul_neg_of_neg_of_pos h hb
   have ha:a < 0↔(a:Rat) < 0:=by rw[show (0:Rat)=((0:Int):Rat)from rfl,Rat.intCast_lt_intCast]
   rw[hneg,ha,ea];generalize qv a b=v at*;generalize (b:Rat)=c at*;constructor
   ·intro h;exact Decidable.byContradiction fun hn=>by
     have:=Rat.mul_nonneg (show 0≤v by grind) (show 0≤c by grind)
     grind
   ·intro h;have:=Rat.mul_pos (show 0 < -v by grind) h1
    grind
 have hn:aU (a*b) < 0↔a*b < 0:=agT _;have hz:aU (a*b)=0↔a*b=0:=ad5 _;rw[hn,hz];by_cases hb:b=0
 ·subst hb;have:qv a 0=0:=by unfold qv;grind
  rw[this];simp
 ·by_cases hb0:0 < b
  ·exact key a b hb0
  ·have h:=key (-a) (-b) (by omega)
   have e:qv (-a) (-b)=qv a b:=amf (by omega) hb (by grind)
   rw[e,show -a* -b=a*b by grind]at h
   exact h
theorem alS{p q r s:Int}:(dx p q r s=0↔qv p q=qv r s)∧(dx p q r s < 0↔qv p q < qv r s)∧(0 < dx p q r s↔qv r s < qv p q):=by
 have h:=ajr (a:=(bS p q r s).1) (b:=(bS p q r s).2);rw[aoy]at h;unfold dx;generalize aU ((bS p q r s).1*(bS p q r s).2)=z at*;have h1:z=0↔qv p q=qv r s:=by rw[h.1];constructor <;> intro <;> grind
 have h2:z < 0↔qv p q < qv r s:=by rw[h.2];constructor <;> intro <;> grind
 refine⟨h1,h2,?_⟩;have:0 < z↔¬z=0∧¬z < 0:=by omega
 rw[this,h1,h2];constructor
 ·intro ⟨a,b⟩;grind
 ·intro a;constructor <;> grind
theorem eAdd(l l':List Atom)[a:Ra l v K][b:Ra l' v' K'](h:K+K'≤1000000):∃X,PureOK Tryz.prog 142 [.agg l,.agg l'] (.agg (uJ X))∧Rd X (v+v') (6*(K+K')+20):=by
 obtain⟨x0,x1,x2,x3,p,q,k,m,rfl,z1,z2,hk,hm,b1,b2,hv⟩:=a.h;obtain⟨y0,y1,y2,y3,r,s,k',m',rfl,z3,z4,hk',hm',b3,b4,hv'⟩:=b.h;exact⟨_,(amB (h:=z1) (h':=z2) (g:=z3) (g':=z4)).h (by omega),⟨by rw[aeL,hv,hv'],(mk_pos (aix ..)).1,(mk_pos (aix ..)).2,⟨Bd.mono (Bd.arf p q r s k m k' m').h (by omega)⟩,⟨Bd.mono (Bd.aqU p q r s k m k' m').h (by omega)⟩⟩⟩
theorem eMul(l l':List Atom)[a:Ra l v K][b:Ra l' v' K'](h:K+K'≤1000000):∃X,PureOK Tryz.prog 358 [.agg l,.agg l'] (.agg (uJ X))∧Rd X (v*v') (6*(K+K')+20):=by
 obtain⟨x0,x1,x2,x3,p,q,k,m,rfl,z1,z2,hk,hm,b1,b2,hv⟩:=a.h;obtain⟨y0,y1,y2,y3,r,s,k',m',rfl,z3,z4,hk',hm',b3,b4,hv'⟩:=b.h;exact⟨_,(aob (h:=z1) (h':=z2) (g:=z3) (g':=z4)).h (by omega),⟨by rw[aos,hv,hv'],(mk_pos (aiH ..)).1,(mk_pos (aiH ..)).2,⟨Bd.mono (Bd.qmul1 p q r s k m k' m').h (by omega)⟩,⟨Bd.mono (Bd.qmul2 p q r s k m k' m').h (by omega)⟩⟩⟩
theorem eQuo(l l':List Atom)[a:Ra l v K][b:Ra l' v' K'](h:K+K'≤1000000):∃X ok,PureOK Tryz.prog 345 [.agg l,.agg l'] (.tup [.agg (uJ X),.one (.c (.val (.bool ok)))])∧Rd X (v / v') (6*(K+K')+20)∧(ok=true↔v'≠0):=by
 obtain⟨x0,x1,x2,x3,p,q,k,m,rfl,z1,z2,hk,hm,b1,b2,hv⟩:=a.h;obtain⟨y0,y1,y2,y3,r,s,k',m',rfl,z3,z4,hk',hm',b3,b4,hv'⟩:=b.h;refine⟨_,_,(aog (h:=z1) (h':=z2) (g:=z3) (g':=z4)).h (by omega),⟨by rw[aoz,hv,hv'],(mk_pos (aib ..)).1,(mk_pos (aib ..)).2,⟨Bd.mono (Bd.qquo1 p q r s k m k' m').h (by omega)⟩,⟨Bd.mono (Bd.qquo2 p q r s k m k' m').h (by omega)⟩⟩,?_⟩
 have h1:=nT p q;have h2:=nT r s;rw[decide_eq_true_iff,←hv',←iE r s];have e:qv (rmk r s).1 (rmk r s).2=0↔(rmk r s).1=0:=by
  have:=(ajr (a:=(rmk r s).1) (b:=(rmk r s).2)).1;rw[←this,ad5,Int.mul_eq_zero];omega
 rw[Ne,Ne,e,Int.mul_eq_zero];omega
theorem eCmp(l l':List Atom)[a:Ra l v K][b:Ra l' v' K'](h:K+K'≤400000):∃z:Int,PureOK Tryz.prog 51 [.agg l,.agg l'] (.v (.int .i64 z))∧(z=0↔v=v')∧(z < 0↔v < v')∧(0 < z↔v' < v):=by
 obtain⟨x0,x1,x2,x3,p,q,k,m,rfl,z1,z2,hk,hm,b1,b2,hv⟩:=a.h;obtain⟨y0,y1,y2,y3,r,s,k',m',rfl,z3,z4,hk',hm',b3,b4,hv'⟩:=b.h;exact⟨_,(amY (h:=z1) (h':=z2) (g:=z3) (g':=z4)).h (by omega),by rw[←hv,←hv'];exact alS⟩
theorem eNeg(l:List Atom)[a:Ra l v K](h:K≤400000):∃X,PureOK Tryz.prog 143 [.agg l] (.agg (uJ X))∧Rd X (-v) (2*K+1):=by
 obtain⟨x0,x1,x2,x3,p,q,k,m,rfl,z1,z2,hk,hm,b1,b2,hv⟩:=a.h;exact⟨_,(anE (h:=z1) (h':=z2)).h (by omega),⟨by show qv (-(rmk p q).1) (rmk p q).2=_;rw[anS,iE,hv],nT p q,by show Int.gcd (-(rmk p q).1) _=1;rw[Int.neg_gcd];exact zP p q,⟨by show (-(rmk p q).1).natAbs < _;rw[Int.natAbs_neg];exact Bd.mono (Bd.ao1 p q k m).h (by omega)⟩,⟨Bd.mono (Bd.aly p q k m).h (by omega)⟩⟩⟩
end
end
section
attribute [local irreducible] IntKind.wrap Go1 Reg WP aQ aR bO bN aN aB aj ah aV Sat
attribute [local irreducible] bS bV bX dx bW qv
section
instance ahP(b:Bool)(l:List Nat)(c:Bool)(m:List Nat)(z:Int):Con Tryz.prog 15 [.agg (qW b l c m),.v (.int .i64 z)] True (.v (.bool (decide ((l.length:Int)≤z∧(m.length:Int)≤z)))):=⟨fun _=>by
 refine PureOK.fnF Tryz.func15 Tryz.results15 Tryz.ntmps15 rfl rfl rfl (by simp[AV.ids,AV0.ids,Atom.ids]) rfl (fun w0 T B E0 hB=>?_)
 by_cases h1:(l.length:Int)≤z
 ·refine SX.go2 ?_;refine aG ?_;rw[decide_eq_decide];exact⟨fun h=>⟨h1,h⟩,fun h=>h.2⟩
 ·refine SX.go2 ?_;refine aG ?_;rw[eq_comm];exact decide_eq_false (fun h=>h1 h.1)⟩
instance Bd.zround(x y:Int)(k m:Nat)[hx:Bd x k][hy:Bd y m]:Bd (zround x y) (k+k+1+m+1+1+1):=⟨by
 unfold Proofs.YtmgfiodmdfaclaaGreatDoor.zround
 split
 ·exact(Bd.zfq (-x+ -x+ -y) (-y+ -y) _).h
 ·exact(Bd.zfq (x+x+y) (y+y) _).h⟩
attribute [local irreducible] zround zfq
end
section
theorem qv_lt{n d m e:Int}(hd:0 < d)(he:0 < e):(qv n d < qv m e↔n*e < m*d)∧(qv n d=qv m e↔n*e=m*d):=by
 have hd':(0:Rat) < d:=by rw[show (0:Rat)=((0:Int):Rat)from rfl];exact Rat.intCast_lt_intCast.2 hd
 have he':(0:Rat) < e:=by rw[show (0:Rat)=((0:Int):Rat)from rfl];exact Rat.intCast_lt_intCast.2 he
 have en:(n:Rat)=qv n d*d:=by unfold qv;grind
 have em:(m:Rat)=qv m e*e:=by unfold qv;grind
 have hde:=Rat.mul_pos hd' he';constructor
 ·rw[←Rat.intCast_lt_intCast (a:=n*e),Rat.intCast_mul,Rat.intCast_mul,en,em];generalize qv n d=v at*;generalize qv m e=u at*;constructor
  ·intro h;have:=Rat.mul_pos (show 0 < u - v by grind) hde
   grind
  ·intro h;exact Decidable.byContradiction fun hn=>by
    have:=Rat.mul_nonneg (show 0≤v - u by grind) (show (0:Rat)≤(d:Rat)*e by grind)
    grind
 ·rw[←Rat.intCast_inj (a:=n*e),Rat.intCast_mul,Rat.intCast_mul,en,em];generalize qv n d=v at*;generalize qv m e=u at*;constructor
  ·intro h;rw[h];grind
  ·intro h;have h0:(v - u)*((d:Rat)*e)=0:=by grind
   rcases Rat.mul_eq_zero.1 h0 with h1|h1
   ·grind
   ·rw[h1]at hde;grind
attribute [local irreducible] aU zn sgn
end
section
theorem Rd.uniq{p q r s:Int}(h1:0 < q)(g1:Int.gcd p q=1)(h2:0 < s)(g2:Int.gcd r s=1)(hv:qv p q=qv r s):p=r∧q=s:=by
 have he:=(qv_lt (n:=p) (m:=r) h1 h2).2.1 hv;have d1:q ∣ s:=by
  have:q ∣ p*s:=⟨r,by rw[he,Int.mul_comm]⟩
  exact Int.natAbs_dvd_natAbs.1 (Nat.Coprime.dvd_of_dvd_mul_left (show Nat.gcd q.natAbs p.natAbs=1 by rw[Nat.gcd_comm];exact g1) (by rw[←Int.natAbs_mul];exact Int.natAbs_dvd_natAbs.2 this))
 have d2:s ∣ q:=by
  have:s ∣ r*q:=⟨p,by rw[←he,Int.mul_comm]⟩
  exact Int.natAbs_dvd_natAbs.1 (Nat.Coprime.dvd_of_dvd_mul_left (show Nat.gcd s.natAbs r.natAbs=1 by rw[Nat.gcd_comm];exact g2) (by rw[←Int.natAbs_mul];exact Int.natAbs_dvd_natAbs.2 this))
 have e:q=s:=Int.dvd_antisymm (by omega) (by omega) d1 d2
 subst e;exact⟨Int.eq_of_mul_eq_mul_right (by omega) he,rfl⟩
attribute [local irreducible] zpowv powok sgn aU
section
variable{x0 x1 x2 x3:Atom}{p q:Int}{k m:Nat}
end
end
end
end Go.Proofs.YtmgfiodmdfaclaaGreatDoor