import Derived.Test.YtegehclknhmkgaaGreatDoorA13
import Derived.Test.YtegehclknhmkgaaGreatDoorA36
import Derived.Test.YtegehclknhmkgaaGreatDoorA14
import Derived.Test.YtegehclknhmkgaaGreatDoorA9
set_option linter.unusedVariables false
set_option linter.unusedSimpArgs false
namespace Go.Proofs.YtegehclknhmkgaaGreatDoor
section
open Go.RowKit QM SX
open Go.ChangeShapes Go.WideShapes Go.ChangeAt Go.Joins
section
variable{H:Type}{enc:TypeId×Value→H}{P:Program}{W:World}{base:Nat}{sp:Nat→Bool}{hd:Bool}
end
end
section
open Go.RowKit QM SX LA
open Go.ChangeShapes Go.WideShapes Go.ChangeAt Go.Joins
section
variable{H:Type}{enc:TypeId×Value→H}{W:World}{base:Nat}{sp:Nat→Bool}{hd:Bool}
end
attribute [local irreducible] IntKind.wrap Go1 Reg WP aN aQ bM bI aL aC aj ah aT Sat
attribute [local irreducible] dz bU bV dA bT qv dN mf
theorem Ra.mono{l:List Atom}{v:Rat}{K L:Nat}(h:Ra l v K)(hK:K≤L):Ra l v L:=by
 obtain⟨x0,x1,x2,x3,p,q,k,m,h1,h2,h3,h4,h5,h6,h7,h8⟩:=h.h;exact⟨x0,x1,x2,x3,p,q,k,m,h1,h2,h3,by omega,by omega,h6,h7,h8⟩
end
section
open Go.RowKit QM SX LA
attribute [local irreducible] IntKind.wrap Go1 Reg WP aN aQ bM bI aL aC aj ah aT Sat
attribute [local irreducible] dz bU bV dA bT qv dN mf
def q0:Q4:=q4v 0
def qat(l:List Q4)(c i k:Nat):Q4:=l.getD (i*c+k) q0
theorem alA{l:List Q4}{r c i k:Nat}(hl:l.length=r*c)(hi:i < r)(hk:k < c):l[i*c+k]? =some (qat l c i k):=by
 have h:=y8 hi hk;unfold qat;rw[List.getD_eq_getElem?_getD,List.getElem?_eq_getElem (by omega)];rfl
theorem MV.qat{r c i k K:Nat}{l:List Q4}{vs:List Rat}(hM:MV l vs K)(hl:l.length=r*c)(hi:i < r)(hk:k < c):Ra (q4A (qat l c i k)) (vat vs c i k) K:=
 hM.ra _ _ _ (alA hl hi hk) (ajA (by rw[←hM.len];exact hl) hi hk)
theorem amM{vs:List Rat}{r c:Nat}(hl:vs.length=r*c):kC c (vat vs c) r=vs:=by
 apply List.ext_getElem?
 intro n;rcases Nat.lt_or_ge n (r*c)with h|h
 ·have hc:0 < c:=by
   rcases Nat.eq_zero_or_pos c with h0|h0
   ·subst h0;omega
   ·exact h0
  have h1:n / c < r:=by rw[Nat.div_lt_iff_lt_mul hc];exact h
  have h2:=Nat.mod_lt n hc;have h3:n / c*c+n % c=n:=by rw[Nat.mul_comm];exact Nat.div_add_mod n c
  have a1:=abe (val:=vat vs c) h2 h1;have a2:=ajA hl h1 h2;rw[h3]at a1 a2;rw[a1,a2]
 ·rw[List.getElem?_eq_none (by rw[lu];exact h),List.getElem?_eq_none (by omega)]
end
section
open Go.RowKit QM SX LA
open Go.ChangeShapes Go.WideShapes Go.ChangeAt Go.Joins
abbrev qd:=Bool×List Nat
abbrev rz(x:qd):Z2:=(x.1,dQ x.2)
def rzv(x:qd):Int:=sgn x.1 (nval WB x.2)
section
variable{H:Type}{enc:TypeId×Value→H}{W:World}{base:Nat}{sp:Nat→Bool}{hd:Bool}
end
attribute [local irreducible] IntKind.wrap Go1 Reg WP aN aQ bM bI aL aC aj ah aT Sat
attribute [local irreducible] dz bU bV dA bT qv dN mf
end
section
open Go.RowKit QM SX LA
def ah6:List Rat→Nat
 |[]=>1
 |v::l=>Nat.lcm (ah6 l) v.den
theorem zq:∀l,0 < ah6 l
 |[]=>by decide
 |v::l=>Nat.lcm_pos (zq l) (Nat.pos_of_ne_zero v.den_nz)
theorem adL:∀{l:List Rat} {v:Rat},v∈l→v.den ∣ ah6 l
 |w::l,v,h=>by
  rcases List.mem_cons.1 h with rfl|h
  ·exact Nat.dvd_lcm_right _ _
  ·exact Nat.dvd_trans (adL h) (Nat.dvd_lcm_left _ _)
theorem yL:∀{l:List Rat} {n:Nat},(∀v∈l,v.den ∣ n)→ah6 l ∣ n
 |[],n,_=>Nat.one_dvd n
 |v::l,n,h=>Nat.lcm_dvd (yL fun w hw=>h w (by simp[hw])) (h v (by simp))
theorem afN{K:Nat}:∀{l:List Rat},(∀v∈l,RB v K)→ah6 l < WB ^ (1+l.length*K)
 |[],_=>by
  have:=bY;show 1 < WB ^ (1+0*K);rw[Nat.zero_mul,Nat.add_zero,Nat.pow_one];omega
 |v::l,h=>by
  have h1:=afN (l:=l) fun w hw=>h w (by simp[hw])
  have h2:=(h v (by simp)).d
  refine Nat.lt_of_le_of_lt (Nat.le_of_dvd (Nat.mul_pos (zq l) (Nat.pos_of_ne_zero v.den_nz)) (Nat.lcm_dvd (Nat.dvd_mul_right _ _) (Nat.dvd_mul_left _ _))) ?_;have h3:=gT h1 h2;rw[List.length_cons,Nat.succ_mul,←Nat.add_assoc];exact h3
def gY(l:List Rat):Nat:=ah6 l.reverse
theorem ahS{l:List Rat}{v:Rat}:gY (l++[v])=Nat.lcm (gY l) v.den:=by
 unfold gY;rw[List.reverse_append];rfl
def qj(z:Int):Rat:=qv z 1
theorem afD(z:Int):qj z=(z:Rat):=by unfold qj qv;grind
theorem aa5{v:Rat}{D:Nat}(h:v.den ∣ D)(hD:0 < D):(v*qj D).den=1∧qv (v*qj D).num D=v∧(v*qj D).num.natAbs≤v.num.natAbs*D:=by
 obtain⟨c,rfl⟩:=h;have hd:=v.den_nz;have hq:=c0 (oM v);have hc:(c:Rat)≠0:=fun e=>by
  have:c=0:=by exact_mod_cast e
  subst this;simp at hD
 have e:v*qj ((v.den*c:Nat):Int)=((v.num*c:Int):Rat):=by
  rw[afD,Int.natCast_mul,Rat.intCast_mul,Rat.intCast_mul];have hv:=iT v;unfold qv at hv;generalize ((v.den:Int):Rat)=d at*;generalize ((v.num:Int):Rat)=n at*;rw[←hv];grind
 rw[e];refine⟨Rat.den_intCast _,?_,?_⟩
 ·rw[Rat.num_intCast];refine(aj7 (by omega) (oM v) ?_).trans (iT v)
  rw[Int.natCast_mul];grind
 ·rw[Rat.num_intCast,Int.natAbs_mul,Int.natAbs_natCast];exact Nat.mul_le_mul_left _ (Nat.le_mul_of_pos_left c (Nat.pos_of_ne_zero hd))
def mU(vs:List Rat):List Int:=vs.map fun v=>(v*qj (gY vs)).num
theorem sH(l:List Rat):0 < gY l:=zq _
theorem aee{l:List Rat}{v:Rat}(h:v∈l):v.den ∣ gY l:=adL (List.mem_reverse.2 h)
theorem aeF{l:List Rat}{n:Nat}(h:∀v∈l,v.den ∣ n):gY l ∣ n:=yL fun v hv=>h v (List.mem_reverse.1 hv)
end
section
open Go.RowKit QM SX LA
attribute [local irreducible] IntKind.wrap Go1 Reg WP aN aQ bM bI aL aC aj ah aT Sat
attribute [local irreducible] dz bU bV dA bT qv dN mf
theorem wds_0:(wds 0).length=0:=by
 have:=nS (n:=0) (k:=0) (by rw[Nat.pow_zero];decide)
 omega
theorem aek{a b:CA}{x y k m:Nat}[ha:NI a x k][hb:NI b y m](hd:y ∣ x)(hy:y≠0)(hk:k+m≤1099511627770):PureOK Tryz.prog 544 [.it (.one (.c a)),.it (.one (.c b))] (.tup [.one (.c (.sat (bC (x / y)))),.one (.c (.val (.bool true)))]):=by
 have cD:=abm (ha:=ha) (hb:=hb) hk;rw[if_neg hy,Nat.mod_eq_zero_of_dvd hd,decide_eq_true hy]at cD;have hw:=wds_0;refine PureOK.fnF Tryz.func544 Tryz.results544 Tryz.ntmps544 rfl rfl rfl (by simp[AV.ids,AV0.ids,Atom.ids]) rfl (fun w0 T B E0 hB=>?_)
 refine SX.goM ?_;exact .ok (aC.mk2 (aj.tmp rfl) (aj.tmp rfl))
theorem alK{a b:CA}{x y k m:Nat}[ha:NI a x k][hb:NI b y m](hx:x≠0)(hy:y≠0)(hbx:x < WB ^ k)(hby:y < WB ^ m)(hk:k+m≤1000000):PureOK Tryz.prog 482 [.it (.one (.c a)),.it (.one (.c b))] (.r (bC (Nat.lcm x y))):=by
 have hg0:Nat.gcd x y≠0:=fun e=>hx (Nat.eq_zero_of_gcd_eq_zero_left e)
 have hgx:Nat.gcd x y≤x:=Nat.le_of_dvd (by omega) (Nat.gcd_dvd_left x y)
 haveI iG:NI (.sat (bC (Nat.gcd x y))) (Nat.gcd x y) k:=NI.abD (Nat.lt_of_le_of_lt hgx hbx)
 have hqx:x / Nat.gcd x y≤x:=Nat.div_le_self _ _
 haveI iQ:NI (.sat (bC (x / Nat.gcd x y))) (x / Nat.gcd x y) k:=NI.abD (Nat.lt_of_le_of_lt hqx hbx)
 have cG:=dGcd (ha:=ha) (hb:=hb) (by omega)
 have b1:=adA (ha:=ha) (by omega)
 have b2:=adA (ha:=hb) (by omega)
 have h1:bitLen x≠0:=fun e=>hx (lT.1 e)
 have h2:bitLen y≠0:=fun e=>hy (lT.1 e)
 have cE:=aek (ha:=ha) (hb:=iG) (Nat.gcd_dvd_left x y) hg0 (by omega)
 have cM:=mMul (ha:=iQ) (hb:=hb) (by omega)
 have e:x / Nat.gcd x y*y=Nat.lcm x y:=by
  unfold Nat.lcm;rw[Nat.div_mul_right_comm (Nat.gcd_dvd_left x y)]
 rw[e]at cM;generalize bitLen x=p at*;generalize bitLen y=q at*;refine PureOK.fnF Tryz.func482 Tryz.results482 Tryz.ntmps482 rfl rfl rfl (by simp[AV.ids,AV0.ids,Atom.ids]) rfl (fun w0 T B E0 hB=>?_)
 refine SX.goM ?_;exact ret1 rfl
theorem an9{v:Rat}{K:Nat}(hv:RB v K)(hd:v.den=1)(hK:K≤100000):PureOK Tryz.prog 193 [.agg (qA v)] (.tup [.agg (zN v.num),.one (.c (.val (.bool true)))]):=by
 haveI b1:Bd v.num K:=⟨hv.n⟩
 haveI b2:Bd (v.den:Int) K:=⟨by rw[Int.natAbs_natCast];exact hv.d⟩
 have h1:ZI [.c (.val (.bool (decide (v.num < 0)))),.c (.sat (bC v.num.natAbs))] v.num K:=inferInstance;have h2:ZI [.c (.val (.bool (decide ((v.den:Int) < 0)))),.c (.sat (bC (v.den:Int).natAbs))] (v.den:Int) K:=inferInstance;have c:=(zK (h:=h1) (h':=h2)).h (by omega)
 have e:rmk v.num (v.den:Int)=(v.num,(v.den:Int)):=(Rd.rmk b1 b2 (iT v) (Nat.le_refl _)).nf;have e2:oD v.num (v.den:Int)=v.num:=by
  unfold oD;rw[e,hd];rfl
 rw[e2,e,decide_eq_true (show (v.num,(v.den:Int)).2=1 by rw[hd];rfl)]at c
 exact c
theorem j5{α:Type}{l:List α}{k:Nat}{a:α}(h:l[k]? =some a):l.take (k+1)=l.take k++[a]:=by
 rw[List.take_add_one,h];rfl
theorem aaA{vs:List Rat}{k:Nat}{v:Rat}(h:vs[k]? =some v):gY (vs.take (k+1))=Nat.lcm (gY (vs.take k)) v.den:=by
 rw[j5 h,ahS]
theorem rA{vs:List Rat}{K:Nat}(h:∀v∈vs,RB v K)(k:Nat):gY (vs.take k) < WB ^ (1+vs.length*K):=by
 have h1:=afN (l:=(vs.take k).reverse) (K:=K) fun v hv=>h v (List.mem_of_mem_take (List.mem_reverse.1 hv))
 refine Nat.lt_of_lt_of_le h1 (Nat.pow_le_pow_right aU ?_);rw[List.length_reverse,List.length_take];have:=Nat.mul_le_mul_right K (Nat.min_le_right k vs.length);omega
theorem ai2{r c:Nat}{l:List Q4}{vs:List Rat}{K:Nat}(hM:MV l vs K)(hl:l.length=r*c)(hr:r≤64)(hc:c≤64)(hK1:1≤K)(hB0:1+(r*c+1)*K≤50000):
  PureOK Tryz.prog 399 [.agg (aad r c l)] (.tup [.agg (xU r c (mU vs)),.agg (zN ((gY vs:Nat):Int)),eNo 0]):=by
 have hvl:vs.length=r*c:=by rw[←hM.len];exact hl
 have hrc:=Nat.mul_le_mul hr hc;have hKn:K≤50000:=by
  have:=Nat.mul_le_mul_right K (show 1≤r*c+1 by omega)
  omega
 have hKm:1+vs.length*K≤50000:=by
  rw[hvl];have:=Nat.mul_le_mul_right K (show r*c≤r*c+1 by omega)
  omega
 have cF:=ahf (cells:=l.flatMap q4C) hl hr hc;have cM:=adD r c (.sat (cloA 334 [.val (.int .i64 (r:Int)),.val (.int .i64 (c:Int)),.sat (aF 4 q4C l)])) (fun i k=>qat l c i k) (vat vs c) K (by omega) (by omega) (by omega)
  (fun i k hi hk=>FnV.bound (an5 (alA hl hi hk) (by omega) (by omega) (by omega))) (fun i k hi hk=>hM.qat hl hi hk) rfl
 rw[amM hvl,aaZ]at cM;have hlen:(vs.map q4v).length=r*c:=by rw[List.length_map];exact hvl
 have hRB:=hM.rb hK1;have o1:=ajt;have hms:(mU vs).length=vs.length:=List.length_map _;refine PureOK.fnF Tryz.func399 Tryz.results399 Tryz.ntmps399 rfl rfl rfl (by simp[AV.ids,AV0.ids,Atom.ids]) rfl (fun w0 T B E0 hB=>?_)
 refine SX.goM ?_;refine SX.WP.aB ?_;refine SX.goM ?_;refine W.loop (fun k=>k≤vs.length) (fun k=>[(1,.ptr 1 0),(2,.ptr 2 0),(3,.ptr 3 0),(5,.ptr 5 0),(27,.r (aF 4 q4C (vs.map q4v))),(28,.v (.int .i64 ((vs.map q4v).length:Int))),(29,.v (.int .i64 (k:Int)))]) (fun k=>[(1,.box 41 (aad r c (vs.map q4v))),(2,.box 281 mat0),(3,.box 27 [.c (.val (.bool false)),.c (.val (.slice none 0 0))]),(5,.box 27 (zN ((gY (vs.take k):Nat):Int)))]) (fun k=>vs.length - k) 0 (Nat.zero_le _) (fun k hk=>?_)
  (by
   refine SX.St.bG [] (by intro b h;cases h) ?_ ?_ rfl
   ·repeat(first|exact trivial|refine⟨⟨_,rfl,SX.aG.same rfl⟩,?_⟩)
   ·exact⟨SX.ak.same rfl rfl,SX.ak.same rfl rfl,SX.ak.same rfl rfl,SX.ak.same rfl rfl,trivial⟩)
 by_cases hk2:k < vs.length
 ·obtain⟨v,hx⟩:∃v,vs[k]? =some v:=⟨_,List.getElem?_eq_getElem hk2⟩
  have hq:(vs.map q4v)[k]? =some (q4v v):=by rw[List.getElem?_map,hx];rfl
  have hk3:k < (vs.map q4v).length:=yZ hq;have hvb:=hRB v (List.mem_of_getElem? hx);have hlb:=rA hRB k;have hlb2:=rA hRB (k+1);rw[aaA hx]at hlb2
  haveI n1:NI (.sat (bC (gY (vs.take k)))) (gY (vs.take k)) (1+vs.length*K):=NI.abD hlb
  haveI n2:NI (.sat (bC v.den)) v.den K:=NI.abD hvb.d
  haveI n3:NI (.sat (bC (Nat.lcm (gY (vs.take k)) v.den))) (Nat.lcm (gY (vs.take k)) v.den) (1+vs.length*K):=NI.abD hlb2
  have cL:PureOK Tryz.prog 482 [.r (bC ((gY (vs.take k):Nat):Int).natAbs),.r (bC ((v.den:Nat):Int).natAbs)] (.r (bC (Nat.lcm (gY (vs.take k)) v.den))):=alK (ha:=n1) (hb:=n2) (by have:=sH (vs.take k);omega) v.den_nz hlb hvb.d (by omega)
  have cR:PureOK Tryz.prog 17 [.r (bC (Nat.lcm (gY (vs.take k)) v.den)),.v (.bool false)] (.agg (zN ((Nat.lcm (gY (vs.take k)) v.den:Nat):Int))):=(aaW (h:=n3) false).h (by omega)
  have e5:Ent.box 27 (zN ((Nat.lcm (gY (vs.take k)) v.den:Nat):Int))=Ent.box 27 (zN ((gY (vs.take (k+1)):Nat):Int)):=by rw[aaA hx]
  refine SX.goM ?_;refine W.next (k+1) hk2 (by omega) (by
   refine SX.St.bG [] (by intro b h;cases h) ?_ ?_ rfl
   ·repeat(first|exact trivial|refine⟨⟨_,rfl,SX.aG.same rfl⟩,?_⟩)
   ·exact⟨SX.ak.same rfl rfl,SX.ak.same rfl rfl,SX.ak.same rfl rfl,SX.ak.eq rfl e5 rfl,trivial⟩)
 ·obtain rfl:k=vs.length:=by omega
  have hk3:¬vs.length < (vs.map q4v).length:=by rw[List.length_map];omega
  rw[List.take_length];have hD:=rA hRB vs.length;rw[List.take_length]at hD;have hDq:=ZQ.made (z:=((gY vs:Nat):Int)) (K:=1+vs.length*K) hD;have cO:=(pF (h:=hDq.zi)).h (by omega)
  have rO:Ra (rZ (((gY vs:Nat):Int),1)) (qj ((gY vs:Nat):Int)) (1+vs.length*K):=Ra.mono (hDq.ra zq1) (by omega)
  refine SX.goM ?_;refine W.loop (fun k=>k≤vs.length) (fun k=>[(1,.ptr 1 0),(2,.ptr 2 0),(3,.ptr 3 0),(5,.ptr 5 0),(8,.ptr 8 0),(47,.r (aF 4 q4C (vs.map q4v))),(48,.v (.int .i64 ((vs.map q4v).length:Int))),(49,.v (.int .i64 (k:Int)))]) (fun k=>[(1,.box 41 (aad r c (vs.map q4v))),(2,.box 281 mat0),(3,.box 27 [.c (.val (.bool false)),.c (.val (.slice none 0 0))]),(5,.box 27 (zN ((gY vs:Nat):Int))),(8,.box 281 [.c (.val (.int .i64 (r:Int))),.c (.val (.int .i64 (c:Int))),.own 100]),(100,.row 27 2 k (((mU vs).take k).flatMap zC))]) (fun k=>vs.length - k) 0 (Nat.zero_le _) (fun k hk=>?_)
   (by
    refine SX.St.bG [(100,none)] (by intro b h;cases h) ?_ ?_ rfl
    ·repeat(first|exact trivial|refine⟨⟨_,rfl,SX.aG.same rfl⟩,?_⟩)
    ·exact⟨SX.ak.same rfl rfl,SX.ak.same rfl rfl,SX.ak.same rfl rfl,SX.ak.same rfl rfl,SX.ak.mK rfl rfl ⟨aA.same rfl,aA.same rfl,aA.nil rfl,trivial⟩,SX.ak.dL rfl,trivial⟩)
  by_cases hk4:k < vs.length
  ·obtain⟨v,hx⟩:∃v,vs[k]? =some v:=⟨_,List.getElem?_eq_getElem hk4⟩
   have hq:(vs.map q4v)[k]? =some (q4v v):=by rw[List.getElem?_map,hx];rfl
   have hk5:k < (vs.map q4v).length:=yZ hq;have hvb:=hRB v (List.mem_of_getElem? hx);have rv:=hvb.ra;have hw:=aa5 (aee (List.mem_of_getElem? hx)) (sH vs);have cMu:PureOK Tryz.prog 353 [.agg (q4A (q4v v)),.agg (rZ (((gY vs:Nat):Int),1))] (.agg (qA (v*qj ((gY vs:Nat):Int)))):=(ajE (a:=rv) (b:=rO)).h (by omega)
   have hPB:RB (v*qj ((gY vs:Nat):Int)) (K+(1+vs.length*K)):=hvb.mul (Ra.rb rO (by omega))
   have cW:=an9 hPB hw.1 (by omega)
   have hm:(mU vs)[k]? =some (v*qj ((gY vs:Nat):Int)).num:=by unfold mU;rw[List.getElem?_map,hx];rfl
   have e6:((mU vs).take k).flatMap zC++zC (v*qj ((gY vs:Nat):Int)).num=((mU vs).take (k+1)).flatMap zC:=by rw[j5 hm,List.flatMap_append];simp
   generalize (v*qj ((gY vs:Nat):Int)).num=z at*;refine SX.goM ?_;refine W.next (k+1) hk4 (by omega) (by
    refine SX.St.bG [(100,some 65)] (by intro b h;cases h) ?_ ?_ rfl
    ·repeat(first|exact trivial|refine⟨⟨_,rfl,SX.aG.same rfl⟩,?_⟩)
    ·exact⟨SX.ak.same rfl rfl,SX.ak.same rfl rfl,SX.ak.same rfl rfl,SX.ak.same rfl rfl,SX.ak.mK rfl rfl ⟨aA.same rfl,aA.same rfl,aA.own rfl,trivial⟩,SX.ak.row rfl rfl rfl e6,trivial⟩)
  ·obtain rfl:k=vs.length:=by omega
   have hk6:¬vs.length < (vs.map q4v).length:=by rw[List.length_map];omega
   have e7:(mU vs).take vs.length=mU vs:=by rw[←hms,List.take_length]
   rw[e7];refine SX.goM ?_;have hm:xU r c (mU vs)=[.c (.val (.int .i64 (r:Int))),.c (.val (.int .i64 (c:Int))),.c (.sat (aM 2 vs.length ((mU vs).flatMap zC)))]:=by
    show [_,_,Atom.c (.sat (aM 2 (mU vs).length _))]=_;rw[hms]
   rw[hm];refine aL.frz 100 ?_;exact .ok (aC.mk3 (aj.aX rfl rfl rfl) (aj.iW rfl rfl rfl) (aj.tmp rfl))
theorem amx{vs:List Rat}{K:Nat}(h:∀v∈vs,RB v K):∀z∈mU vs,z.natAbs < WB ^ (K+(1+vs.length*K)):=by
 intro z hz;obtain⟨v,hv,rfl⟩:=List.mem_map.1 hz;have h1:=(aa5 (aee hv) (sH vs)).2.2;have h2:=rA h vs.length;rw[List.take_length]at h2;exact Nat.lt_of_le_of_lt h1 (gT (h v hv).n h2)
end
section
open Go.RowKit QM SX LA
def wdC(w:Nat):List CA:=[.val (.int .u64 (w:Int))]
instance:eB wdC 1:=⟨fun _=>rfl⟩
structure Vl where
 k:Int
 q:kV
 r:Int
 c:Int
 a:List kV
 po:List qd
 p:Nat
 fr:Int
 fc:Int
 fa:List Nat
 ri:List Nat
 li:List Vl
mutual
def vlC:Vl→List CA
 |⟨k,q,r,c,a,po,p,fr,fc,fa,ri,li⟩=>[.val (.int .i64 k),.val (.bool q.1),.sat (dQ q.2.1),.val (.bool q.2.2.1),.sat (dQ q.2.2.2),.val (.int .i64 r),.val (.int .i64 c),.sat (aF 4 q4C (a.map rq)),.sat (aF 2 z2C (po.map rz)),.val (.int .u64 (p:Int)),.val (.int .i64 fr),.val (.int .i64 fc),.sat (aF 1 wdC fa),.sat (aF 1 wdC ri),.sat (aM 15 li.length (vlL li))]
def vlL:List Vl→List CA
 |[]=>[]
 |k::ks=>vlC k++vlL ks
end
theorem akr:∀ks:List Vl,vlL ks=ks.flatMap vlC
 |[]=>by rw[vlL];rfl
 |k::ks=>by rw[vlL,akr ks,List.flatMap_cons]
def vlE(v:Vl):List CA:=[.val (.int .i64 v.k),.val (.bool v.q.1),.sat (dQ v.q.2.1),.val (.bool v.q.2.2.1),.sat (dQ v.q.2.2.2),.val (.int .i64 v.r),.val (.int .i64 v.c),.sat (aF 4 q4C (v.a.map rq)),.sat (aF 2 z2C (v.po.map rz)),.val (.int .u64 (v.p:Int)),.val (.int .i64 v.fr),.val (.int .i64 v.fc),.sat (aF 1 wdC v.fa),.sat (aF 1 wdC v.ri),.sat (aF 15 vlC v.li)]
theorem aot(v:Vl):vlC v=vlE v:=by
 cases v;rw[vlC,akr];rfl
instance:eB vlE 15:=⟨fun v=>rfl⟩
theorem afS(l:List Vl):aF 15 vlC l=aF 15 vlE l:=by rw[show vlC=vlE from funext aot]
abbrev vlA(v:Vl):List Atom:=[.c (.val (.int .i64 v.k)),.c (.val (.bool v.q.1)),.c (.sat (dQ v.q.2.1)),.c (.val (.bool v.q.2.2.1)),.c (.sat (dQ v.q.2.2.2)),.c (.val (.int .i64 v.r)),.c (.val (.int .i64 v.c)),.c (.sat (aF 4 q4C (v.a.map rq))),.c (.sat (aF 2 z2C (v.po.map rz))),.c (.val (.int .u64 (v.p:Int))),.c (.val (.int .i64 v.fr)),.c (.val (.int .i64 v.fc)),.c (.sat (aF 1 wdC v.fa)),.c (.sat (aF 1 wdC v.ri)),.c (.sat (aF 15 vlC v.li))]
def cq(v:Rat):kV:=(decide (v.num < 0),wds v.num.natAbs,decide ((v.den:Int) < 0),wds (v.den:Int).natAbs)
def cz(z:Int):qd:=(decide (z < 0),wds z.natAbs)
abbrev rq0:kV:=(false,[],false,[])
abbrev v0:Vl:=⟨0,rq0,0,0,[],[],0,0,0,[],[],[]⟩
abbrev fq(v:Rat):Vl:=⟨1,cq v,0,0,[],[],0,0,0,[],[],[]⟩
abbrev iI(r c:Nat)(vs:List Rat):Vl:=⟨2,rq0,r,c,vs.map cq,[],0,0,0,[],[],[]⟩
abbrev abV(zs:List Int):Vl:=⟨3,rq0,0,0,[],zs.map cz,0,0,0,[],[],[]⟩
abbrev ahC(p r c:Nat)(l:List Nat):Vl:=⟨4,rq0,0,0,[],[],p,r,c,l,[],[]⟩
abbrev ahT(p:Nat)(l:List Nat):Vl:=⟨5,rq0,0,0,[],[],p,0,0,[],l,[]⟩
abbrev acu(l:List Vl):Vl:=⟨6,rq0,0,0,[],[],0,0,0,[],[],l⟩
def aV(x y:Atom):Prop:=∀E S w v,x.has E S w v→y.has E S w v
theorem aV.refl(x:Atom):aV x x:=fun _ _ _ _ h=>h
theorem akQ{E:Env}{S:Nat→Prop}{w:World}:∀{l l':List Atom},aI aV l l'→∀us,aI (Atom.has E S w) l us→aI (Atom.has E S w) l' us
 |[],[],_,_,h2=>h2
 |x::l,y::l',h,u::us,h2=>⟨h.1 _ _ _ _ h2.1,akQ h.2 us h2.2⟩
theorem xu{l l':List Atom}(h:aI aV l l'):AV0.imp (.agg l) (.agg l'):=fun E S w v ⟨us,hu,h2⟩=>⟨us,hu,akQ h us h2⟩
theorem aib{size n:Nat}{cells cells':List CA}{S:Nat→Prop}{w:World}(hl:cells.length=cells'.length)(h:∀(i:Nat) (c c':CA),cells[i]? =some c→cells'[i]? =some c'→∀u,c.has S w u→c'.has S w u){v:Value}(hv:(aM size n cells).has S w v):(aM size n cells').has S w v:=by
 obtain⟨oa,cap,h1,h2,h3,h4,h5,h6⟩:=bB.1 hv;refine bB.2 ⟨oa,cap,h1,h2,h3,h4,by omega,fun i c' hc'=>?_⟩
 have hi:=yZ hc';obtain⟨b,o,u,e1,e2,e3,e4⟩:=h6 i cells[i] (List.getElem?_eq_getElem (by omega))
 exact⟨b,o,u,e1,e2,e3,h i _ _ (List.getElem?_eq_getElem (by omega)) hc' u e4⟩
theorem aV.slice{size n:Nat}{cells cells':List CA}(hl:cells.length=cells'.length)(h:∀(i:Nat) (c c':CA),cells[i]? =some c→cells'[i]? =some c'→∀S w u,c.has S w u→c'.has S w u):aV (.c (.sat (aM size n cells))) (.c (.sat (aM size n cells'))):=fun E S w v hv=>aib hl (fun i c c' h1 h2=>h i c c' h1 h2 S w) hv
def aa1(x y:CA):Prop:=∀S w u,x.has S w u→y.has S w u
theorem aa1.refl(x:CA):aa1 x x:=fun _ _ _ h=>h
theorem aI.len{α β:Type}{R:α→β→Prop}:∀{l:List α} {l':List β},aI R l l'→l.length=l'.length
 |[],[],_=>rfl
 |_::_,_::_,h=>by rw[List.length_cons,List.length_cons,aI.len h.2]
theorem aI.at{α β:Type}{R:α→β→Prop}:∀{l:List α} {l':List β},aI R l l'→∀(i:Nat) (a:α) (b:β),l[i]? =some a→l'[i]? =some b→R a b
 |_::_,_::_,h,0,a,b,ha,hb=>by cases ha;cases hb;exact h.1
 |_::_,_::_,h,i+1,a,b,ha,hb=>aI.at h.2 i a b ha hb
theorem aI.app{α β:Type}{R:α→β→Prop}:∀{l:List α} {l':List β} {m:List α} {m':List β},aI R l l'→aI R m m'→aI R (l++m) (l'++m')
 |[],[],_,_,_,h=>h
 |_::_,_::_,_,_,h,h2=>⟨h.1,aI.app h.2 h2⟩
theorem aI.flat{α β γ:Type}{R:CA→CA→Prop}{enc:α→List CA}{enc':β→List CA}{f:γ→α}{g:γ→β}:∀(l:List γ),(∀x∈l,aI R (enc (f x)) (enc' (g x)))→aI R ((l.map f).flatMap enc) ((l.map g).flatMap enc')
 |[],_=>trivial
 |x::l,h=>aI.app (h x (List.mem_cons_self ..)) (aI.flat l fun y hy=>h y (List.mem_cons_of_mem _ hy))
theorem aV.row{α β γ:Type}{size:Nat}{enc:α→List CA}{enc':β→List CA}{f:γ→α}{g:γ→β}(l:List γ)(h:∀x∈l,aI aa1 (enc (f x)) (enc' (g x))):aV (.c (.sat (aF size enc (l.map f)))) (.c (.sat (aF size enc' (l.map g)))):=by
 have h2:=aI.flat l h;show aV (.c (.sat (aM size (l.map f).length ((l.map f).flatMap enc)))) (.c (.sat (aM size (l.map g).length ((l.map g).flatMap enc'))));rw[List.length_map,List.length_map];exact aV.slice (aI.len h2) (fun i c c' h3 h4=>aI.at h2 i c c' h3 h4)
theorem abG(n:Nat):aa1 (.sat (bC n)) (.sat (dQ (wds n))):=fun S w v h=>by
 obtain⟨l,h1,h2,_,h4⟩:=acO.1 h;have:=sZ (tT.1 h4).1 h1;rw[h2]at this;rw[←this];exact h4
theorem aV.nrm(n:Nat):aV (.c (.sat (bC n))) (.c (.sat (dQ (wds n)))):=fun E S w v h=>abG n S w v h
theorem aV.nil{α:Type}{size:Nat}{enc:α→List CA}:aV (.c (.val (.slice none 0 0))) (.c (.sat (aF size enc []))):=fun E S w v h=>by
 rw[show v= .slice none 0 0 from h];exact afZ
theorem aV.aeR:aV (.c (.val (.slice none 0 0))) (.c (.sat (dQ []))):=fun E S w v h=>by
 rw[show v= .slice none 0 0 from h]
 exact tT.2 ⟨Sm.nil,(afZ (α:=Nat) (enc:=wdC) (size:=1):(aF 1 wdC []).has S w _)⟩
theorem aV.rats(vs:List Rat):aV (.c (.sat (aF 4 q4C (vs.map q4v)))) (.c (.sat (aF 4 q4C ((vs.map cq).map rq)))):=by
 rw[List.map_map];exact aV.row vs fun x _=>⟨aa1.refl _,abG _,aa1.refl _,abG _,trivial⟩
theorem om(v:Rat):rqv (cq v)=v:=by
 show qv (sgn (decide (v.num < 0)) (nval WB (wds v.num.natAbs))) (sgn (decide ((v.den:Int) < 0)) (nval WB (wds (v.den:Int).natAbs)))=v;rw[nC,nC,agu,agu];exact iT v
theorem uZ(z:Int):rzv (cz z)=z:=by
 show sgn (decide (z < 0)) (nval WB (wds z.natAbs))=z;rw[nC,agu]
theorem agO(v:Rat):Sm WB (cq v).2.1∧Sm WB (cq v).2.2.2:=⟨abM _,abM _⟩
theorem anS(z:Int):Sm WB (cz z).2:=abM _
theorem RSm.cq(vs:List Rat):RSm (vs.map cq):=fun x hx=>by obtain⟨v,_,rfl⟩:=List.mem_map.1 hx;exact agO v
theorem RLen.cq{vs:List Rat}{K:Nat}(h:∀v∈vs,RB v K):RLen (vs.map cq) K:=fun x hx=>by
 obtain⟨v,hv,rfl⟩:=List.mem_map.1 hx;exact⟨nS (h v hv).n,nS (by rw[Int.natAbs_natCast];exact(h v hv).d)⟩
theorem amP(vs:List Rat):(vs.map cq).map rqv=vs:=by
 rw[List.map_map,show rqv ∘ cq=id from funext om,List.map_id]
theorem MV.cq{vs:List Rat}{K:Nat}(h:∀v∈vs,RB v K):MV ((vs.map cq).map rq) vs K:=by
 have:=MV.raw (RSm.cq vs) (RLen.cq h)
 rwa [amP]at this
theorem Ra.cq{v:Rat}{K:Nat}(h:RB v K):Ra (q4A (rq (cq v))) v K:=by
 have:=(MV.cq (vs:=[v]) (K:=K) fun u hu=>by rw[List.mem_singleton.1 hu];exact h).ra 0 _ _ rfl rfl
 exact this
end
section
open Go.RowKit QM SX LA
attribute [local irreducible] IntKind.wrap Go1 Reg WP aN aQ bM bI aL aC aj ah aT Sat
attribute [local irreducible] dz bU bV dA bT qv dN mf
section
variable{P:Program}{C:Ctx}{st:St}
theorem adp{r:ResultVar}{x y:AV0}(h:aj P st r x)(e:x.imp y):aL C P [r] ⟨.it y,[]⟩ st:= .ok (aC.mk1 (h.imp e))
end
theorem afY{v:Rat}:AV0.imp (.agg [.c (.val (.int .i64 1)),.c (.val (.bool (decide (v.num < 0)))),.c (.sat (bC v.num.natAbs)),.c (.val (.bool (decide ((v.den:Int) < 0)))),.c (.sat (bC (v.den:Int).natAbs)),.c (.val (.int .i64 0)),.c (.val (.int .i64 0)),.c (.val (.slice none 0 0)),.c (.val (.slice none 0 0)),.c (.val (.int .u64 0)),.c (.val (.int .i64 0)),.c (.val (.int .i64 0)),.c (.val (.slice none 0 0)),.c (.val (.slice none 0 0)),.c (.val (.slice none 0 0))]) (.agg (vlA (fq v))):=
 xu ⟨aV.refl _,aV.refl _,aV.nrm _,aV.refl _,aV.nrm _,aV.refl _,aV.refl _,aV.nil,aV.nil,aV.refl _,aV.refl _,aV.refl _,aV.nil,aV.nil,aV.nil,trivial⟩
theorem xK{q:Q4}{v:Rat}{K:Nat}(h:Ra (q4A q) v K)(hK:K≤100000):PureOK Tryz.prog 225 [.agg (q4A q)] (.agg (vlA (fq v))):=by
 have cO:PureOK Tryz.prog 226 [.agg [.c (.val (.bool false)),.c (.val (.slice none 0 0))]] (.agg (qA 0)):=pF.h (by decide)
 haveI:Ra (qA 0) 0 1:=(RB.zero (Nat.le_refl 1)).ra
 obtain⟨X,cA,hX⟩:=eAdd (q4A q) (qA 0) (K:=K) (K':=1) (by omega)
 rw[Rat.add_zero]at hX;have e:=hX.nf;subst e;refine PureOK.fnF Tryz.func225 Tryz.results225 Tryz.ntmps225 rfl rfl rfl (by simp[AV.ids,AV0.ids,Atom.ids]) rfl (fun w0 T B E0 hB=>?_)
 refine SX.goM ?_;refine adp (aj.gK rfl rfl rfl) ?_;exact afY
theorem RB.ofI{z:Int}{K:Nat}(h:z.natAbs < WB ^ K)(h1:1≤K):RB (z:Rat) K:=RB.of (p:=z) (q:=1) (by decide) (by unfold qv;grind) h (by
 rw[show (1:Int).natAbs=1 from rfl]
 exact(Bd.mono Bd.one.h h1:(1:Int).natAbs < WB ^ K))
theorem aaw{q:Z2}{z:Int}{K:Nat}(h:ZQ q z K)(h1:1≤K)(hK:K≤100000):PureOK Tryz.prog 187 [.agg (z2A q)] (.agg (vlA (fq (z:Rat)))):=by
 haveI:=h.zi
 have cO:PureOK Tryz.prog 226 [.agg (z2A q)] (.agg (qA (z:Rat))):=pF.h (by omega)
 have hR:RB (z:Rat) K:=RB.ofI h.b h1;have cN:PureOK Tryz.prog 225 [.agg (qA (z:Rat))] (.agg (vlA (fq (z:Rat)))):=xK (q:=q4v z) hR.ra hK;refine PureOK.fnF Tryz.func187 Tryz.results187 Tryz.ntmps187 rfl rfl rfl (by simp[AV.ids,AV0.ids,Atom.ids]) rfl (fun w0 T B E0 hB=>?_)
 refine SX.goM ?_;refine adp (aj.gK rfl rfl rfl) ?_;exact AV0.imp.refl _
theorem aV.rats2(vs:List Rat):aV (.c (.sat (aM 4 vs.length (vs.flatMap qC)))) (.c (.sat (aF 4 q4C ((vs.map cq).map rq)))):=by
 have h:=aV.rats vs;rw[show aF 4 q4C (vs.map q4v)=aM 4 vs.length (vs.flatMap qC)by
  show aM 4 (vs.map q4v).length ((vs.map q4v).flatMap q4C)=_;rw[List.length_map,List.flatMap_map]]at h
 exact h
theorem zu{r c:Nat}{l:List Q4}{vs:List Rat}{K:Nat}(hM:MV l vs K)(hl:l.length=r*c)(hr:r≤64)(hc:c≤64)(hK:K≤100000):PureOK Tryz.prog 239 [.agg (aad r c l)] (.agg (vlA (iI r c vs))):=by
 have hb:=Nat.mul_le_mul hr hc;have cF:=ahf (cells:=l.flatMap q4C) hl hr hc;have cO:PureOK Tryz.prog 226 [.agg [.c (.val (.bool false)),.c (.val (.slice none 0 0))]] (.agg (qA 0)):=pF.h (by decide)
 haveI:Ra (qA 0) 0 1:=(RB.zero (Nat.le_refl 1)).ra
 refine PureOK.fnF Tryz.func239 Tryz.results239 Tryz.ntmps239 rfl rfl rfl (by simp[AV.ids,AV0.ids,Atom.ids]) rfl (fun w0 T B E0 hB=>?_)
 refine SX.goM ?_;refine W.loop (fun k=>k≤l.length) (fun k=>[(2,.ptr 2 0),(3,.ptr 3 0),(16,.r (aF 4 q4C l)),(17,.v (.int .i64 (l.length:Int))),(18,.v (.int .i64 (k:Int)))]) (fun k=>[(2,.box 50 [.c (.val (.int .i64 0)),.c (.val (.bool false)),.c (.val (.slice none 0 0)),.c (.val (.bool false)),.c (.val (.slice none 0 0)),.c (.val (.int .i64 0)),.c (.val (.int .i64 0)),.c (.val (.slice none 0 0)),.c (.val (.slice none 0 0)),.c (.val (.int .u64 0)),.c (.val (.int .i64 0)),.c (.val (.int .i64 0)),.c (.val (.slice none 0 0)),.c (.val (.slice none 0 0)),.c (.val (.slice none 0 0))]),(3,.box 41 [.c (.val (.int .i64 (r:Int))),.c (.val (.int .i64 (c:Int))),.own 100]),(100,.row 38 4 k ((vs.take k).flatMap qC))]) (fun k=>l.length - k) 0 (Nat.zero_le _) (fun k hk=>?_)
  (by
   refine SX.St.bG [(100,none)] (by intro b h;cases h) ?_ ?_ rfl
   ·repeat(first|exact trivial|refine⟨⟨_,rfl,SX.aG.same rfl⟩,?_⟩)
   ·exact⟨SX.ak.same rfl rfl,SX.ak.mK rfl rfl ⟨aA.same rfl,aA.same rfl,aA.nil rfl,trivial⟩,SX.ak.dL rfl,trivial⟩)
 by_cases h:k < l.length
 ·obtain⟨q,hq⟩:∃q,l[k]? =some q:=⟨_,List.getElem?_eq_getElem h⟩
  obtain⟨v,hv⟩:∃v,vs[k]? =some v:=⟨_,List.getElem?_eq_getElem (by rw[←hM.len];exact h)⟩
  haveI:=hM.ra k q v hq hv
  obtain⟨X,cA,hX⟩:=eAdd (q4A q) (qA 0) (K:=K) (K':=1) (by omega)
  rw[Rat.add_zero]at hX;have e:=hX.nf;subst e;have e2:(vs.take k).flatMap qC++qC v=(vs.take (k+1)).flatMap qC:=by rw[List.take_add_one,hv];simp
  refine SX.goM ?_;refine W.next (k+1) h (by omega) (by
   refine SX.St.bG [(100,some 29)] (by intro b h;cases h) ?_ ?_ rfl
   ·repeat(first|exact trivial|refine⟨⟨_,rfl,SX.aG.same rfl⟩,?_⟩|refine⟨⟨_,rfl,SX.aG.own rfl⟩,?_⟩)
   ·exact⟨SX.ak.same rfl rfl,SX.ak.mK rfl rfl ⟨aA.same rfl,aA.same rfl,aA.own rfl,trivial⟩,SX.ak.row rfl rfl rfl e2,trivial⟩)
 ·obtain rfl:k=l.length:=by omega
  refine SX.goM ?_;refine aL.frz 100 ?_;refine adp (aj.gK rfl rfl rfl) ?_;rw[hM.len,List.take_length];exact xu ⟨aV.refl _,aV.refl _,aV.aeR,aV.refl _,aV.aeR,aV.refl _,aV.refl _,aV.rats2 vs,aV.nil,aV.refl _,aV.refl _,aV.refl _,aV.nil,aV.nil,aV.nil,trivial⟩
end
section
open Go.RowKit QM SX LA
section
theorem W.agC{P:Program}{C:Ctx}{st:St}{Q:Exit→St→Prop}{x y:Code}(I:List (Nat×AV))(H:List (Nat×Ent))(h:WP P C x st (aN (fun s=>St.le C s (eZ I H)) Q))(k:WP P C y (eZ I H) Q):WP P C x st (aN (fun s=>WP P C y s Q) Q):=
 WP.mono h fun e s hq=>by
  cases e with
  |normal=>exact k.weaken hq
  |_=>exact hq
attribute [local irreducible] IntKind.wrap Go1 Reg WP aN aQ bM bI aL aC aj ah aT Sat
attribute [local irreducible] dz bU bV dA bT qv dN mf
theorem ane(q:kV):q=rq0↔q.2.1.length=0∧q.2.2.2.length=0∧q.1=false∧q.2.2.1=false:=by
 constructor
 ·rintro rfl;exact⟨rfl,rfl,rfl,rfl⟩
 ·obtain⟨b,l,b',l'⟩:=q;rintro⟨h1,h2,h3,h4⟩
  dsimp only at h1 h2 h3 h4
  rw[List.eq_nil_of_length_eq_zero h1,List.eq_nil_of_length_eq_zero h2,h3,h4]
def pt(p:Prop)[Decidable p]:Nat:=if p then 1 else 0
def vP(v:Vl):Nat:=pt (v.k≠1∧v.q≠rq0)+pt (v.k≠2∧¬(v.r=0∧v.c=0∧v.a.length=0))+pt (v.k≠3∧v.po.length≠0)+pt (v.k≠4∧¬(v.fr=0∧v.fc=0∧v.fa.length=0))+pt (v.k≠5∧v.ri.length≠0)+pt ((v.k≠4∧v.k≠5)∧v.p≠0)+pt (v.k≠6∧v.li.length≠0)
end
section
def zOk(x:qd):Bool:=if x.2.length=0 then !x.1 else decide (x.2.getD (x.2.length - 1) 0≠0)
theorem abR{x:qd}(hs:Sm WB x.2):zOk x=true↔x=cz (rzv x):=by
 constructor
 ·intro h;obtain⟨b,l⟩:=x;unfold zOk at h
  dsimp only at h hs
  have hn:Nrm l:=by
   split at h
   ·next h0=>exact .inl (List.eq_nil_of_length_eq_zero h0)
   ·exact .inr (of_decide_eq_true h)
  have hw:=sZ hs hn;have hna:(sgn b (nval WB l)).natAbs=nval WB l:=by unfold sgn;split <;> omega
  show (b,l)=(decide (sgn b (nval WB l) < 0),wds (sgn b (nval WB l)).natAbs);rw[hna,←hw]
  congr 1
  split at h
  ·next h0=>
   have hb:b=false:=by simpa using h
   subst hb;exact(decide_eq_false (by unfold sgn;simp)).symm
  ·next h0=>
   have hne:nval WB l≠0:=fun e=>h0 (by rw[hw,e];exact(oo 0).2 rfl)
   cases b
   ·exact(decide_eq_false (by unfold sgn;simp)).symm
   ·exact(decide_eq_true (by unfold sgn;simp;omega)).symm
 ·intro h;rw[h];generalize rzv x=z;unfold zOk cz
  dsimp only
  split
  ·next h0=>
   have hz:=(oo z.natAbs).1 h0;rw[decide_eq_false (by omega)];rfl
  ·next h0=>
   rcases xD z.natAbs with h|h
   ·rw[h]at h0;exact absurd rfl h0
   ·exact decide_eq_true h
def qOk(q:kV):Bool:=zOk (q.1,q.2.1)&&zOk (q.2.2.1,q.2.2.2)&&decide (0 < rzv (q.2.2.1,q.2.2.2))&&decide (Int.gcd (rzv (q.1,q.2.1)) (rzv (q.2.2.1,q.2.2.2))=1)
theorem afT{q:kV}(hs:Sm WB q.2.1∧Sm WB q.2.2.2):qOk q=true↔q=cq (rqv q):=by
 have e1:=abR (x:=(q.1,q.2.1)) hs.1;have e2:=abR (x:=(q.2.2.1,q.2.2.2)) hs.2;unfold qOk;rw[Bool.and_eq_true,Bool.and_eq_true,Bool.and_eq_true,e1,e2,decide_eq_true_iff,decide_eq_true_iff];obtain⟨b,l,b',l'⟩:=q
 dsimp only
 constructor
 ·rintro⟨⟨⟨h1,h2⟩,h3⟩,h4⟩;have hr:rqv (b,l,b',l')=qv (rzv (b,l)) (rzv (b',l')):=rfl;have hX:Rd (rzv (b,l),rzv (b',l')) (rqv (b,l,b',l')) (l.length+l'.length+1):=⟨hr.symm,h3,h4,⟨Nat.lt_of_lt_of_le (ZQ.raw (b:=b) (l:=l) hs.1 (Nat.le_refl _)).b (Nat.pow_le_pow_right aU (by omega))⟩,⟨Nat.lt_of_lt_of_le (ZQ.raw (b:=b') (l:=l') hs.2 (Nat.le_refl _)).b (Nat.pow_le_pow_right aU (by omega))⟩⟩
  have hn:=hX.nf
  injection hn with n1 n2
  injection h1 with a1 a2
  injection h2 with a3 a4
  unfold cq;rw[←n1,←n2];exact Prod.ext a1 (Prod.ext a2 (Prod.ext a3 a4))
 ·intro h;generalize rqv (b,l,b',l')=v at h
  injection h with h1 h
  injection h with h2 h
  injection h with h3 h4
  have z1:rzv (b,l)=v.num:=by rw[h1,h2];exact uZ v.num
  have z2:rzv (b',l')=(v.den:Int):=by rw[h3,h4];exact uZ (v.den:Int)
  rw[z1,z2];refine⟨⟨⟨?_,?_⟩,?_⟩,?_⟩
  ·rw[h1,h2];rfl
  ·rw[h3,h4];rfl
  ·have:=v.den_nz;omega
  ·have h2:Nat.Coprime v.num.natAbs v.den:=v.reduced;unfold Int.gcd;rw[Int.natAbs_natCast];exact h2
theorem abL{α:Type}{p:α→Bool}(l:List α):decide (¬fi p l 0 < 0)=l.any p:=by
 rw[Bool.eq_iff_iff,decide_eq_true_iff,List.any_eq_true];constructor
 ·intro h;obtain⟨i,a,_,h2,h3⟩:=afO l 0 h;exact⟨a,List.mem_of_getElem? h2,h3⟩
 ·rintro⟨a,h1,h2⟩ h3;rw[agf h3 a h1]at h2;cases h2
attribute [local irreducible] IntKind.wrap Go1 Reg WP aN aQ bM bI aL aC aj ah aT Sat
attribute [local irreducible] dz bU bV dA bT qv dN mf
theorem qM(x:qd)(hl:x.2.length≤1000000000):PureOK Tryz.prog 97 [.agg (z2A (rz x))] (.v (.bool (zOk x))):=by
 unfold zOk;refine PureOK.fnF Tryz.func97 Tryz.results97 Tryz.ntmps97 rfl rfl rfl (by simp[AV.ids,AV0.ids,Atom.ids]) rfl (fun w0 T B E0 hB=>?_)
 by_cases h0:x.2.length=0
 ·rw[if_pos h0];cases h1:x.1
  ·refine SX.goM ?_;refine bK ?_;rfl
  ·refine SX.goM ?_;refine bK ?_;rfl
 ·rw[if_neg h0];obtain⟨w,hw⟩:∃w,x.2[x.2.length - 1]? =some w:=⟨_,List.getElem?_eq_getElem (by omega)⟩
  have hg:x.2.getD (x.2.length - 1) 0=w:=by rw[List.getD_eq_getElem?_getD,hw];rfl
  rw[hg];refine SX.goM ?_;refine bK ?_;rw[decide_eq_decide];omega
theorem gsame(q:kV)(hs:Sm WB q.2.1∧Sm WB q.2.2.2)(hl:q.2.1.length+q.2.2.2.length≤1000000):PureOK Tryz.prog 48 [.agg (zN (Int.gcd (rzv (q.1,q.2.1)) (rzv (q.2.2.1,q.2.2.2)):Int)),.agg (zN 1)] (.v (.bool (decide (Int.gcd (rzv (q.1,q.2.1)) (rzv (q.2.2.1,q.2.2.2))=1)))):=by
 haveI b1:Bd (rzv (q.1,q.2.1)) q.2.1.length:=⟨(ZQ.raw (b:=q.1) hs.1 (Nat.le_refl _)).b⟩
 haveI b2:Bd (rzv (q.2.2.1,q.2.2.2)) q.2.2.2.length:=⟨(ZQ.raw (b:=q.2.2.1) hs.2 (Nat.le_refl _)).b⟩
 haveI b3:Bd (Int.gcd (rzv (q.1,q.2.1)) (rzv (q.2.2.1,q.2.2.2)):Int) (q.2.1.length+q.2.2.2.length):=⟨by rw[Int.natAbs_natCast];exact(BdN.igcd _ _ _ _).h⟩
 have h:=(ahx (l:=zN (Int.gcd (rzv (q.1,q.2.1)) (rzv (q.2.2.1,q.2.2.2)):Int)) (l':=zN 1)).h (show q.2.1.length+q.2.2.2.length+1≤1099511627774 by omega)
 rw[show decide ((Int.gcd (rzv (q.1,q.2.1)) (rzv (q.2.2.1,q.2.2.2)):Int)=1)=decide (Int.gcd (rzv (q.1,q.2.1)) (rzv (q.2.2.1,q.2.2.2))=1)from decide_eq_decide.2 (by omega)]at h
 exact h
theorem adB(q:kV)(hs:Sm WB q.2.1∧Sm WB q.2.2.2)(hl:q.2.1.length+q.2.2.2.length≤1000000):PureOK Tryz.prog 91 [.agg (q4A (rq q))] (.v (.bool (qOk q))):=by
 have c1:=qM (q.1,q.2.1) (by dsimp only;omega)
 have c2:=qM (q.2.2.1,q.2.2.2) (by dsimp only;omega)
 have cS:=vD (h:=ZI.raw q.2.2.1 q.2.2.2).h (show q.2.2.2.length≤1099511627775 by omega)
 have cG:=(akj (h:=ZI.raw q.1 q.2.1) (h':=ZI.raw q.2.2.1 q.2.2.2)).h (show q.2.1.length+q.2.2.2.length≤1099511627760 by omega)
 have o1:=ajt;have cE:=gsame q hs hl;unfold qOk;have hsg:=aoJ (rzv (q.2.2.1,q.2.2.2));change PureOK _ _ _ (.v (.int .i64 (bO (rzv (q.2.2.1,q.2.2.2)))))at cS
 change PureOK _ _ _ (.agg (zN (Int.gcd (rzv (q.1,q.2.1)) (rzv (q.2.2.1,q.2.2.2)):Int)))at cG
 generalize rzv (q.2.2.1,q.2.2.2)=z at*;refine PureOK.fnF Tryz.func91 Tryz.results91 Tryz.ntmps91 rfl rfl rfl (by simp[AV.ids,AV0.ids,Atom.ids]) rfl (fun w0 T B E0 hB=>?_)
 cases h1:zOk (q.1,q.2.1)
 ·rw[h1]at c1;refine SX.goM ?_;exact bK rfl
 ·rw[h1]at c1;cases h2:zOk (q.2.2.1,q.2.2.2)
  ·rw[h2]at c2;refine SX.goM ?_;exact bK rfl
  ·rw[h2]at c2;by_cases h3:0 < z
   ·refine SX.goM ?_;refine bK ?_;rw[decide_eq_true h3];rfl
   ·refine SX.goM ?_;refine bK ?_;rw[decide_eq_false h3];rfl
theorem aks(l:List kV)(x:CA)(p:kV→Bool)(hx:∀v∈l,FnV Tryz.prog x [.agg (q4A (rq v))] (.v (.bool (p v))))(hl:l.length≤100000)(hx1:x.dS=true):
  PureOK Tryz.prog 148 [.r (aF 4 q4C (l.map rq)),.it (.one (.c x))] (.v (.int .i64 (fi p l 0))):=by
 have hlen:(l.map rq).length=l.length:=List.length_map _;refine PureOK.fnF Tryz.func148 Tryz.results148 Tryz.ntmps148 rfl rfl rfl (by simp[AV.ids,AV0.ids,Atom.ids]) rfl (fun w0 T B E0 hB=>?_)
 refine SX.goM ?_;refine W.loop (fun k=>k≤l.length∧fi p (l.drop k) k=fi p l 0) (fun k=>[(0,.r (aF 4 q4C (l.map rq))),(1,.it (.one (.c x))),(7,.v (.int .i64 (l.length:Int))),(8,.v (.int .i64 (k:Int)))]) (fun _=>[]) (fun k=>l.length - k) 0 ⟨Nat.zero_le _,rfl⟩ (fun k ⟨hk,he⟩=>?_)
 by_cases h:k < l.length
 ·obtain⟨r,hr⟩:∃r,l[k]? =some r:=⟨_,List.getElem?_eq_getElem h⟩
  have hf:=hx r (List.mem_of_getElem? hr);have hq:(l.map rq)[k]? =some (rq r):=by rw[List.getElem?_map,hr];rfl
  have h':k < (l.map rq).length:=by rw[List.length_map];exact h
  rw[p8 hr]at he;cases hp:p r with
  |true=>
   rw[hp]at hf he;refine SX.goM ?_;refine iN ?_;rw[←he];rfl
  |false=>
   rw[hp]at hf he;refine SX.goM ?_;exact W.next (k+1) ⟨h,he⟩ (by omega)
 ·obtain rfl:k=l.length:=by omega
  rw[List.drop_length]at he;have h':¬l.length < (l.map rq).length:=by rw[List.length_map];omega
  refine SX.goM ?_;refine iN ?_;rw[←he];rfl
theorem alH(l:List kV)(x:CA)(p:kV→Bool)(hx:∀v∈l,FnV Tryz.prog x [.agg (q4A (rq v))] (.v (.bool (p v))))(hl:l.length≤100000)(hx1:x.dS=true):
  PureOK Tryz.prog 93 [.r (aF 4 q4C (l.map rq)),.it (.one (.c x))] (.v (.bool (l.any p))):=by
 have c:=aks l x p hx hl hx1;rw[←abL];refine PureOK.fnF Tryz.func93 Tryz.results93 Tryz.ntmps93 rfl rfl rfl (by simp[AV.ids,AV0.ids,Atom.ids]) rfl (fun w0 T B E0 hB=>?_)
 refine SX.goM ?_;refine bK ?_;rw[decide_eq_decide];omega
theorem air(l:List kV)(f:FuncId)(p:kV→Bool)(hx:∀v∈l,PureOK Tryz.prog f [.agg (q4A (rq v))] (.v (.bool (p v))))(hl:l.length≤100000):
  PureOK Tryz.prog 93 [.r (aF 4 q4C (l.map rq)),.it (.one (.clo f []))] (.v (.bool (l.any p))):=
 weakArgs (alH l (.sat (eu f [] [])) p (fun v h=>FnV.const (hx v h)) hl rfl) fun E S w vs hv=>by
  match vs,hv with
  |[u1,u2],⟨h1,h2,_⟩=>exact⟨h1,aj1 h2,trivial⟩
theorem ali(l:List qd)(x:CA)(p:qd→Bool)(hx:∀v∈l,FnV Tryz.prog x [.agg (z2A (rz v))] (.v (.bool (p v))))(hl:l.length≤100000)(hx1:x.dS=true):
  PureOK Tryz.prog 149 [.r (aF 2 z2C (l.map rz)),.it (.one (.c x))] (.v (.int .i64 (fi p l 0))):=by
 have hlen:(l.map rz).length=l.length:=List.length_map _;refine PureOK.fnF Tryz.func149 Tryz.results149 Tryz.ntmps149 rfl rfl rfl (by simp[AV.ids,AV0.ids,Atom.ids]) rfl (fun w0 T B E0 hB=>?_)
 refine SX.goM ?_;refine W.loop (fun k=>k≤l.length∧fi p (l.drop k) k=fi p l 0) (fun k=>[(0,.r (aF 2 z2C (l.map rz))),(1,.it (.one (.c x))),(7,.v (.int .i64 (l.length:Int))),(8,.v (.int .i64 (k:Int)))]) (fun _=>[]) (fun k=>l.length - k) 0 ⟨Nat.zero_le _,rfl⟩ (fun k ⟨hk,he⟩=>?_)
 by_cases h:k < l.length
 ·obtain⟨r,hr⟩:∃r,l[k]? =some r:=⟨_,List.getElem?_eq_getElem h⟩
  have hf:=hx r (List.mem_of_getElem? hr);have hq:(l.map rz)[k]? =some (rz r):=by rw[List.getElem?_map,hr];rfl
  have h':k < (l.map rz).length:=by rw[List.length_map];exact h
  rw[p8 hr]at he;cases hp:p r with
  |true=>
   rw[hp]at hf he;refine SX.goM ?_;refine iN ?_;rw[←he];rfl
  |false=>
   rw[hp]at hf he;refine SX.goM ?_;exact W.next (k+1) ⟨h,he⟩ (by omega)
 ·obtain rfl:k=l.length:=by omega
  rw[List.drop_length]at he;have h':¬l.length < (l.map rz).length:=by rw[List.length_map];omega
  refine SX.goM ?_;refine iN ?_;rw[←he];rfl
theorem aiW(l:List qd)(x:CA)(p:qd→Bool)(hx:∀v∈l,FnV Tryz.prog x [.agg (z2A (rz v))] (.v (.bool (p v))))(hl:l.length≤100000)(hx1:x.dS=true):
  PureOK Tryz.prog 95 [.r (aF 2 z2C (l.map rz)),.it (.one (.c x))] (.v (.bool (l.any p))):=by
 have c:=ali l x p hx hl hx1;rw[←abL];refine PureOK.fnF Tryz.func95 Tryz.results95 Tryz.ntmps95 rfl rfl rfl (by simp[AV.ids,AV0.ids,Atom.ids]) rfl (fun w0 T B E0 hB=>?_)
 refine SX.goM ?_;refine bK ?_;rw[decide_eq_decide];omega
theorem aho(l:List qd)(f:FuncId)(p:qd→Bool)(hx:∀v∈l,PureOK Tryz.prog f [.agg (z2A (rz v))] (.v (.bool (p v))))(hl:l.length≤100000):
  PureOK Tryz.prog 95 [.r (aF 2 z2C (l.map rz)),.it (.one (.clo f []))] (.v (.bool (l.any p))):=
 weakArgs (aiW l (.sat (eu f [] [])) p (fun v h=>FnV.const (hx v h)) hl rfl) fun E S w vs hv=>by
  match vs,hv with
  |[u1,u2],⟨h1,h2,_⟩=>exact⟨h1,aj1 h2,trivial⟩
theorem alU(l:List Nat)(x:CA)(p:Nat→Bool)(hx:∀v∈l,FnV Tryz.prog x [.v (.int .u64 (v:Int))] (.v (.bool (p v))))(hl:l.length≤100000)(hx1:x.dS=true):
  PureOK Tryz.prog 196 [.r (aF 1 wdC l),.it (.one (.c x))] (.v (.int .i64 (fi p l 0))):=by
 refine PureOK.fnF Tryz.func196 Tryz.results196 Tryz.ntmps196 rfl rfl rfl (by simp[AV.ids,AV0.ids,Atom.ids]) rfl (fun w0 T B E0 hB=>?_)
 refine SX.goM ?_;refine W.loop (fun k=>k≤l.length∧fi p (l.drop k) k=fi p l 0) (fun k=>[(0,.r (aF 1 wdC l)),(1,.it (.one (.c x))),(7,.v (.int .i64 (l.length:Int))),(8,.v (.int .i64 (k:Int)))]) (fun _=>[]) (fun k=>l.length - k) 0 ⟨Nat.zero_le _,rfl⟩ (fun k ⟨hk,he⟩=>?_)
 by_cases h:k < l.length
 ·obtain⟨r,hr⟩:∃r,l[k]? =some r:=⟨_,List.getElem?_eq_getElem h⟩
  have hf:=hx r (List.mem_of_getElem? hr);rw[p8 hr]at he;cases hp:p r with
  |true=>
   rw[hp]at hf he;refine SX.goM ?_;refine iN ?_;rw[←he];rfl
  |false=>
   rw[hp]at hf he;refine SX.goM ?_;exact W.next (k+1) ⟨h,he⟩ (by omega)
 ·obtain rfl:k=l.length:=by omega
  rw[List.drop_length]at he;refine SX.goM ?_;refine iN ?_;rw[←he];rfl
theorem ajR(l:List Nat)(x:CA)(p:Nat→Bool)(hx:∀v∈l,FnV Tryz.prog x [.v (.int .u64 (v:Int))] (.v (.bool (p v))))(hl:l.length≤100000)(hx1:x.dS=true):
  PureOK Tryz.prog 152 [.r (aF 1 wdC l),.it (.one (.c x))] (.v (.bool (l.any p))):=by
 have c:=alU l x p hx hl hx1;rw[←abL];refine PureOK.fnF Tryz.func152 Tryz.results152 Tryz.ntmps152 rfl rfl rfl (by simp[AV.ids,AV0.ids,Atom.ids]) rfl (fun w0 T B E0 hB=>?_)
 refine SX.goM ?_;refine bK ?_;rw[decide_eq_decide];omega
theorem akZ(l:List Vl)(x:CA)(p:Vl→Bool)(hx:∀v∈l,FnV Tryz.prog x [.agg (vlA v)] (.v (.bool (p v))))(hl:l.length≤100000)(hx1:x.dS=true):
  PureOK Tryz.prog 154 [.r (aF 15 vlC l),.it (.one (.c x))] (.v (.int .i64 (fi p l 0))):=by
 rw[afS];refine PureOK.fnF Tryz.func154 Tryz.results154 Tryz.ntmps154 rfl rfl rfl (by simp[AV.ids,AV0.ids,Atom.ids]) rfl (fun w0 T B E0 hB=>?_)
 refine SX.goM ?_;refine W.loop (fun k=>k≤l.length∧fi p (l.drop k) k=fi p l 0) (fun k=>[(0,.r (aF 15 vlE l)),(1,.it (.one (.c x))),(7,.v (.int .i64 (l.length:Int))),(8,.v (.int .i64 (k:Int)))]) (fun _=>[]) (fun k=>l.length - k) 0 ⟨Nat.zero_le _,rfl⟩ (fun k ⟨hk,he⟩=>?_)
 by_cases h:k < l.length
 ·obtain⟨r,hr⟩:∃r,l[k]? =some r:=⟨_,List.getElem?_eq_getElem h⟩
  have hf:=hx r (List.mem_of_getElem? hr);rw[p8 hr]at he;cases hp:p r with
  |true=>
   rw[hp]at hf he;refine SX.goM ?_;refine iN ?_;rw[←he];rfl
  |false=>
   rw[hp]at hf he;refine SX.goM ?_;exact W.next (k+1) ⟨h,he⟩ (by omega)
 ·obtain rfl:k=l.length:=by omega
  rw[List.drop_length]at he;refine SX.goM ?_;refine iN ?_;rw[←he];rfl
theorem alv(l:List Vl)(x:CA)(p:Vl→Bool)(hx:∀v∈l,FnV Tryz.prog x [.agg (vlA v)] (.v (.bool (p v))))(hl:l.length≤100000)(hx1:x.dS=true):
  PureOK Tryz.prog 100 [.r (aF 15 vlC l),.it (.one (.c x))] (.v (.bool (l.any p))):=by
 have c:=akZ l x p hx hl hx1;rw[←abL];refine PureOK.fnF Tryz.func100 Tryz.results100 Tryz.ntmps100 rfl rfl rfl (by simp[AV.ids,AV0.ids,Atom.ids]) rfl (fun w0 T B E0 hB=>?_)
 refine SX.goM ?_;refine bK ?_;rw[decide_eq_decide];omega
end
end
end Go.Proofs.YtegehclknhmkgaaGreatDoor