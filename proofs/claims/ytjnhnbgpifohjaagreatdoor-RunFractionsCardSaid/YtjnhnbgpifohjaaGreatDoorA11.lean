import Derived.Test.YtjnhnbgpifohjaaGreatDoorA8
import Derived.Test.YtjnhnbgpifohjaaGreatDoorA29
import Derived.Test.YtjnhnbgpifohjaaGreatDoorA10
import Derived.Test.YtjnhnbgpifohjaaGreatDoorA6
set_option linter.unusedVariables false
set_option linter.unusedSimpArgs false
open Go.Proofs.Tryz
namespace Go.Proofs.YtjnhnbgpifohjaaGreatDoor
section
open Go.RowKit QM SX
open Go.ChangeShapes Go.WideShapes Go.ChangeAt Go.Joins
section
variable{H:Type}{enc:TypeId×Value→H}{P:Program}{W:World}{base:Nat}{sp:Nat→Bool}{hd:Bool}
theorem gq.imp{α β:Type}{n:Nat}{t:TypeId}{e:α→List CA}{φ:α→Prop}{e':β→List CA}{ψ:β→Prop}(h:gq enc P W base sp hd n t e φ)(f:α→β)(hf:∀a,φ a→ψ (f a))(he:∀a cs,φ a→aI (CA.has none' W) (e a) cs→aI (CA.has none' W) (e' (f a)) cs):gq enc P W base sp hd n t e' ψ:=
 fun cs x hx=>let⟨a,h1,h2⟩:=h cs x hx;⟨f a,hf a h1,he a cs h1 h2⟩
def u64C(z:Int):List CA:=[.val (.int .u64 z)]
instance:dH u64C 1:=⟨fun _=>rfl⟩
theorem decNat(n:Nat):gq enc prog W base sp hd n 29 (fun l:List Nat=>[.sat (dM l)]) (fun _=>True):=
 gq.all (fun n=>gq.imp (abz (enc':=u64C) underlying29 (by kernel_rfl) (adE underlying36)) (fun l=>l.map Int.toNat) (fun _ _=>trivial) (fun l cs hl hall=>by
  match cs,hall with
  |[v],⟨h1,_⟩=>
   refine⟨?_,trivial⟩;have hb:∀z∈l,0≤z∧z≤18446744073709551615:=fun z hz=>bounds_u64 (hl.2 z hz)
   refine nk.2 ⟨?_,?_⟩
   ·intro x hx;obtain⟨z,hz,rfl⟩:=List.mem_map.1 hx;have:=hb z hz;rw[bV];omega
   ·have e:(l.map Int.toNat).map (fun x:Nat=>CA.val (.int .u64 (x:Int)))=l.flatMap u64C:=by
     clear h1 hall hl
     induction l with
     |nil=>rfl
     |cons z l ih=>
      have:=hb z (by simp)
      rw[List.map_cons,List.map_cons,List.flatMap_cons,ih (fun y hy=>hb y (by simp[hy]))]
      show _::_=CA.val (.int .u64 z)::_;rw[show ((z.toNat:Nat):Int)=z by omega];rfl
    rw[e,zq5];exact h1)) n
end
end
section
open Go.RowKit QM SX LA
open Go.ChangeShapes Go.WideShapes Go.ChangeAt Go.Joins
section
variable{H:Type}{enc:TypeId×Value→H}{W:World}{base:Nat}{sp:Nat→Bool}{hd:Bool}
theorem sm_of{l:List Nat}:∀{cs:List Value},aI (CA.has none' W) [.sat (dM l)] cs→Sm WB l
 |[v],h=>(nk.1 h.1).1
theorem aqh(n:Nat):gq enc prog W base sp hd n 29 (fun l:List Nat=>[.sat (dM l)]) (fun l=>Sm WB l):=
 fun cs x hx=>let⟨l,_,h2⟩:=decNat n cs x hx;⟨l,sm_of h2,h2⟩
theorem arj(n:Nat):gq enc prog W base sp hd n 31 (fun p:Bool×List Nat=>[.val (.bool p.1),.sat (dM p.2)]) (fun p=>Sm WB p.2):=
 gq.all (fun n=>gq.conv (xJ underlying31 rfl (by kernel_rfl) (by kernel_rfl) (amP underlying4) (aqh n)) id (fun _ h=>h.2) (fun _=>rfl)) n
def rqC(p:gW):List CA:=q4C (rq p)
instance:dH rqC 4:=⟨fun _=>rfl⟩
theorem aq0(n:Nat):gq enc prog W base sp hd n 33 rqC (fun p=>Sm WB p.2.1∧Sm WB p.2.2.2):=
 gq.all (fun n=>gq.conv (xJ underlying33 rfl (by kernel_rfl) (by kernel_rfl) (arj n) (arj n)) (fun p=>(p.1.1,p.1.2,p.2.1,p.2.2)) (fun _ h=>h) (fun _=>rfl)) n
abbrev RawM:=Int×Int×List gW
theorem as0(l:List gW):aA 4 rqC l=aA 4 q4C (l.map rq):=by
 show aL 4 l.length (l.flatMap rqC)=aL 4 (l.map rq).length ((l.map rq).flatMap q4C);rw[zq5,List.flatMap_map];rfl
theorem am7(n:Nat):gq enc prog W base sp hd n 22 (fun l:List gW=>[.sat (aA 4 rqC l)]) (fun l=>l.length≤maxLen∧∀a∈l,Sm WB a.2.1∧Sm WB a.2.2.2):=
 gq.all (fun n=>abz underlying22 (by kernel_rfl) (aq0 n)) n
theorem decMat(n:Nat):gq enc prog W base sp hd n 24 (fun p:RawM=>[.val (.int .i64 p.1),.val (.int .i64 p.2.1),.sat (aA 4 q4C (p.2.2.map rq))]) (fun p=>RSm p.2.2):=
 gq.all (fun n=>gq.conv (afk underlying24 rfl (by kernel_rfl) (by kernel_rfl) (by kernel_rfl) (adE underlying3) (adE underlying3) (am7 n)) id (fun p h=>h.2.2.2) (fun p=>by
  show [CA.val (.int .i64 p.1),CA.val (.int .i64 p.2.1),CA.sat (aA 4 q4C (p.2.2.map rq))]=[CA.val (.int .i64 p.1),CA.val (.int .i64 p.2.1),CA.sat (aA 4 rqC p.2.2)];rw[as0])) n
end
attribute [local irreducible] IntKind.wrap Go1 Reg WP aR aU bR bO aN aF ak aj aY Sat
attribute [local irreducible] bS dn cK dD dh qv bW mf
theorem adA:∀c,c < 5→kb 2 c≤682:=by decide
theorem adP.len{r c:Int}{l:List gW}{s:Int}{w:Nat}(h:adP r c l s w):anx l w:=by
 intro x hx;obtain⟨i,hi⟩:=List.mem_iff_getElem?.1 hx;have hil:=u7 hi;have:=h.1 i x (by have:=h.2.2.2;omega) hi
 omega
theorem Ra.mono{l:List Atom}{v:Rat}{K L:Nat}(h:Ra l v K)(hK:K≤L):Ra l v L:=by
 obtain⟨x0,x1,x2,x3,p,q,k,m,h1,h2,h3,h4,h5,h6,h7,h8⟩:=h.h;exact⟨x0,x1,x2,x3,p,q,k,m,h1,h2,h3,by omega,by omega,h6,h7,h8⟩
end
section
open Go.RowKit QM SX LA
attribute [local irreducible] IntKind.wrap Go1 Reg WP aR aU bR bO aN aF ak aj aY Sat
attribute [local irreducible] bS dn cK dD dh qv bW mf
theorem atq{r c:Int}{l:List gW}{s w:Int}{k:Nat}(hf:adP r c l s w)(hk:s=k)(hF:iO r c (l.map rq).length):∃n m:Nat,r=n∧c=m∧n≤k∧m≤k∧(l.map rq).length=n*m:=by
 obtain⟨n,rfl⟩:∃n:Nat,r=n:=⟨r.toNat,by have:=hF.1;omega⟩
 obtain⟨m,rfl⟩:∃m:Nat,c=m:=⟨c.toNat,by have:=hF.2.2.1;omega⟩
 have h3:=hF.2.2.2.2;rw[←Int.natCast_mul]at h3;exact⟨n,m,rfl,rfl,by have:=hf.2.1;omega,by have:=hf.2.2.1;omega,by omega⟩
abbrev ptrM(r c:Nat)(l:List Q4):AV:= .r (bJ [.val (.int .i64 (r:Int)),.val (.int .i64 (c:Int)),.sat (aA 4 q4C l)])
theorem aln{r c i k:Nat}{l:List Q4}{q:Q4}(hq:l[k*c+i]? =some q)(hi:i≤100)(hc:c≤100)(hk:k≤100):ah prog 42 [.v (.int .i64 (i:Int)),.v (.int .i64 (k:Int)),ptrM r c l] (.agg (q4A q)):=by
 have cG:=ads (r:=r) hq hk hc hi;refine ah.fnF func42 results42 ntmps42 rfl rfl rfl (by simp[AV.ids,AV0.ids,Atom.ids]) rfl (fun w0 T B E0 hB=>?_)
 refine SX.goM ?_;exact kR (ak.mZ rfl rfl rfl) rfl
def q0:Q4:=q4v 0
def qat(l:List Q4)(c i k:Nat):Q4:=l.getD (i*c+k) q0
theorem agY{l:List Q4}{r c i k:Nat}(hl:l.length=r*c)(hi:i < r)(hk:k < c):l[i*c+k]? =some (qat l c i k):=by
 have h:=zA hi hk;unfold qat;rw[zq3,zq2 (by omega)];rfl
theorem MV.qat{r c i k K:Nat}{l:List Q4}{vs:List Rat}(hM:MV l vs K)(hl:l.length=r*c)(hi:i < r)(hk:k < c):Ra (q4A (qat l c i k)) (vat vs c i k) K:=
 hM.ra _ _ _ (agY hl hi hk) (afE (by rw[←hM.len];exact hl) hi hk)
theorem pz{r c:Nat}{l:List Q4}{vs:List Rat}{K:Nat}(hM:MV l vs K)(hl:l.length=r*c)(hr:r≤64)(hc:c≤64)(hK:K≤400000):
  ah prog 9 [.agg (iE r c l)] (.tup [.agg (pE c r (fV r (fun i k=>vat vs c k i) c)),eNo 0]):=by
 have cF:=oo (cells:=l.flatMap q4C) hl hr hc;have cM:=nJ c r (.sat (dO 42 [] [.sat (bJ [.val (.int .i64 (r:Int)),.val (.int .i64 (c:Int)),.sat (aA 4 q4C l)])])) (fun i k=>qat l c k i) (fun i k=>vat vs c k i) K (by omega) (by omega) (by omega)
  (fun i k hi hk=>FnV.clo (aln (agY hl hk hi) (by omega) (by omega) (by omega))) (fun i k hi hk=>hM.qat hl hk hi) rfl
 refine ah.fnF func9 results9 ntmps9 rfl rfl rfl (by simp[AV.ids,AV0.ids,Atom.ids]) rfl (fun w0 T B E0 hB=>?_)
 refine SX.goM ?_;refine SX.WP.fP 1 hB rfl rfl ?_;refine SX.WP.aD ?_;refine SX.goM ?_;exact .ok (aF.mk2 (ak.aX rfl rfl rfl) (ak.tmp rfl))
theorem akk{r c r' c':Nat}{l l':List Q4}(hl:l.length=r*c)(hl':l'.length=r'*c')(hr:r≤64)(hc:c≤64)(hr':r'≤64)(hc':c'≤64)(goal:Bool)(hg:goal=true↔r=r'∧c=c'):
  ah prog 305 [.agg (iE r c l),.agg (iE r' c' l')] (.v (.bool goal)):=by
 have cF:=oo (cells:=l.flatMap q4C) hl hr hc;have cF':=oo (cells:=l'.flatMap q4C) hl' hr' hc';refine ah.fnF func305 results305 ntmps305 rfl rfl rfl (by simp[AV.ids,AV0.ids,Atom.ids]) rfl (fun w0 T B E0 hB=>?_)
 by_cases h1:(r:Int)=(r':Int)
 ·refine SX.goM ?_;refine aP ?_;rw[Bool.eq_iff_iff,hg,decide_eq_true_iff];omega
 ·refine SX.goM ?_;refine aP ?_;exact(Bool.eq_false_iff.2 fun ht=>h1 (by have:=(hg.1 ht).1;omega)).symm
theorem aqe{vs:List Rat}{r c:Nat}(hl:vs.length=r*c):fV c (vat vs c) r=vs:=by
 apply List.ext_getElem?
 intro n;rcases Nat.lt_or_ge n (r*c)with h|h
 ·have hc:0 < c:=by
   rcases Nat.eq_zero_or_pos c with h0|h0
   ·subst h0;omega
   ·exact h0
  have h1:n / c < r:=by rw[Nat.div_lt_iff_lt_mul hc];exact h
  have h2:=Nat.mod_lt n hc;have h3:n / c*c+n % c=n:=by rw[Nat.mul_comm];exact Nat.div_add_mod n c
  have a1:=yP (val:=vat vs c) h2 h1;have a2:=afE hl h1 h2;rw[h3]at a1 a2;rw[a1,a2]
 ·rw[List.getElem?_eq_none (by rw[iZ];exact h),List.getElem?_eq_none (by omega)]
end
section
open Go.RowKit QM SX LA
open Go.ChangeShapes Go.WideShapes Go.ChangeAt Go.Joins
abbrev pK:=Bool×List Nat
abbrev rz(x:pK):Z2:=(x.1,dM x.2)
def rzv(x:pK):Int:=sgn x.1 (nval WB x.2)
section
variable{H:Type}{enc:TypeId×Value→H}{W:World}{base:Nat}{sp:Nat→Bool}{hd:Bool}
end
attribute [local irreducible] IntKind.wrap Go1 Reg WP aR aU bR bO aN aF ak aj aY Sat
attribute [local irreducible] bS dn cK dD dh qv bW mf
theorem MZ.raw{l:List pK}{K:Nat}(hs:∀a∈l,Sm WB a.2)(hl:∀a∈l,a.2.length≤K):MZ (l.map rz) (l.map rzv) K:=by
 refine⟨by rw[zq5,zq5],fun i q z hq hz=>?_⟩
 rw[List.getElem?_map]at hq hz
 cases hx:l[i]? with
 |none=>rw[hx]at hq;cases hq
 |some x=>
  rw[hx]at hq hz;cases hq;cases hz;exact ZQ.raw (hs x (zq4 hx)) (hl x (zq4 hx))
end
section
open Go.RowKit QM SX LA
def ak6:List Rat→Nat
 |[]=>1
 |v::l=>Nat.lcm (ak6 l) v.den
theorem aaf:∀l,0 < ak6 l
 |[]=>by decide
 |v::l=>Nat.lcm_pos (aaf l) (Nat.pos_of_ne_zero v.den_nz)
theorem aea:∀{l:List Rat} {v:Rat},v∈l→v.den ∣ ak6 l
 |w::l,v,h=>by
  rcases List.mem_cons.1 h with rfl|h
  ·exact Nat.dvd_lcm_right _ _
  ·exact Nat.dvd_trans (aea h) (Nat.dvd_lcm_left _ _)
theorem aaA:∀{l:List Rat} {n:Nat},(∀v∈l,v.den ∣ n)→ak6 l ∣ n
 |[],n,_=>Nat.one_dvd n
 |v::l,n,h=>Nat.lcm_dvd (aaA fun w hw=>h w (by simp[hw])) (h v (by simp))
theorem ahv{K:Nat}:∀{l:List Rat},(∀v∈l,RB v K)→ak6 l < WB ^ (1+l.length*K)
 |[],_=>by
  have:=bV;show 1 < WB ^ (1+0*K);rw[Nat.zero_mul,Nat.add_zero,Nat.pow_one];omega
 |v::l,h=>by
  have h1:=ahv (l:=l) fun w hw=>h w (by simp[hw])
  have h2:=(h v (by simp)).d
  refine Nat.lt_of_le_of_lt (Nat.le_of_dvd (Nat.mul_pos (aaf l) (Nat.pos_of_ne_zero v.den_nz)) (Nat.lcm_dvd (Nat.dvd_mul_right _ _) (Nat.dvd_mul_left _ _))) ?_;have h3:=eY h1 h2;rw[List.length_cons,Nat.succ_mul,←Nat.add_assoc];exact h3
def gQ(l:List Rat):Nat:=ak6 l.reverse
theorem aju{l:List Rat}{v:Rat}:gQ (l++[v])=Nat.lcm (gQ l) v.den:=by
 unfold gQ;rw[List.reverse_append];rfl
def qj(z:Int):Rat:=qv z 1
theorem ahN(z:Int):qj z=(z:Rat):=by unfold qj qv;grind
theorem ace{v:Rat}{D:Nat}(h:v.den ∣ D)(hD:0 < D):(v*qj D).den=1∧qv (v*qj D).num D=v∧(v*qj D).num.natAbs≤v.num.natAbs*D:=by
 obtain⟨c,rfl⟩:=h;have hd:=v.den_nz;have hq:=c0 (kI v);have hc:(c:Rat)≠0:=fun e=>by
  have:c=0:=by exact_mod_cast e
  subst this;simp at hD
 have e:v*qj ((v.den*c:Nat):Int)=((v.num*c:Int):Rat):=by
  rw[ahN,Int.natCast_mul,Rat.intCast_mul,Rat.intCast_mul];have hv:=gL v;unfold qv at hv;generalize ((v.den:Int):Rat)=d at*;generalize ((v.num:Int):Rat)=n at*;rw[←hv];grind
 rw[e];refine⟨Rat.den_intCast _,?_,?_⟩
 ·rw[Rat.num_intCast];refine(aoY (by omega) (kI v) ?_).trans (gL v)
  rw[Int.natCast_mul];grind
 ·rw[Rat.num_intCast,Int.natAbs_mul,Int.natAbs_natCast];exact Nat.mul_le_mul_left _ (Nat.le_mul_of_pos_left c (Nat.pos_of_ne_zero hd))
def kJ(vs:List Rat):List Int:=vs.map fun v=>(v*qj (gQ vs)).num
theorem pI(l:List Rat):0 < gQ l:=aaf _
theorem afr{l:List Rat}{v:Rat}(h:v∈l):v.den ∣ gQ l:=aea (List.mem_reverse.2 h)
theorem ags{l:List Rat}{n:Nat}(h:∀v∈l,v.den ∣ n):gQ l ∣ n:=aaA fun v hv=>h v (List.mem_reverse.1 hv)
end
section
open Go.RowKit QM SX LA
attribute [local irreducible] IntKind.wrap Go1 Reg WP aR aU bR bO aN aF ak aj aY Sat
attribute [local irreducible] bS dn cK dD dh qv bW mf
theorem wds_0:(wds 0).length=0:=by
 have:=mQ (n:=0) (k:=0) (by rw[Nat.pow_zero];decide)
 omega
theorem agP{a b:CA}{x y k m:Nat}[ha:NI a x k][hb:NI b y m](hd:y ∣ x)(hy:y≠0)(hk:k+m≤1099511627770):ah prog 103 [.it (.one (.c a)),.it (.one (.c b))] (.tup [.one (.c (.sat (bI (x / y)))),.one (.c (.val (.bool true)))]):=by
 have cD:=acO (ha:=ha) (hb:=hb) hk;rw[if_neg hy,Nat.mod_eq_zero_of_dvd hd,decide_eq_true hy]at cD;have hw:=wds_0;refine ah.fnF func103 results103 ntmps103 rfl rfl rfl (by simp[AV.ids,AV0.ids,Atom.ids]) rfl (fun w0 T B E0 hB=>?_)
 refine SX.goM ?_;exact .ok (aF.mk2 (ak.tmp rfl) (ak.tmp rfl))
theorem amx{a b:CA}{x y k m:Nat}[ha:NI a x k][hb:NI b y m](hx:x≠0)(hy:y≠0)(hbx:x < WB ^ k)(hby:y < WB ^ m)(hk:k+m≤1000000):ah prog 51 [.it (.one (.c a)),.it (.one (.c b))] (.r (bI (Nat.lcm x y))):=by
 have hg0:Nat.gcd x y≠0:=fun e=>hx (Nat.eq_zero_of_gcd_eq_zero_left e)
 have hgx:Nat.gcd x y≤x:=Nat.le_of_dvd (by omega) (Nat.gcd_dvd_left x y)
 haveI iG:NI (.sat (bI (Nat.gcd x y))) (Nat.gcd x y) k:=NI.acC (Nat.lt_of_le_of_lt hgx hbx)
 have hqx:x / Nat.gcd x y≤x:=Nat.div_le_self _ _
 haveI iQ:NI (.sat (bI (x / Nat.gcd x y))) (x / Nat.gcd x y) k:=NI.acC (Nat.lt_of_le_of_lt hqx hbx)
 have cG:=dGcd (ha:=ha) (hb:=hb) (by omega)
 have b1:=af2 (ha:=ha) (by omega)
 have b2:=af2 (ha:=hb) (by omega)
 have h1:bitLen x≠0:=fun e=>hx (mE.1 e)
 have h2:bitLen y≠0:=fun e=>hy (mE.1 e)
 have cE:=agP (ha:=ha) (hb:=iG) (Nat.gcd_dvd_left x y) hg0 (by omega)
 have cM:=mMul (ha:=iQ) (hb:=hb) (by omega)
 have e:x / Nat.gcd x y*y=Nat.lcm x y:=by
  unfold Nat.lcm;rw[Nat.div_mul_right_comm (Nat.gcd_dvd_left x y)]
 rw[e]at cM;generalize bitLen x=p at*;generalize bitLen y=q at*;refine ah.fnF func51 results51 ntmps51 rfl rfl rfl (by simp[AV.ids,AV0.ids,Atom.ids]) rfl (fun w0 T B E0 hB=>?_)
 refine SX.goM ?_;exact akO rfl
theorem aqp{v:Rat}{K:Nat}(hv:RB v K)(hd:v.den=1)(hK:K≤100000):ah prog 52 [.agg (qA v)] (.tup [.agg (zN v.num),.one (.c (.val (.bool true)))]):=by
 haveI b1:Bd v.num K:=⟨hv.n⟩
 haveI b2:Bd (v.den:Int) K:=⟨by rw[Int.natAbs_natCast];exact hv.d⟩
 have h1:ZI [.c (.val (.bool (decide (v.num < 0)))),.c (.sat (bI v.num.natAbs))] v.num K:=inferInstance;have h2:ZI [.c (.val (.bool (decide ((v.den:Int) < 0)))),.c (.sat (bI (v.den:Int).natAbs))] (v.den:Int) K:=inferInstance;have c:=(aaF (h:=h1) (h':=h2)).h (by omega)
 have e:rmk v.num (v.den:Int)=(v.num,(v.den:Int)):=(Rd.rmk b1 b2 (gL v) (Nat.le_refl _)).nf;have e2:qE v.num (v.den:Int)=v.num:=by
  unfold qE;rw[e,hd];rfl
 rw[e2,e,decide_eq_true (show (v.num,(v.den:Int)).2=1 by rw[hd];rfl)]at c
 exact c
theorem jQ{α:Type}{l:List α}{k:Nat}{a:α}(h:l[k]? =some a):l.take (k+1)=l.take k++[a]:=by
 rw[List.take_add_one,h];rfl
theorem abV{vs:List Rat}{k:Nat}{v:Rat}(h:vs[k]? =some v):gQ (vs.take (k+1))=Nat.lcm (gQ (vs.take k)) v.den:=by
 rw[jQ h,aju]
theorem qU{vs:List Rat}{K:Nat}(h:∀v∈vs,RB v K)(k:Nat):gQ (vs.take k) < WB ^ (1+vs.length*K):=by
 have h1:=ahv (l:=(vs.take k).reverse) (K:=K) fun v hv=>h v (List.mem_of_mem_take (List.mem_reverse.1 hv))
 refine Nat.lt_of_lt_of_le h1 (Nat.pow_le_pow_right aS ?_);rw[List.length_reverse,List.length_take];have:=Nat.mul_le_mul_right K (Nat.min_le_right k vs.length);omega
theorem wG{r c:Nat}{l:List Q4}{vs:List Rat}{K:Nat}(hM:MV l vs K)(hl:l.length=r*c)(hr:r≤64)(hc:c≤64)(hK1:1≤K)(hB0:1+(r*c+1)*K≤50000):
  ah prog 12 [.agg (iE r c l)] (.tup [.agg (sD r c (kJ vs)),.agg (zN ((gQ vs:Nat):Int)),eNo 0]):=by
 have hvl:vs.length=r*c:=by rw[←hM.len];exact hl
 have hrc:=Nat.mul_le_mul hr hc;have hKn:K≤50000:=by
  have:=Nat.mul_le_mul_right K (show 1≤r*c+1 by omega)
  omega
 have hKm:1+vs.length*K≤50000:=by
  rw[hvl];have:=Nat.mul_le_mul_right K (show r*c≤r*c+1 by omega)
  omega
 have cF:=oo (cells:=l.flatMap q4C) hl hr hc;have cM:=nJ r c (.sat (cloA 43 [.val (.int .i64 (r:Int)),.val (.int .i64 (c:Int)),.sat (aA 4 q4C l)])) (fun i k=>qat l c i k) (vat vs c) K (by omega) (by omega) (by omega)
  (fun i k hi hk=>FnV.bound (ads (agY hl hi hk) (by omega) (by omega) (by omega))) (fun i k hi hk=>hM.qat hl hi hk) rfl
 rw[aqe hvl,nA]at cM;have hlen:(vs.map q4v).length=r*c:=by rw[zq5];exact hvl
 have hRB:=hM.rb hK1;have o1:=of_1;have hms:(kJ vs).length=vs.length:=zq5 _;refine ah.fnF func12 results12 ntmps12 rfl rfl rfl (by simp[AV.ids,AV0.ids,Atom.ids]) rfl (fun w0 T B E0 hB=>?_)
 refine SX.goM ?_;refine SX.WP.aD ?_;refine SX.goM ?_;refine W.loop (fun k=>k≤vs.length) (fun k=>[(1,.ptr 1 0),(2,.ptr 2 0),(3,.ptr 3 0),(5,.ptr 5 0),(27,.r (aA 4 q4C (vs.map q4v))),(28,.v (.int .i64 ((vs.map q4v).length:Int))),(29,.v (.int .i64 (k:Int)))]) (fun k=>[(1,.box 24 (iE r c (vs.map q4v))),(2,.box 51 agQ),(3,.box 31 [.c (.val (.bool false)),.c (.val (.slice none 0 0))]),(5,.box 31 (zN ((gQ (vs.take k):Nat):Int)))]) (fun k=>vs.length - k) 0 (Nat.zero_le _) (fun k hk=>?_)
  (by
   refine SX.St.aZ [] (by intro b h;cases h) ?_ ?_ rfl
   ·repeat(first|exact trivial|refine⟨⟨_,rfl,SX.aG.same rfl⟩,?_⟩)
   ·exact⟨SX.ay.same rfl rfl,SX.ay.same rfl rfl,SX.ay.same rfl rfl,SX.ay.same rfl rfl,trivial⟩)
 by_cases hk2:k < vs.length
 ·obtain⟨v,hx⟩:∃v,vs[k]? =some v:=⟨_,zq2 hk2⟩
  have hq:(vs.map q4v)[k]? =some (q4v v):=by rw[List.getElem?_map,hx];rfl
  have hk3:k < (vs.map q4v).length:=u7 hq;have hvb:=hRB v (zq4 hx);have hlb:=qU hRB k;have hlb2:=qU hRB (k+1);rw[abV hx]at hlb2
  haveI n1:NI (.sat (bI (gQ (vs.take k)))) (gQ (vs.take k)) (1+vs.length*K):=NI.acC hlb
  haveI n2:NI (.sat (bI v.den)) v.den K:=NI.acC hvb.d
  haveI n3:NI (.sat (bI (Nat.lcm (gQ (vs.take k)) v.den))) (Nat.lcm (gQ (vs.take k)) v.den) (1+vs.length*K):=NI.acC hlb2
  have cL:ah prog 51 [.r (bI ((gQ (vs.take k):Nat):Int).natAbs),.r (bI ((v.den:Nat):Int).natAbs)] (.r (bI (Nat.lcm (gQ (vs.take k)) v.den))):=amx (ha:=n1) (hb:=n2) (by have:=pI (vs.take k);omega) v.den_nz hlb hvb.d (by omega)
  have cR:ah prog 50 [.r (bI (Nat.lcm (gQ (vs.take k)) v.den)),.v (.bool false)] (.agg (zN ((Nat.lcm (gQ (vs.take k)) v.den:Nat):Int))):=(abQ (h:=n3) false).h (by omega)
  have e5:Ent.box 31 (zN ((Nat.lcm (gQ (vs.take k)) v.den:Nat):Int))=Ent.box 31 (zN ((gQ (vs.take (k+1)):Nat):Int)):=by rw[abV hx]
  refine SX.goM ?_;refine W.next (k+1) hk2 (by omega) (by
   refine SX.St.aZ [] (by intro b h;cases h) ?_ ?_ rfl
   ·repeat(first|exact trivial|refine⟨⟨_,rfl,SX.aG.same rfl⟩,?_⟩)
   ·exact⟨SX.ay.same rfl rfl,SX.ay.same rfl rfl,SX.ay.same rfl rfl,SX.ay.eq rfl e5 rfl,trivial⟩)
 ·obtain rfl:k=vs.length:=by omega
  have hk3:¬vs.length < (vs.map q4v).length:=by rw[zq5];omega
  rw[List.take_length];have hD:=qU hRB vs.length;rw[List.take_length]at hD;have hDq:=ZQ.made (z:=((gQ vs:Nat):Int)) (K:=1+vs.length*K) hD;have cO:=(mM (h:=hDq.zi)).h (by omega)
  have rO:Ra (rU (((gQ vs:Nat):Int),1)) (qj ((gQ vs:Nat):Int)) (1+vs.length*K):=Ra.mono (hDq.ra zq1) (by omega)
  refine SX.goM ?_;refine W.loop (fun k=>k≤vs.length) (fun k=>[(1,.ptr 1 0),(2,.ptr 2 0),(3,.ptr 3 0),(5,.ptr 5 0),(8,.ptr 8 0),(47,.r (aA 4 q4C (vs.map q4v))),(48,.v (.int .i64 ((vs.map q4v).length:Int))),(49,.v (.int .i64 (k:Int)))]) (fun k=>[(1,.box 24 (iE r c (vs.map q4v))),(2,.box 51 agQ),(3,.box 31 [.c (.val (.bool false)),.c (.val (.slice none 0 0))]),(5,.box 31 (zN ((gQ vs:Nat):Int))),(8,.box 51 [.c (.val (.int .i64 (r:Int))),.c (.val (.int .i64 (c:Int))),.own 100]),(100,.row 31 2 k (((kJ vs).take k).flatMap zC))]) (fun k=>vs.length - k) 0 (Nat.zero_le _) (fun k hk=>?_)
   (by
    refine SX.St.aZ [(100,none)] (by intro b h;cases h) ?_ ?_ rfl
    ·repeat(first|exact trivial|refine⟨⟨_,rfl,SX.aG.same rfl⟩,?_⟩)
    ·exact⟨SX.ay.same rfl rfl,SX.ay.same rfl rfl,SX.ay.same rfl rfl,SX.ay.same rfl rfl,SX.ay.mo rfl rfl ⟨aB.same rfl,aB.same rfl,aB.nil rfl,trivial⟩,SX.ay.dF rfl,trivial⟩)
  by_cases hk4:k < vs.length
  ·obtain⟨v,hx⟩:∃v,vs[k]? =some v:=⟨_,zq2 hk4⟩
   have hq:(vs.map q4v)[k]? =some (q4v v):=by rw[List.getElem?_map,hx];rfl
   have hk5:k < (vs.map q4v).length:=u7 hq;have hvb:=hRB v (zq4 hx);have rv:=hvb.ra;have hw:=ace (afr (zq4 hx)) (pI vs);have cMu:ah prog 53 [.agg (q4A (q4v v)),.agg (rU (((gQ vs:Nat):Int),1))] (.agg (qA (v*qj ((gQ vs:Nat):Int)))):=(anB (a:=rv) (b:=rO)).h (by omega)
   have hPB:RB (v*qj ((gQ vs:Nat):Int)) (K+(1+vs.length*K)):=hvb.mul (Ra.rb rO (by omega))
   have cW:=aqp hPB hw.1 (by omega)
   have hm:(kJ vs)[k]? =some (v*qj ((gQ vs:Nat):Int)).num:=by unfold kJ;rw[List.getElem?_map,hx];rfl
   have e6:((kJ vs).take k).flatMap zC++zC (v*qj ((gQ vs:Nat):Int)).num=((kJ vs).take (k+1)).flatMap zC:=by rw[jQ hm,List.flatMap_append];simp
   generalize (v*qj ((gQ vs:Nat):Int)).num=z at*;refine SX.goM ?_;refine W.next (k+1) hk4 (by omega) (by
    refine SX.St.aZ [(100,some 65)] (by intro b h;cases h) ?_ ?_ rfl
    ·repeat(first|exact trivial|refine⟨⟨_,rfl,SX.aG.same rfl⟩,?_⟩)
    ·exact⟨SX.ay.same rfl rfl,SX.ay.same rfl rfl,SX.ay.same rfl rfl,SX.ay.same rfl rfl,SX.ay.mo rfl rfl ⟨aB.same rfl,aB.same rfl,aB.own rfl,trivial⟩,SX.ay.row rfl rfl rfl e6,trivial⟩)
  ·obtain rfl:k=vs.length:=by omega
   have hk6:¬vs.length < (vs.map q4v).length:=by rw[zq5];omega
   have e7:(kJ vs).take vs.length=kJ vs:=by rw[←hms,List.take_length]
   rw[e7];refine SX.goM ?_;have hm:sD r c (kJ vs)=[.c (.val (.int .i64 (r:Int))),.c (.val (.int .i64 (c:Int))),.c (.sat (aL 2 vs.length ((kJ vs).flatMap zC)))]:=by
    show [_,_,Atom.c (.sat (aL 2 (kJ vs).length _))]=_;rw[hms]
   rw[hm];refine aN.frz 100 ?_;exact .ok (aF.mk3 (ak.aX rfl rfl rfl) (ak.iV rfl rfl rfl) (ak.tmp rfl))
theorem ahH{vs:List Rat}{K:Nat}(h:∀v∈vs,RB v K):∀z∈kJ vs,z.natAbs < WB ^ (K+(1+vs.length*K)):=by
 intro z hz;obtain⟨v,hv,rfl⟩:=List.mem_map.1 hz;have h1:=(ace (afr hv) (pI vs)).2.2;have h2:=qU h vs.length;rw[List.take_length]at h2;exact Nat.lt_of_le_of_lt h1 (eY (h v hv).n h2)
end
section
open Go.RowKit QM SX LA
def wdC(w:Nat):List CA:=[.val (.int .u64 (w:Int))]
instance:dH wdC 1:=⟨fun _=>rfl⟩
structure Vl where
 k:Int
 q:gW
 r:Int
 c:Int
 a:List gW
 po:List pK
 p:Nat
 fr:Int
 fc:Int
 fa:List Nat
 ri:List Nat
 li:List Vl
mutual
def vlC:Vl→List CA
 |⟨k,q,r,c,a,po,p,fr,fc,fa,ri,li⟩=>[.val (.int .i64 k),.val (.bool q.1),.sat (dM q.2.1),.val (.bool q.2.2.1),.sat (dM q.2.2.2),.val (.int .i64 r),.val (.int .i64 c),.sat (aA 4 q4C (a.map rq)),.sat (aA 2 z2C (po.map rz)),.val (.int .u64 (p:Int)),.val (.int .i64 fr),.val (.int .i64 fc),.sat (aA 1 wdC fa),.sat (aA 1 wdC ri),.sat (aL 15 li.length (vlL li))]
def vlL:List Vl→List CA
 |[]=>[]
 |k::ks=>vlC k++vlL ks
end
theorem amF:∀ks:List Vl,vlL ks=ks.flatMap vlC
 |[]=>by rw[vlL];rfl
 |k::ks=>by rw[vlL,amF ks,List.flatMap_cons]
def vlE(v:Vl):List CA:=[.val (.int .i64 v.k),.val (.bool v.q.1),.sat (dM v.q.2.1),.val (.bool v.q.2.2.1),.sat (dM v.q.2.2.2),.val (.int .i64 v.r),.val (.int .i64 v.c),.sat (aA 4 q4C (v.a.map rq)),.sat (aA 2 z2C (v.po.map rz)),.val (.int .u64 (v.p:Int)),.val (.int .i64 v.fr),.val (.int .i64 v.fc),.sat (aA 1 wdC v.fa),.sat (aA 1 wdC v.ri),.sat (aA 15 vlC v.li)]
theorem asE(v:Vl):vlC v=vlE v:=by
 cases v;rw[vlC,amF];rfl
instance:dH vlE 15:=⟨fun v=>rfl⟩
theorem yM(l:List Vl):aA 15 vlC l=aA 15 vlE l:=by rw[show vlC=vlE from funext asE]
abbrev vlA(v:Vl):List Atom:=[.c (.val (.int .i64 v.k)),.c (.val (.bool v.q.1)),.c (.sat (dM v.q.2.1)),.c (.val (.bool v.q.2.2.1)),.c (.sat (dM v.q.2.2.2)),.c (.val (.int .i64 v.r)),.c (.val (.int .i64 v.c)),.c (.sat (aA 4 q4C (v.a.map rq))),.c (.sat (aA 2 z2C (v.po.map rz))),.c (.val (.int .u64 (v.p:Int))),.c (.val (.int .i64 v.fr)),.c (.val (.int .i64 v.fc)),.c (.sat (aA 1 wdC v.fa)),.c (.sat (aA 1 wdC v.ri)),.c (.sat (aA 15 vlC v.li))]
def cq(v:Rat):gW:=(decide (v.num < 0),wds v.num.natAbs,decide ((v.den:Int) < 0),wds (v.den:Int).natAbs)
def cz(z:Int):pK:=(decide (z < 0),wds z.natAbs)
abbrev rq0:gW:=(false,[],false,[])
abbrev v0:Vl:=⟨0,rq0,0,0,[],[],0,0,0,[],[],[]⟩
abbrev fC(v:Rat):Vl:=⟨1,cq v,0,0,[],[],0,0,0,[],[],[]⟩
abbrev dQ(r c:Nat)(vs:List Rat):Vl:=⟨2,rq0,r,c,vs.map cq,[],0,0,0,[],[],[]⟩
abbrev sH(zs:List Int):Vl:=⟨3,rq0,0,0,[],zs.map cz,0,0,0,[],[],[]⟩
abbrev tu(p r c:Nat)(l:List Nat):Vl:=⟨4,rq0,0,0,[],[],p,r,c,l,[],[]⟩
abbrev uO(p:Nat)(l:List Nat):Vl:=⟨5,rq0,0,0,[],[],p,0,0,[],l,[]⟩
abbrev pU(l:List Vl):Vl:=⟨6,rq0,0,0,[],[],0,0,0,[],[],l⟩
def aO(x y:Atom):Prop:=∀E S w v,x.has E S w v→y.has E S w v
theorem aO.refl(x:Atom):aO x x:=fun _ _ _ _ h=>h
theorem alj{E:Env}{S:Nat→Prop}{w:World}:∀{l l':List Atom},aI aO l l'→∀us,aI (Atom.has E S w) l us→aI (Atom.has E S w) l' us
 |[],[],_,_,h2=>h2
 |x::l,y::l',h,u::us,h2=>⟨h.1 _ _ _ _ h2.1,alj h.2 us h2.2⟩
theorem nT{l l':List Atom}(h:aI aO l l'):AV0.imp (.agg l) (.agg l'):=fun E S w v ⟨us,hu,h2⟩=>⟨us,hu,alj h us h2⟩
theorem akQ{size n:Nat}{cells cells':List CA}{S:Nat→Prop}{w:World}(hl:cells.length=cells'.length)(h:∀(i:Nat) (c c':CA),cells[i]? =some c→cells'[i]? =some c'→∀u,c.has S w u→c'.has S w u){v:Value}(hv:(aL size n cells).has S w v):(aL size n cells').has S w v:=by
 obtain⟨oa,cap,h1,h2,h3,h4,h5,h6⟩:=bB.1 hv;refine bB.2 ⟨oa,cap,h1,h2,h3,h4,by omega,fun i c' hc'=>?_⟩
 have hi:=u7 hc';obtain⟨b,o,u,e1,e2,e3,e4⟩:=h6 i cells[i] (zq2 (by omega))
 exact⟨b,o,u,e1,e2,e3,h i _ _ (zq2 (by omega)) hc' u e4⟩
theorem aO.slice{size n:Nat}{cells cells':List CA}(hl:cells.length=cells'.length)(h:∀(i:Nat) (c c':CA),cells[i]? =some c→cells'[i]? =some c'→∀S w u,c.has S w u→c'.has S w u):aO (.c (.sat (aL size n cells))) (.c (.sat (aL size n cells'))):=fun E S w v hv=>akQ hl (fun i c c' h1 h2=>h i c c' h1 h2 S w) hv
def abT(x y:CA):Prop:=∀S w u,x.has S w u→y.has S w u
theorem abT.refl(x:CA):abT x x:=fun _ _ _ h=>h
theorem aI.len{α β:Type}{R:α→β→Prop}:∀{l:List α} {l':List β},aI R l l'→l.length=l'.length
 |[],[],_=>rfl
 |_::_,_::_,h=>by rw[List.length_cons,List.length_cons,aI.len h.2]
theorem aI.at{α β:Type}{R:α→β→Prop}:∀{l:List α} {l':List β},aI R l l'→∀(i:Nat) (a:α) (b:β),l[i]? =some a→l'[i]? =some b→R a b
 |_::_,_::_,h,0,a,b,ha,hb=>by cases ha;cases hb;exact h.1
 |_::_,_::_,h,i+1,a,b,ha,hb=>aI.at h.2 i a b ha hb
theorem aI.app{α β:Type}{R:α→β→Prop}:∀{l:List α} {l':List β} {m:List α} {m':List β},aI R l l'→aI R m m'→aI R (l++m) (l'++m')
 |[],[],_,_,_,h=>h
 |_::_,_::_,_,_,h,h2=>⟨h.1,aI.app h.2 h2⟩
theorem aI.flat{α β γ:Type}{R:CA→CA→Prop}{enc:α→List CA}{enc':β→List CA}{f:γ→α}{g:γ→β}:∀(l:List γ),(∀x∈l,aI R (enc (f x)) (enc' (g x)))→aI R ((l.map f).flatMap enc) ((l.map g).flatMap enc')
 |[],_=>trivial
 |x::l,h=>aI.app (h x (List.mem_cons_self ..)) (aI.flat l fun y hy=>h y (List.mem_cons_of_mem _ hy))
theorem aO.row{α β γ:Type}{size:Nat}{enc:α→List CA}{enc':β→List CA}{f:γ→α}{g:γ→β}(l:List γ)(h:∀x∈l,aI abT (enc (f x)) (enc' (g x))):aO (.c (.sat (aA size enc (l.map f)))) (.c (.sat (aA size enc' (l.map g)))):=by
 have h2:=aI.flat l h;show aO (.c (.sat (aL size (l.map f).length ((l.map f).flatMap enc)))) (.c (.sat (aL size (l.map g).length ((l.map g).flatMap enc'))));rw[zq5,zq5];exact aO.slice (aI.len h2) (fun i c c' h3 h4=>aI.at h2 i c c' h3 h4)
theorem ac2(n:Nat):abT (.sat (bI n)) (.sat (dM (wds n))):=fun S w v h=>by
 obtain⟨l,h1,h2,_,h4⟩:=af7.1 h;have:=uR (nk.1 h4).1 h1;rw[h2]at this;rw[←this];exact h4
theorem aO.nrm(n:Nat):aO (.c (.sat (bI n))) (.c (.sat (dM (wds n)))):=fun E S w v h=>ac2 n S w v h
theorem aO.nil{α:Type}{size:Nat}{enc:α→List CA}:aO (.c (.val (.slice none 0 0))) (.c (.sat (aA size enc []))):=fun E S w v h=>by
 rw[show v= .slice none 0 0 from h];exact adO
theorem aO.acu:aO (.c (.val (.slice none 0 0))) (.c (.sat (dM []))):=fun E S w v h=>by
 rw[show v= .slice none 0 0 from h]
 exact nk.2 ⟨Sm.nil,(adO (α:=Nat) (enc:=wdC) (size:=1):(aA 1 wdC []).has S w _)⟩
theorem aO.rats(vs:List Rat):aO (.c (.sat (aA 4 q4C (vs.map q4v)))) (.c (.sat (aA 4 q4C ((vs.map cq).map rq)))):=by
 rw[List.map_map];exact aO.row vs fun x _=>⟨abT.refl _,ac2 _,abT.refl _,ac2 _,trivial⟩
theorem jL(v:Rat):rqv (cq v)=v:=by
 show qv (sgn (decide (v.num < 0)) (nval WB (wds v.num.natAbs))) (sgn (decide ((v.den:Int) < 0)) (nval WB (wds (v.den:Int).natAbs)))=v;rw[nU,nU,air,air];exact gL v
theorem oK(z:Int):rzv (cz z)=z:=by
 show sgn (decide (z < 0)) (nval WB (wds z.natAbs))=z;rw[nU,air]
theorem ahX(v:Rat):Sm WB (cq v).2.1∧Sm WB (cq v).2.2.2:=⟨ad9 _,ad9 _⟩
theorem anu(z:Int):Sm WB (cz z).2:=ad9 _
theorem RSm.cq(vs:List Rat):RSm (vs.map cq):=fun x hx=>by obtain⟨v,_,rfl⟩:=List.mem_map.1 hx;exact ahX v
theorem anx.cq{vs:List Rat}{K:Nat}(h:∀v∈vs,RB v K):anx (vs.map cq) K:=fun x hx=>by
 obtain⟨v,hv,rfl⟩:=List.mem_map.1 hx;exact⟨mQ (h v hv).n,mQ (by rw[Int.natAbs_natCast];exact(h v hv).d)⟩
theorem ape(vs:List Rat):(vs.map cq).map rqv=vs:=by
 rw[List.map_map,show rqv ∘ cq=id from funext jL,List.map_id]
theorem apR(zs:List Int):(zs.map cz).map rzv=zs:=by
 rw[List.map_map,show rzv ∘ cz=id from funext oK,List.map_id]
theorem MV.cq{vs:List Rat}{K:Nat}(h:∀v∈vs,RB v K):MV ((vs.map cq).map rq) vs K:=by
 have:=MV.raw (RSm.cq vs) (anx.cq h)
 rwa [ape]at this
theorem Ra.cq{v:Rat}{K:Nat}(h:RB v K):Ra (q4A (rq (cq v))) v K:=by
 have:=(MV.cq (vs:=[v]) (K:=K) fun u hu=>by rw[List.mem_singleton.1 hu];exact h).ra 0 _ _ rfl rfl
 exact this
end
section
open Go.RowKit QM SX LA
attribute [local irreducible] IntKind.wrap Go1 Reg WP aR aU bR bO aN aF ak aj aY Sat
attribute [local irreducible] bS dn cK dD dh qv bW mf
section
section
variable{P:Program}{C:Ctx}{st:St}
theorem aa5{r:ResultVar}{x y:AV0}(h:ak P st r x)(e:x.imp y):aN C P [r] ⟨.it y,[]⟩ st:= .ok (aF.mk1 (h.imp e))
end
theorem ahD{v:Rat}:AV0.imp (.agg [.c (.val (.int .i64 1)),.c (.val (.bool (decide (v.num < 0)))),.c (.sat (bI v.num.natAbs)),.c (.val (.bool (decide ((v.den:Int) < 0)))),.c (.sat (bI (v.den:Int).natAbs)),.c (.val (.int .i64 0)),.c (.val (.int .i64 0)),.c (.val (.slice none 0 0)),.c (.val (.slice none 0 0)),.c (.val (.int .u64 0)),.c (.val (.int .i64 0)),.c (.val (.int .i64 0)),.c (.val (.slice none 0 0)),.c (.val (.slice none 0 0)),.c (.val (.slice none 0 0))]) (.agg (vlA (fC v))):=
 nT ⟨aO.refl _,aO.refl _,aO.nrm _,aO.refl _,aO.nrm _,aO.refl _,aO.refl _,aO.nil,aO.nil,aO.refl _,aO.refl _,aO.refl _,aO.nil,aO.nil,aO.nil,trivial⟩
theorem sQ{q:Q4}{v:Rat}{K:Nat}(h:Ra (q4A q) v K)(hK:K≤100000):ah prog 19 [.agg (q4A q)] (.agg (vlA (fC v))):=by
 have cO:ah prog 14 [.agg [.c (.val (.bool false)),.c (.val (.slice none 0 0))]] (.agg (qA 0)):=mM.h (by decide)
 haveI:Ra (qA 0) 0 1:=(RB.zero (Nat.le_refl 1)).ra
 obtain⟨X,cA,hX⟩:=eAdd (q4A q) (qA 0) (K:=K) (K':=1) (by omega)
 rw[Rat.add_zero]at hX;have e:=hX.nf;subst e;refine ah.fnF func19 results19 ntmps19 rfl rfl rfl (by simp[AV.ids,AV0.ids,Atom.ids]) rfl (fun w0 T B E0 hB=>?_)
 refine SX.goM ?_;refine aa5 (ak.gX rfl rfl rfl) ?_;exact ahD
theorem RB.ofI{z:Int}{K:Nat}(h:z.natAbs < WB ^ K)(h1:1≤K):RB (z:Rat) K:=RB.of (p:=z) (q:=1) (by decide) (by unfold qv;grind) h (by
 rw[show (1:Int).natAbs=1 from rfl]
 exact(Bd.mono Bd.one.h h1:(1:Int).natAbs < WB ^ K))
theorem wz{q:Z2}{z:Int}{K:Nat}(h:ZQ q z K)(h1:1≤K)(hK:K≤100000):ah prog 17 [.agg (z2A q)] (.agg (vlA (fC (z:Rat)))):=by
 haveI:=h.zi
 have cO:ah prog 14 [.agg (z2A q)] (.agg (qA (z:Rat))):=mM.h (by omega)
 have hR:RB (z:Rat) K:=RB.ofI h.b h1;have cN:ah prog 19 [.agg (qA (z:Rat))] (.agg (vlA (fC (z:Rat)))):=sQ (q:=q4v z) hR.ra hK;refine ah.fnF func17 results17 ntmps17 rfl rfl rfl (by simp[AV.ids,AV0.ids,Atom.ids]) rfl (fun w0 T B E0 hB=>?_)
 refine SX.goM ?_;refine aa5 (ak.gX rfl rfl rfl) ?_;exact AV0.imp.refl _
theorem aoF{P:Program}{f:FuncId}{l l':List Atom}{r:AV}(h:ah P f [.agg l'] r)(hi:aI aO l l'):ah P f [.agg l] r:=
 h.args fun E S w vs hv=>by
  match vs,hv with
  |[u],⟨h1,_⟩=>exact⟨nT hi E S w u h1,trivial⟩
theorem aO.rats2(vs:List Rat):aO (.c (.sat (aL 4 vs.length (vs.flatMap qC)))) (.c (.sat (aA 4 q4C ((vs.map cq).map rq)))):=by
 have h:=aO.rats vs;rw[show aA 4 q4C (vs.map q4v)=aL 4 vs.length (vs.flatMap qC)by
  show aL 4 (vs.map q4v).length ((vs.map q4v).flatMap q4C)=_;rw[zq5,List.flatMap_map]]at h
 exact h
theorem jl{r c:Nat}{l:List Q4}{vs:List Rat}{K:Nat}(hM:MV l vs K)(hl:l.length=r*c)(hr:r≤64)(hc:c≤64)(hK:K≤100000):ah prog 8 [.agg (iE r c l)] (.agg (vlA (dQ r c vs))):=by
 have hb:=Nat.mul_le_mul hr hc;have cF:=oo (cells:=l.flatMap q4C) hl hr hc;have cO:ah prog 14 [.agg [.c (.val (.bool false)),.c (.val (.slice none 0 0))]] (.agg (qA 0)):=mM.h (by decide)
 haveI:Ra (qA 0) 0 1:=(RB.zero (Nat.le_refl 1)).ra
 refine ah.fnF func8 results8 ntmps8 rfl rfl rfl (by simp[AV.ids,AV0.ids,Atom.ids]) rfl (fun w0 T B E0 hB=>?_)
 refine SX.goM ?_;refine W.loop (fun k=>k≤l.length) (fun k=>[(2,.ptr 2 0),(3,.ptr 3 0),(16,.r (aA 4 q4C l)),(17,.v (.int .i64 (l.length:Int))),(18,.v (.int .i64 (k:Int)))]) (fun k=>[(2,.box 42 [.c (.val (.int .i64 0)),.c (.val (.bool false)),.c (.val (.slice none 0 0)),.c (.val (.bool false)),.c (.val (.slice none 0 0)),.c (.val (.int .i64 0)),.c (.val (.int .i64 0)),.c (.val (.slice none 0 0)),.c (.val (.slice none 0 0)),.c (.val (.int .u64 0)),.c (.val (.int .i64 0)),.c (.val (.int .i64 0)),.c (.val (.slice none 0 0)),.c (.val (.slice none 0 0)),.c (.val (.slice none 0 0))]),(3,.box 24 [.c (.val (.int .i64 (r:Int))),.c (.val (.int .i64 (c:Int))),.own 100]),(100,.row 33 4 k ((vs.take k).flatMap qC))]) (fun k=>l.length - k) 0 (Nat.zero_le _) (fun k hk=>?_)
  (by
   refine SX.St.aZ [(100,none)] (by intro b h;cases h) ?_ ?_ rfl
   ·repeat(first|exact trivial|refine⟨⟨_,rfl,SX.aG.same rfl⟩,?_⟩)
   ·exact⟨SX.ay.same rfl rfl,SX.ay.mo rfl rfl ⟨aB.same rfl,aB.same rfl,aB.nil rfl,trivial⟩,SX.ay.dF rfl,trivial⟩)
 by_cases h:k < l.length
 ·obtain⟨q,hq⟩:∃q,l[k]? =some q:=⟨_,zq2 h⟩
  obtain⟨v,hv⟩:∃v,vs[k]? =some v:=⟨_,zq2 (by rw[←hM.len];exact h)⟩
  haveI:=hM.ra k q v hq hv
  obtain⟨X,cA,hX⟩:=eAdd (q4A q) (qA 0) (K:=K) (K':=1) (by omega)
  rw[Rat.add_zero]at hX;have e:=hX.nf;subst e;have e2:(vs.take k).flatMap qC++qC v=(vs.take (k+1)).flatMap qC:=by rw[List.take_add_one,hv];simp
  refine SX.goM ?_;refine W.next (k+1) h (by omega) (by
   refine SX.St.aZ [(100,some 29)] (by intro b h;cases h) ?_ ?_ rfl
   ·repeat(first|exact trivial|refine⟨⟨_,rfl,SX.aG.same rfl⟩,?_⟩|refine⟨⟨_,rfl,SX.aG.own rfl⟩,?_⟩)
   ·exact⟨SX.ay.same rfl rfl,SX.ay.mo rfl rfl ⟨aB.same rfl,aB.same rfl,aB.own rfl,trivial⟩,SX.ay.row rfl rfl rfl e2,trivial⟩)
 ·obtain rfl:k=l.length:=by omega
  refine SX.goM ?_;refine aN.frz 100 ?_;refine aa5 (ak.gX rfl rfl rfl) ?_;rw[hM.len,List.take_length];exact nT ⟨aO.refl _,aO.refl _,aO.acu,aO.refl _,aO.acu,aO.refl _,aO.refl _,aO.rats2 vs,aO.nil,aO.refl _,aO.refl _,aO.refl _,aO.nil,aO.nil,aO.nil,trivial⟩
end
theorem aqC(q:gW):q=rq0↔q.2.1.length=0∧q.2.2.2.length=0∧q.1=false∧q.2.2.1=false:=by
 constructor
 ·rintro rfl;exact⟨rfl,rfl,rfl,rfl⟩
 ·obtain⟨b,l,b',l'⟩:=q;rintro⟨h1,h2,h3,h4⟩
  dsimp only at h1 h2 h3 h4
  rw[List.eq_nil_of_length_eq_zero h1,List.eq_nil_of_length_eq_zero h2,h3,h4]
def pt(p:Prop)[Decidable p]:Nat:=if p then 1 else 0
def vP(v:Vl):Nat:=pt (v.k≠1∧v.q≠rq0)+pt (v.k≠2∧¬(v.r=0∧v.c=0∧v.a.length=0))+pt (v.k≠3∧v.po.length≠0)+pt (v.k≠4∧¬(v.fr=0∧v.fc=0∧v.fa.length=0))+pt (v.k≠5∧v.ri.length≠0)+pt ((v.k≠4∧v.k≠5)∧v.p≠0)+pt (v.k≠6∧v.li.length≠0)
end
section
open Go.RowKit QM SX LA
section
def zOk(x:pK):Bool:=if x.2.length=0 then !x.1 else decide (x.2.getD (x.2.length - 1) 0≠0)
theorem acJ{x:pK}(hs:Sm WB x.2):zOk x=true↔x=cz (rzv x):=by
 constructor
 ·intro h;obtain⟨b,l⟩:=x;unfold zOk at h
  dsimp only at h hs
  have hn:Nrm l:=by
   split at h
   ·next h0=>exact .inl (List.eq_nil_of_length_eq_zero h0)
   ·exact .inr (of_decide_eq_true h)
  have hw:=uR hs hn;have hna:(sgn b (nval WB l)).natAbs=nval WB l:=by unfold sgn;split <;> omega
  show (b,l)=(decide (sgn b (nval WB l) < 0),wds (sgn b (nval WB l)).natAbs);rw[hna,←hw]
  congr 1
  split at h
  ·next h0=>
   have hb:b=false:=by simpa using h
   subst hb;exact(decide_eq_false (by unfold sgn;simp)).symm
  ·next h0=>
   have hne:nval WB l≠0:=fun e=>h0 (by rw[hw,e];exact(qw 0).2 rfl)
   cases b
   ·exact(decide_eq_false (by unfold sgn;simp)).symm
   ·exact(decide_eq_true (by unfold sgn;simp;omega)).symm
 ·intro h;rw[h];generalize rzv x=z;unfold zOk cz
  dsimp only
  split
  ·next h0=>
   have hz:=(qw z.natAbs).1 h0;rw[decide_eq_false (by omega)];rfl
  ·next h0=>
   rcases yF z.natAbs with h|h
   ·rw[h]at h0;exact absurd rfl h0
   ·exact decide_eq_true h
def qOk(q:gW):Bool:=zOk (q.1,q.2.1)&&zOk (q.2.2.1,q.2.2.2)&&decide (0 < rzv (q.2.2.1,q.2.2.2))&&decide (Int.gcd (rzv (q.1,q.2.1)) (rzv (q.2.2.1,q.2.2.2))=1)
theorem ait{q:gW}(hs:Sm WB q.2.1∧Sm WB q.2.2.2):qOk q=true↔q=cq (rqv q):=by
 have e1:=acJ (x:=(q.1,q.2.1)) hs.1;have e2:=acJ (x:=(q.2.2.1,q.2.2.2)) hs.2;unfold qOk;rw[Bool.and_eq_true,Bool.and_eq_true,Bool.and_eq_true,e1,e2,decide_eq_true_iff,decide_eq_true_iff];obtain⟨b,l,b',l'⟩:=q
 dsimp only
 constructor
 ·rintro⟨⟨⟨h1,h2⟩,h3⟩,h4⟩;have hr:rqv (b,l,b',l')=qv (rzv (b,l)) (rzv (b',l')):=rfl;have hX:Rd (rzv (b,l),rzv (b',l')) (rqv (b,l,b',l')) (l.length+l'.length+1):=⟨hr.symm,h3,h4,⟨Nat.lt_of_lt_of_le (ZQ.raw (b:=b) (l:=l) hs.1 (Nat.le_refl _)).b (Nat.pow_le_pow_right aS (by omega))⟩,⟨Nat.lt_of_lt_of_le (ZQ.raw (b:=b') (l:=l') hs.2 (Nat.le_refl _)).b (Nat.pow_le_pow_right aS (by omega))⟩⟩
  have hn:=hX.nf
  injection hn with n1 n2
  injection h1 with a1 a2
  injection h2 with a3 a4
  unfold cq;rw[←n1,←n2];exact Prod.ext a1 (Prod.ext a2 (Prod.ext a3 a4))
 ·intro h;generalize rqv (b,l,b',l')=v at h
  injection h with h1 h
  injection h with h2 h
  injection h with h3 h4
  have z1:rzv (b,l)=v.num:=by rw[h1,h2];exact oK v.num
  have z2:rzv (b',l')=(v.den:Int):=by rw[h3,h4];exact oK (v.den:Int)
  rw[z1,z2];refine⟨⟨⟨?_,?_⟩,?_⟩,?_⟩
  ·rw[h1,h2];rfl
  ·rw[h3,h4];rfl
  ·have:=v.den_nz;omega
  ·have h2:Nat.Coprime v.num.natAbs v.den:=v.reduced;unfold Int.gcd;rw[Int.natAbs_natCast];exact h2
theorem acN{α:Type}{p:α→Bool}(l:List α):decide (¬fi p l 0 < 0)=l.any p:=by
 rw[Bool.eq_iff_iff,decide_eq_true_iff,List.any_eq_true];constructor
 ·intro h;obtain⟨i,a,_,h2,h3⟩:=yU l 0 h;exact⟨a,zq4 h2,h3⟩
 ·rintro⟨a,h1,h2⟩ h3;rw[ad7 h3 a h1]at h2;cases h2
attribute [local irreducible] IntKind.wrap Go1 Reg WP aR aU bR bO aN aF ak aj aY Sat
attribute [local irreducible] bS dn cK dD dh qv bW mf
theorem sP(x:pK)(hl:x.2.length≤1000000000):ah prog 222 [.agg (z2A (rz x))] (.v (.bool (zOk x))):=by
 unfold zOk;refine ah.fnF func222 results222 ntmps222 rfl rfl rfl (by simp[AV.ids,AV0.ids,Atom.ids]) rfl (fun w0 T B E0 hB=>?_)
 by_cases h0:x.2.length=0
 ·rw[if_pos h0];cases h1:x.1
  ·refine SX.goM ?_;refine aP ?_;rfl
  ·refine SX.goM ?_;refine aP ?_;rfl
 ·rw[if_neg h0];obtain⟨w,hw⟩:∃w,x.2[x.2.length - 1]? =some w:=⟨_,zq2 (by omega)⟩
  have hg:x.2.getD (x.2.length - 1) 0=w:=by rw[zq3,hw];rfl
  rw[hg];refine SX.goM ?_;refine aP ?_;rw[decide_eq_decide];omega
theorem gsame(q:gW)(hs:Sm WB q.2.1∧Sm WB q.2.2.2)(hl:q.2.1.length+q.2.2.2.length≤1000000):ah prog 72 [.agg (zN (Int.gcd (rzv (q.1,q.2.1)) (rzv (q.2.2.1,q.2.2.2)):Int)),.agg (zN 1)] (.v (.bool (decide (Int.gcd (rzv (q.1,q.2.1)) (rzv (q.2.2.1,q.2.2.2))=1)))):=by
 haveI b1:Bd (rzv (q.1,q.2.1)) q.2.1.length:=⟨(ZQ.raw (b:=q.1) hs.1 (Nat.le_refl _)).b⟩
 haveI b2:Bd (rzv (q.2.2.1,q.2.2.2)) q.2.2.2.length:=⟨(ZQ.raw (b:=q.2.2.1) hs.2 (Nat.le_refl _)).b⟩
 haveI b3:Bd (Int.gcd (rzv (q.1,q.2.1)) (rzv (q.2.2.1,q.2.2.2)):Int) (q.2.1.length+q.2.2.2.length):=⟨by rw[Int.natAbs_natCast];exact(BdN.igcd _ _ _ _).h⟩
 have h:=(akN (l:=zN (Int.gcd (rzv (q.1,q.2.1)) (rzv (q.2.2.1,q.2.2.2)):Int)) (l':=zN 1)).h (show q.2.1.length+q.2.2.2.length+1≤1099511627774 by omega)
 rw[show decide ((Int.gcd (rzv (q.1,q.2.1)) (rzv (q.2.2.1,q.2.2.2)):Int)=1)=decide (Int.gcd (rzv (q.1,q.2.1)) (rzv (q.2.2.1,q.2.2.2))=1)from decide_eq_decide.2 (by omega)]at h
 exact h
theorem afB(q:gW)(hs:Sm WB q.2.1∧Sm WB q.2.2.2)(hl:q.2.1.length+q.2.2.2.length≤1000000):ah prog 217 [.agg (q4A (rq q))] (.v (.bool (qOk q))):=by
 have c1:=sP (q.1,q.2.1) (by dsimp only;omega)
 have c2:=sP (q.2.2.1,q.2.2.2) (by dsimp only;omega)
 have cS:=qZ (h:=ZI.raw q.2.2.1 q.2.2.2).h (show q.2.2.2.length≤1099511627775 by omega)
 have cG:=(alu (h:=ZI.raw q.1 q.2.1) (h':=ZI.raw q.2.2.1 q.2.2.2)).h (show q.2.1.length+q.2.2.2.length≤1099511627760 by omega)
 have o1:=of_1;have cE:=gsame q hs hl;unfold qOk;have hsg:=arO (rzv (q.2.2.1,q.2.2.2));change ah _ _ _ (.v (.int .i64 (bq (rzv (q.2.2.1,q.2.2.2)))))at cS
 change ah _ _ _ (.agg (zN (Int.gcd (rzv (q.1,q.2.1)) (rzv (q.2.2.1,q.2.2.2)):Int)))at cG
 generalize rzv (q.2.2.1,q.2.2.2)=z at*;refine ah.fnF func217 results217 ntmps217 rfl rfl rfl (by simp[AV.ids,AV0.ids,Atom.ids]) rfl (fun w0 T B E0 hB=>?_)
 cases h1:zOk (q.1,q.2.1)
 ·rw[h1]at c1;refine SX.goM ?_;exact aP rfl
 ·rw[h1]at c1;cases h2:zOk (q.2.2.1,q.2.2.2)
  ·rw[h2]at c2;refine SX.goM ?_;exact aP rfl
  ·rw[h2]at c2;by_cases h3:0 < z
   ·refine SX.goM ?_;refine aP ?_;rw[decide_eq_true h3];rfl
   ·refine SX.goM ?_;refine aP ?_;rw[decide_eq_false h3];rfl
theorem al8(l:List gW)(x:CA)(p:gW→Bool)(hx:∀v∈l,FnV prog x [.agg (q4A (rq v))] (.v (.bool (p v))))(hl:l.length≤100000)(hx1:x.dL=true):
  ah prog 315 [.r (aA 4 q4C (l.map rq)),.it (.one (.c x))] (.v (.int .i64 (fi p l 0))):=by
 have hlen:(l.map rq).length=l.length:=zq5 _;refine ah.fnF func315 results315 ntmps315 rfl rfl rfl (by simp[AV.ids,AV0.ids,Atom.ids]) rfl (fun w0 T B E0 hB=>?_)
 refine SX.goM ?_;refine W.loop (fun k=>k≤l.length∧fi p (l.drop k) k=fi p l 0) (fun k=>[(0,.r (aA 4 q4C (l.map rq))),(1,.it (.one (.c x))),(7,.v (.int .i64 (l.length:Int))),(8,.v (.int .i64 (k:Int)))]) (fun _=>[]) (fun k=>l.length - k) 0 ⟨Nat.zero_le _,rfl⟩ (fun k ⟨hk,he⟩=>?_)
 by_cases h:k < l.length
 ·obtain⟨r,hr⟩:∃r,l[k]? =some r:=⟨_,zq2 h⟩
  have hf:=hx r (zq4 hr);have hq:(l.map rq)[k]? =some (rq r):=by rw[List.getElem?_map,hr];rfl
  have h':k < (l.map rq).length:=by rw[zq5];exact h
  rw[om hr]at he;cases hp:p r with
  |true=>
   rw[hp]at hf he;refine SX.goM ?_;refine gM ?_;rw[←he];rfl
  |false=>
   rw[hp]at hf he;refine SX.goM ?_;exact W.next (k+1) ⟨h,he⟩ (by omega)
 ·obtain rfl:k=l.length:=by omega
  rw[List.drop_length]at he;have h':¬l.length < (l.map rq).length:=by rw[zq5];omega
  refine SX.goM ?_;refine gM ?_;rw[←he];rfl
theorem am0(l:List gW)(x:CA)(p:gW→Bool)(hx:∀v∈l,FnV prog x [.agg (q4A (rq v))] (.v (.bool (p v))))(hl:l.length≤100000)(hx1:x.dL=true):
  ah prog 218 [.r (aA 4 q4C (l.map rq)),.it (.one (.c x))] (.v (.bool (l.any p))):=by
 have c:=al8 l x p hx hl hx1;rw[←acN];refine ah.fnF func218 results218 ntmps218 rfl rfl rfl (by simp[AV.ids,AV0.ids,Atom.ids]) rfl (fun w0 T B E0 hB=>?_)
 refine SX.goM ?_;refine aP ?_;rw[decide_eq_decide];omega
theorem akD(l:List gW)(f:FuncId)(p:gW→Bool)(hx:∀v∈l,ah prog f [.agg (q4A (rq v))] (.v (.bool (p v))))(hl:l.length≤100000):
  ah prog 218 [.r (aA 4 q4C (l.map rq)),.it (.one (.clo f []))] (.v (.bool (l.any p))):=
 weakArgs (am0 l (.sat (dO f [] [])) p (fun v h=>FnV.const (hx v h)) hl rfl) fun E S w vs hv=>by
  match vs,hv with
  |[u1,u2],⟨h1,h2,_⟩=>exact⟨h1,aiL h2,trivial⟩
theorem amv(l:List pK)(x:CA)(p:pK→Bool)(hx:∀v∈l,FnV prog x [.agg (z2A (rz v))] (.v (.bool (p v))))(hl:l.length≤100000)(hx1:x.dL=true):
  ah prog 316 [.r (aA 2 z2C (l.map rz)),.it (.one (.c x))] (.v (.int .i64 (fi p l 0))):=by
 have hlen:(l.map rz).length=l.length:=zq5 _;refine ah.fnF func316 results316 ntmps316 rfl rfl rfl (by simp[AV.ids,AV0.ids,Atom.ids]) rfl (fun w0 T B E0 hB=>?_)
 refine SX.goM ?_;refine W.loop (fun k=>k≤l.length∧fi p (l.drop k) k=fi p l 0) (fun k=>[(0,.r (aA 2 z2C (l.map rz))),(1,.it (.one (.c x))),(7,.v (.int .i64 (l.length:Int))),(8,.v (.int .i64 (k:Int)))]) (fun _=>[]) (fun k=>l.length - k) 0 ⟨Nat.zero_le _,rfl⟩ (fun k ⟨hk,he⟩=>?_)
 by_cases h:k < l.length
 ·obtain⟨r,hr⟩:∃r,l[k]? =some r:=⟨_,zq2 h⟩
  have hf:=hx r (zq4 hr);have hq:(l.map rz)[k]? =some (rz r):=by rw[List.getElem?_map,hr];rfl
  have h':k < (l.map rz).length:=by rw[zq5];exact h
  rw[om hr]at he;cases hp:p r with
  |true=>
   rw[hp]at hf he;refine SX.goM ?_;refine gM ?_;rw[←he];rfl
  |false=>
   rw[hp]at hf he;refine SX.goM ?_;exact W.next (k+1) ⟨h,he⟩ (by omega)
 ·obtain rfl:k=l.length:=by omega
  rw[List.drop_length]at he;have h':¬l.length < (l.map rz).length:=by rw[zq5];omega
  refine SX.goM ?_;refine gM ?_;rw[←he];rfl
theorem aoI(l:List pK)(x:CA)(p:pK→Bool)(hx:∀v∈l,FnV prog x [.agg (z2A (rz v))] (.v (.bool (p v))))(hl:l.length≤100000)(hx1:x.dL=true):
  ah prog 220 [.r (aA 2 z2C (l.map rz)),.it (.one (.c x))] (.v (.bool (l.any p))):=by
 have c:=amv l x p hx hl hx1;rw[←acN];refine ah.fnF func220 results220 ntmps220 rfl rfl rfl (by simp[AV.ids,AV0.ids,Atom.ids]) rfl (fun w0 T B E0 hB=>?_)
 refine SX.goM ?_;refine aP ?_;rw[decide_eq_decide];omega
theorem akf(l:List pK)(f:FuncId)(p:pK→Bool)(hx:∀v∈l,ah prog f [.agg (z2A (rz v))] (.v (.bool (p v))))(hl:l.length≤100000):
  ah prog 220 [.r (aA 2 z2C (l.map rz)),.it (.one (.clo f []))] (.v (.bool (l.any p))):=
 weakArgs (aoI l (.sat (dO f [] [])) p (fun v h=>FnV.const (hx v h)) hl rfl) fun E S w vs hv=>by
  match vs,hv with
  |[u1,u2],⟨h1,h2,_⟩=>exact⟨h1,aiL h2,trivial⟩
theorem alL(l:List Nat)(x:CA)(p:Nat→Bool)(hx:∀v∈l,FnV prog x [.v (.int .u64 (v:Int))] (.v (.bool (p v))))(hl:l.length≤100000)(hx1:x.dL=true):
  ah prog 403 [.r (aA 1 wdC l),.it (.one (.c x))] (.v (.int .i64 (fi p l 0))):=by
 refine ah.fnF func403 results403 ntmps403 rfl rfl rfl (by simp[AV.ids,AV0.ids,Atom.ids]) rfl (fun w0 T B E0 hB=>?_)
 refine SX.goM ?_;refine W.loop (fun k=>k≤l.length∧fi p (l.drop k) k=fi p l 0) (fun k=>[(0,.r (aA 1 wdC l)),(1,.it (.one (.c x))),(7,.v (.int .i64 (l.length:Int))),(8,.v (.int .i64 (k:Int)))]) (fun _=>[]) (fun k=>l.length - k) 0 ⟨Nat.zero_le _,rfl⟩ (fun k ⟨hk,he⟩=>?_)
 by_cases h:k < l.length
 ·obtain⟨r,hr⟩:∃r,l[k]? =some r:=⟨_,zq2 h⟩
  have hf:=hx r (zq4 hr);rw[om hr]at he;cases hp:p r with
  |true=>
   rw[hp]at hf he;refine SX.goM ?_;refine gM ?_;rw[←he];rfl
  |false=>
   rw[hp]at hf he;refine SX.goM ?_;exact W.next (k+1) ⟨h,he⟩ (by omega)
 ·obtain rfl:k=l.length:=by omega
  rw[List.drop_length]at he;refine SX.goM ?_;refine gM ?_;rw[←he];rfl
theorem aoP(l:List Nat)(x:CA)(p:Nat→Bool)(hx:∀v∈l,FnV prog x [.v (.int .u64 (v:Int))] (.v (.bool (p v))))(hl:l.length≤100000)(hx1:x.dL=true):
  ah prog 318 [.r (aA 1 wdC l),.it (.one (.c x))] (.v (.bool (l.any p))):=by
 have c:=alL l x p hx hl hx1;rw[←acN];refine ah.fnF func318 results318 ntmps318 rfl rfl rfl (by simp[AV.ids,AV0.ids,Atom.ids]) rfl (fun w0 T B E0 hB=>?_)
 refine SX.goM ?_;refine aP ?_;rw[decide_eq_decide];omega
theorem aoi(l:List Vl)(x:CA)(p:Vl→Bool)(hx:∀v∈l,FnV prog x [.agg (vlA v)] (.v (.bool (p v))))(hl:l.length≤100000)(hx1:x.dL=true):
  ah prog 320 [.r (aA 15 vlC l),.it (.one (.c x))] (.v (.int .i64 (fi p l 0))):=by
 rw[yM];refine ah.fnF func320 results320 ntmps320 rfl rfl rfl (by simp[AV.ids,AV0.ids,Atom.ids]) rfl (fun w0 T B E0 hB=>?_)
 refine SX.goM ?_;refine W.loop (fun k=>k≤l.length∧fi p (l.drop k) k=fi p l 0) (fun k=>[(0,.r (aA 15 vlE l)),(1,.it (.one (.c x))),(7,.v (.int .i64 (l.length:Int))),(8,.v (.int .i64 (k:Int)))]) (fun _=>[]) (fun k=>l.length - k) 0 ⟨Nat.zero_le _,rfl⟩ (fun k ⟨hk,he⟩=>?_)
 by_cases h:k < l.length
 ·obtain⟨r,hr⟩:∃r,l[k]? =some r:=⟨_,zq2 h⟩
  have hf:=hx r (zq4 hr);rw[om hr]at he;cases hp:p r with
  |true=>
   rw[hp]at hf he;refine SX.goM ?_;refine gM ?_;rw[←he];rfl
  |false=>
   rw[hp]at hf he;refine SX.goM ?_;exact W.next (k+1) ⟨h,he⟩ (by omega)
 ·obtain rfl:k=l.length:=by omega
  rw[List.drop_length]at he;refine SX.goM ?_;refine gM ?_;rw[←he];rfl
theorem amd(l:List Vl)(x:CA)(p:Vl→Bool)(hx:∀v∈l,FnV prog x [.agg (vlA v)] (.v (.bool (p v))))(hl:l.length≤100000)(hx1:x.dL=true):
  ah prog 225 [.r (aA 15 vlC l),.it (.one (.c x))] (.v (.bool (l.any p))):=by
 have c:=aoi l x p hx hl hx1;rw[←acN];refine ah.fnF func225 results225 ntmps225 rfl rfl rfl (by simp[AV.ids,AV0.ids,Atom.ids]) rfl (fun w0 T B E0 hB=>?_)
 refine SX.goM ?_;refine aP ?_;rw[decide_eq_decide];omega
end
section
theorem vP0(v:Vl):vP v=0↔(v.k=1∨(v.q.2.1.length=0∧v.q.2.2.2.length=0∧v.q.1=false∧v.q.2.2.1=false))∧(v.k=2∨(v.r=0∧v.c=0∧v.a.length=0))∧(v.k=3∨v.po.length=0)∧(v.k=4∨(v.fr=0∧v.fc=0∧v.fa.length=0))∧(v.k=5∨v.ri.length=0)∧(v.k=4∨v.k=5∨v.p=0)∧(v.k=6∨v.li.length=0):=by
 have e:∀(p:Prop) [Decidable p],pt p=0↔¬p:=fun p _=>by unfold pt;split <;> simp_all
 unfold vP;rw[Nat.add_eq_zero_iff,Nat.add_eq_zero_iff,Nat.add_eq_zero_iff,Nat.add_eq_zero_iff,Nat.add_eq_zero_iff,Nat.add_eq_zero_iff,e,e,e,e,e,e,e,←aqC];constructor
 ·rintro⟨⟨⟨⟨⟨⟨h1,h2⟩,h3⟩,h4⟩,h5⟩,h6⟩,h7⟩;refine⟨?_,by omega,by omega,by omega,by omega,by omega,by omega⟩
  by_cases h:v.k=1
  ·exact .inl h
  ·exact .inr (Decidable.byContradiction fun h'=>h1 ⟨h,h'⟩)
 ·rintro⟨h1,h2,h3,h4,h5,h6,h7⟩;refine⟨⟨⟨⟨⟨⟨?_,by omega⟩,by omega⟩,by omega⟩,by omega⟩,by omega⟩,by omega⟩
  rintro⟨h,h'⟩;exact h1.elim h h'
theorem mO{b:Bool}{l:List Nat}(h:l.length=0):bitLen (sgn b (nval WB l)).natAbs=0:=by
 rw[List.eq_nil_of_length_eq_zero h];cases b <;> rfl
def kiC(k:Int):List CA:=[.val (.int .i64 k)]
instance:dH kiC 1:=⟨fun _=>rfl⟩
attribute [local irreducible] IntKind.wrap Go1 Reg WP aR aU bR bO aN aF ak aj aY Sat
attribute [local irreducible] bS dn cK dD dh qv bW mf
theorem alr(l:List Int)(i:Int)(hl:l.length≤1000):ah prog 356 [.r (aA 1 kiC l),.v (.int .i64 i)] (.v (.int .i64 (fi (fun a=>decide (i=a)) l 0))):=by
 refine ah.fnF func356 results356 ntmps356 rfl rfl rfl (by simp[AV.ids,AV0.ids,Atom.ids]) rfl (fun w0 T B E0 hB=>?_)
 refine SX.goM ?_;refine W.loop (fun k=>k≤l.length∧fi (fun a=>decide (i=a)) (l.drop k) k=fi (fun a=>decide (i=a)) l 0) (fun k=>[(0,.r (aA 1 kiC l)),(1,.v (.int .i64 i)),(7,.v (.int .i64 (l.length:Int))),(8,.v (.int .i64 (k:Int)))]) (fun _=>[]) (fun k=>l.length - k) 0 ⟨Nat.zero_le _,rfl⟩ (fun k ⟨hk,he⟩=>?_)
 by_cases h:k < l.length
 ·obtain⟨r,hr⟩:∃r,l[k]? =some r:=⟨_,zq2 h⟩
  rw[om hr]at he;by_cases hp:i=r
  ·rw[if_pos (decide_eq_true hp)]at he;refine SX.goM ?_;exact gM he
  ·rw[if_neg (by rw[decide_eq_false hp];decide)]at he
   refine SX.goM ?_;exact W.next (k+1) ⟨h,he⟩ (by omega)
 ·obtain rfl:k=l.length:=by omega
  rw[List.drop_length]at he;refine SX.goM ?_;refine gM ?_;rw[←he];rfl
theorem akG(k i:Int):ah prog 313 [.r (aA 1 kiC [k]),.v (.int .i64 i)] (.v (.bool (decide (i=k)))):=by
 have c:=alr [k] i (by rw[List.length_singleton];decide)
 refine ah.fnF func313 results313 ntmps313 rfl rfl rfl (by simp[AV.ids,AV0.ids,Atom.ids]) rfl (fun w0 T B E0 hB=>?_)
 have e:fi (fun a=>decide (i=a)) [k] 0=if i=k then 0 else -1:=by
  unfold fi;by_cases h:i=k
  ·rw[if_pos (decide_eq_true h),if_pos h];rfl
  ·rw[if_neg (by rw[decide_eq_false h];decide),if_neg h];rfl
 rw[e]at c;by_cases h:i=k
 ·rw[if_pos h]at c;refine SX.goM ?_;refine aP ?_;rw[decide_eq_true h];first|rfl|decide
 ·rw[if_neg h]at c;refine SX.goM ?_;refine aP ?_;rw[decide_eq_false h];first|rfl|decide
theorem aK(k i:Int):ah prog 312 [.v (.int .i64 i),.r (bJ [.sat (aA 1 kiC [k])])] (.v (.bool (!decide (i=k)))):=by
 have c:=akG k i;refine ah.fnF func312 results312 ntmps312 rfl rfl rfl (by simp[AV.ids,AV0.ids,Atom.ids]) rfl (fun w0 T B E0 hB=>?_)
 refine SX.goM ?_;exact aP rfl
structure vZ0(v:Vl):Prop where
 q:(Sm WB v.q.2.1∧Sm WB v.q.2.2.2)∧v.q.2.1.length≤100000∧v.q.2.2.2.length≤100000
 a:∀x∈v.a,(Sm WB x.2.1∧Sm WB x.2.2.2)∧x.2.1.length≤100000∧x.2.2.2.length≤100000
 al:v.a.length≤100000
 po:∀x∈v.po,Sm WB x.2∧x.2.length≤100000
 pol:v.po.length≤100000
 p:v.p < WB
 fa:∀x∈v.fa,x < WB
 fal:v.fa.length≤100000
 ri:∀x∈v.ri,x < WB
 ril:v.ri.length≤100000
 lil:v.li.length≤100000
set_option maxRecDepth 20000 in
set_option maxHeartbeats 2000000 in
theorem aeE(v:Vl)(hz:vZ0 v)(hk:v.k=1):ah prog 216 [.agg (vlA v),.r (aA 1 kiC [v.k])] (.v (.bool (decide (vP v=0)))):=by
 have c1:FnV prog (.sat (dO 312 [] [.sat (bJ [.sat (aA 1 kiC [v.k])])])) [.v (.int .i64 1)] (.v (.bool (!decide (1=v.k)))):=FnV.clo (aK v.k 1);have c2:FnV prog (.sat (dO 312 [] [.sat (bJ [.sat (aA 1 kiC [v.k])])])) [.v (.int .i64 2)] (.v (.bool (!decide (2=v.k)))):=FnV.clo (aK v.k 2);have c3:FnV prog (.sat (dO 312 [] [.sat (bJ [.sat (aA 1 kiC [v.k])])])) [.v (.int .i64 3)] (.v (.bool (!decide (3=v.k)))):=FnV.clo (aK v.k 3);have c4:FnV prog (.sat (dO 312 [] [.sat (bJ [.sat (aA 1 kiC [v.k])])])) [.v (.int .i64 4)] (.v (.bool (!decide (4=v.k)))):=FnV.clo (aK v.k 4);have c5:FnV prog (.sat (dO 312 [] [.sat (bJ [.sat (aA 1 kiC [v.k])])])) [.v (.int .i64 5)] (.v (.bool (!decide (5=v.k)))):=FnV.clo (aK v.k 5);have c6:FnV prog (.sat (dO 312 [] [.sat (bJ [.sat (aA 1 kiC [v.k])])])) [.v (.int .i64 6)] (.v (.bool (!decide (6=v.k)))):=FnV.clo (aK v.k 6);have cb1:=(dX (h:=ZI.raw v.q.1 v.q.2.1)).h (show v.q.2.1.length≤1099511627775 by have:=hz.q.2.1;omega)
 have cb2:=(dX (h:=ZI.raw v.q.2.2.1 v.q.2.2.2)).h (show v.q.2.2.2.length≤1099511627775 by have:=hz.q.2.2;omega)
 have hP:=vP0 v;have f1:=mO (b:=v.q.1) (l:=v.q.2.1);have f2:=mO (b:=v.q.2.2.1) (l:=v.q.2.2.2);have b1:=hz.q.2.1;have b2:=hz.q.2.2;have b3:=hz.al;have b4:=hz.pol;have b5:=hz.fal;have b6:=hz.ril;have b7:=hz.lil;have l1:(v.a.map rq).length=v.a.length:=zq5 _;have l2:(v.po.map rz).length=v.po.length:=zq5 _;refine ah.fnF func216 results216 ntmps216 rfl rfl rfl (by simp[AV.ids,AV0.ids,Atom.ids]) rfl (fun w0 T B E0 hB=>?_)
 refine SX.goM ?_;refine SX.WP.fP 3 hB rfl rfl ?_;refine SX.WP.aD ?_;have k0:v.k=1:=hk;have e1:(!decide ((1:Int)=v.k))=false:=by rw[k0];rfl
 have e2:(!decide ((2:Int)=v.k))=true:=by rw[k0];rfl
 have e3:(!decide ((3:Int)=v.k))=true:=by rw[k0];rfl
 have e4:(!decide ((4:Int)=v.k))=true:=by rw[k0];rfl
 have e5:(!decide ((5:Int)=v.k))=true:=by rw[k0];rfl
 have e6:(!decide ((6:Int)=v.k))=true:=by rw[k0];rfl
 rw[e1]at c1;rw[e2]at c2;rw[e3]at c3;rw[e4]at c4;rw[e5]at c5;rw[e6]at c6;clear e1 e2 e3 e4 e5 e6
 repeat'(first|refine SX.goM ?_|refine SX.W.ite (fun h=>?_) (fun h=>?_)|refine SX.W.iteN (fun h=>?_) (fun h=>?_)|refine SX.W.eP (fun h=>?_) (fun h=>?_)|refine SX.R.ite (fun h=>?_) (fun h=>?_)|refine SX.R.iteN (fun h=>?_) (fun h=>?_)|refine SX.R.eP (fun h=>?_) (fun h=>?_))
 all_goals
  refine aP ?_;refine Bool.eq_iff_iff.2 (Iff.trans ?_ decide_eq_true_iff.symm);rw[hP];constructor
  ·intro hh;first
    |(cases hh;done)
    |(try rw[decide_eq_true_iff]at hh
      refine⟨?_,?_,?_,?_,?_,?_,?_⟩ <;> first|omega|(refine .inr ⟨?_,?_,?_,?_⟩ <;> first|omega|assumption))
  ·rintro⟨h1,h2,h3,h4,h5,h6,h7⟩;first
    |rfl
    |(rw[decide_eq_true_iff];omega)
    |(exfalso;first|omega|(rcases h1 with h1|⟨g1,g2,g3,g4⟩ <;> first|omega|(clear c1 c2 c3 c4 c5 c6 f1 f2 hP;simp_all;done)))
set_option maxRecDepth 20000 in
set_option maxHeartbeats 2000000 in
theorem afe(v:Vl)(hz:vZ0 v)(hk:v.k=2):ah prog 216 [.agg (vlA v),.r (aA 1 kiC [v.k])] (.v (.bool (decide (vP v=0)))):=by
 have c1:FnV prog (.sat (dO 312 [] [.sat (bJ [.sat (aA 1 kiC [v.k])])])) [.v (.int .i64 1)] (.v (.bool (!decide (1=v.k)))):=FnV.clo (aK v.k 1);have c2:FnV prog (.sat (dO 312 [] [.sat (bJ [.sat (aA 1 kiC [v.k])])])) [.v (.int .i64 2)] (.v (.bool (!decide (2=v.k)))):=FnV.clo (aK v.k 2);have c3:FnV prog (.sat (dO 312 [] [.sat (bJ [.sat (aA 1 kiC [v.k])])])) [.v (.int .i64 3)] (.v (.bool (!decide (3=v.k)))):=FnV.clo (aK v.k 3);have c4:FnV prog (.sat (dO 312 [] [.sat (bJ [.sat (aA 1 kiC [v.k])])])) [.v (.int .i64 4)] (.v (.bool (!decide (4=v.k)))):=FnV.clo (aK v.k 4);have c5:FnV prog (.sat (dO 312 [] [.sat (bJ [.sat (aA 1 kiC [v.k])])])) [.v (.int .i64 5)] (.v (.bool (!decide (5=v.k)))):=FnV.clo (aK v.k 5);have c6:FnV prog (.sat (dO 312 [] [.sat (bJ [.sat (aA 1 kiC [v.k])])])) [.v (.int .i64 6)] (.v (.bool (!decide (6=v.k)))):=FnV.clo (aK v.k 6);have cb1:=(dX (h:=ZI.raw v.q.1 v.q.2.1)).h (show v.q.2.1.length≤1099511627775 by have:=hz.q.2.1;omega)
 have cb2:=(dX (h:=ZI.raw v.q.2.2.1 v.q.2.2.2)).h (show v.q.2.2.2.length≤1099511627775 by have:=hz.q.2.2;omega)
 have hP:=vP0 v;have f1:=mO (b:=v.q.1) (l:=v.q.2.1);have f2:=mO (b:=v.q.2.2.1) (l:=v.q.2.2.2);have b1:=hz.q.2.1;have b2:=hz.q.2.2;have b3:=hz.al;have b4:=hz.pol;have b5:=hz.fal;have b6:=hz.ril;have b7:=hz.lil;have l1:(v.a.map rq).length=v.a.length:=zq5 _;have l2:(v.po.map rz).length=v.po.length:=zq5 _;refine ah.fnF func216 results216 ntmps216 rfl rfl rfl (by simp[AV.ids,AV0.ids,Atom.ids]) rfl (fun w0 T B E0 hB=>?_)
 refine SX.goM ?_;refine SX.WP.fP 3 hB rfl rfl ?_;refine SX.WP.aD ?_;have k0:v.k=2:=hk;have e1:(!decide ((1:Int)=v.k))=true:=by rw[k0];rfl
 have e2:(!decide ((2:Int)=v.k))=false:=by rw[k0];rfl
 have e3:(!decide ((3:Int)=v.k))=true:=by rw[k0];rfl
 have e4:(!decide ((4:Int)=v.k))=true:=by rw[k0];rfl
 have e5:(!decide ((5:Int)=v.k))=true:=by rw[k0];rfl
 have e6:(!decide ((6:Int)=v.k))=true:=by rw[k0];rfl
 rw[e1]at c1;rw[e2]at c2;rw[e3]at c3;rw[e4]at c4;rw[e5]at c5;rw[e6]at c6;clear e1 e2 e3 e4 e5 e6
 repeat'(first|refine SX.goM ?_|refine SX.W.ite (fun h=>?_) (fun h=>?_)|refine SX.W.iteN (fun h=>?_) (fun h=>?_)|refine SX.W.eP (fun h=>?_) (fun h=>?_)|refine SX.R.ite (fun h=>?_) (fun h=>?_)|refine SX.R.iteN (fun h=>?_) (fun h=>?_)|refine SX.R.eP (fun h=>?_) (fun h=>?_))
 all_goals
  refine aP ?_;refine Bool.eq_iff_iff.2 (Iff.trans ?_ decide_eq_true_iff.symm);rw[hP];constructor
  ·intro hh;first
    |(cases hh;done)
    |(try rw[decide_eq_true_iff]at hh
      refine⟨?_,?_,?_,?_,?_,?_,?_⟩ <;> first|omega|(refine .inr ⟨?_,?_,?_,?_⟩ <;> first|omega|assumption))
  ·rintro⟨h1,h2,h3,h4,h5,h6,h7⟩;first
    |rfl
    |(rw[decide_eq_true_iff];omega)
    |(exfalso;first|omega|(rcases h1 with h1|⟨g1,g2,g3,g4⟩ <;> first|omega|(clear c1 c2 c3 c4 c5 c6 f1 f2 hP;simp_all;done)))
set_option maxRecDepth 20000 in
set_option maxHeartbeats 2000000 in
theorem aff(v:Vl)(hz:vZ0 v)(hk:v.k=3):ah prog 216 [.agg (vlA v),.r (aA 1 kiC [v.k])] (.v (.bool (decide (vP v=0)))):=by
 have c1:FnV prog (.sat (dO 312 [] [.sat (bJ [.sat (aA 1 kiC [v.k])])])) [.v (.int .i64 1)] (.v (.bool (!decide (1=v.k)))):=FnV.clo (aK v.k 1);have c2:FnV prog (.sat (dO 312 [] [.sat (bJ [.sat (aA 1 kiC [v.k])])])) [.v (.int .i64 2)] (.v (.bool (!decide (2=v.k)))):=FnV.clo (aK v.k 2);have c3:FnV prog (.sat (dO 312 [] [.sat (bJ [.sat (aA 1 kiC [v.k])])])) [.v (.int .i64 3)] (.v (.bool (!decide (3=v.k)))):=FnV.clo (aK v.k 3);have c4:FnV prog (.sat (dO 312 [] [.sat (bJ [.sat (aA 1 kiC [v.k])])])) [.v (.int .i64 4)] (.v (.bool (!decide (4=v.k)))):=FnV.clo (aK v.k 4);have c5:FnV prog (.sat (dO 312 [] [.sat (bJ [.sat (aA 1 kiC [v.k])])])) [.v (.int .i64 5)] (.v (.bool (!decide (5=v.k)))):=FnV.clo (aK v.k 5);have c6:FnV prog (.sat (dO 312 [] [.sat (bJ [.sat (aA 1 kiC [v.k])])])) [.v (.int .i64 6)] (.v (.bool (!decide (6=v.k)))):=FnV.clo (aK v.k 6);have cb1:=(dX (h:=ZI.raw v.q.1 v.q.2.1)).h (show v.q.2.1.length≤1099511627775 by have:=hz.q.2.1;omega)
 have cb2:=(dX (h:=ZI.raw v.q.2.2.1 v.q.2.2.2)).h (show v.q.2.2.2.length≤1099511627775 by have:=hz.q.2.2;omega)
 have hP:=vP0 v;have f1:=mO (b:=v.q.1) (l:=v.q.2.1);have f2:=mO (b:=v.q.2.2.1) (l:=v.q.2.2.2);have b1:=hz.q.2.1;have b2:=hz.q.2.2;have b3:=hz.al;have b4:=hz.pol;have b5:=hz.fal;have b6:=hz.ril;have b7:=hz.lil;have l1:(v.a.map rq).length=v.a.length:=zq5 _;have l2:(v.po.map rz).length=v.po.length:=zq5 _;refine ah.fnF func216 results216 ntmps216 rfl rfl rfl (by simp[AV.ids,AV0.ids,Atom.ids]) rfl (fun w0 T B E0 hB=>?_)
 refine SX.goM ?_;refine SX.WP.fP 3 hB rfl rfl ?_;refine SX.WP.aD ?_;have k0:v.k=3:=hk;have e1:(!decide ((1:Int)=v.k))=true:=by rw[k0];rfl
 have e2:(!decide ((2:Int)=v.k))=true:=by rw[k0];rfl
 have e3:(!decide ((3:Int)=v.k))=false:=by rw[k0];rfl
 have e4:(!decide ((4:Int)=v.k))=true:=by rw[k0];rfl
 have e5:(!decide ((5:Int)=v.k))=true:=by rw[k0];rfl
 have e6:(!decide ((6:Int)=v.k))=true:=by rw[k0];rfl
 rw[e1]at c1;rw[e2]at c2;rw[e3]at c3;rw[e4]at c4;rw[e5]at c5;rw[e6]at c6;clear e1 e2 e3 e4 e5 e6
 repeat'(first|refine SX.goM ?_|refine SX.W.ite (fun h=>?_) (fun h=>?_)|refine SX.W.iteN (fun h=>?_) (fun h=>?_)|refine SX.W.eP (fun h=>?_) (fun h=>?_)|refine SX.R.ite (fun h=>?_) (fun h=>?_)|refine SX.R.iteN (fun h=>?_) (fun h=>?_)|refine SX.R.eP (fun h=>?_) (fun h=>?_))
 all_goals
  refine aP ?_;refine Bool.eq_iff_iff.2 (Iff.trans ?_ decide_eq_true_iff.symm);rw[hP];constructor
  ·intro hh;first
    |(cases hh;done)
    |(try rw[decide_eq_true_iff]at hh
      refine⟨?_,?_,?_,?_,?_,?_,?_⟩ <;> first|omega|(refine .inr ⟨?_,?_,?_,?_⟩ <;> first|omega|assumption))
  ·rintro⟨h1,h2,h3,h4,h5,h6,h7⟩;first
    |rfl
    |(rw[decide_eq_true_iff];omega)
    |(exfalso;first|omega|(rcases h1 with h1|⟨g1,g2,g3,g4⟩ <;> first|omega|(clear c1 c2 c3 c4 c5 c6 f1 f2 hP;simp_all;done)))
set_option maxRecDepth 20000 in
set_option maxHeartbeats 2000000 in
theorem afD(v:Vl)(hz:vZ0 v)(hk:v.k=4):ah prog 216 [.agg (vlA v),.r (aA 1 kiC [v.k])] (.v (.bool (decide (vP v=0)))):=by
 have c1:FnV prog (.sat (dO 312 [] [.sat (bJ [.sat (aA 1 kiC [v.k])])])) [.v (.int .i64 1)] (.v (.bool (!decide (1=v.k)))):=FnV.clo (aK v.k 1);have c2:FnV prog (.sat (dO 312 [] [.sat (bJ [.sat (aA 1 kiC [v.k])])])) [.v (.int .i64 2)] (.v (.bool (!decide (2=v.k)))):=FnV.clo (aK v.k 2);have c3:FnV prog (.sat (dO 312 [] [.sat (bJ [.sat (aA 1 kiC [v.k])])])) [.v (.int .i64 3)] (.v (.bool (!decide (3=v.k)))):=FnV.clo (aK v.k 3);have c4:FnV prog (.sat (dO 312 [] [.sat (bJ [.sat (aA 1 kiC [v.k])])])) [.v (.int .i64 4)] (.v (.bool (!decide (4=v.k)))):=FnV.clo (aK v.k 4);have c5:FnV prog (.sat (dO 312 [] [.sat (bJ [.sat (aA 1 kiC [v.k])])])) [.v (.int .i64 5)] (.v (.bool (!decide (5=v.k)))):=FnV.clo (aK v.k 5);have c6:FnV prog (.sat (dO 312 [] [.sat (bJ [.sat (aA 1 kiC [v.k])])])) [.v (.int .i64 6)] (.v (.bool (!decide (6=v.k)))):=FnV.clo (aK v.k 6);have cb1:=(dX (h:=ZI.raw v.q.1 v.q.2.1)).h (show v.q.2.1.length≤1099511627775 by have:=hz.q.2.1;omega)
 have cb2:=(dX (h:=ZI.raw v.q.2.2.1 v.q.2.2.2)).h (show v.q.2.2.2.length≤1099511627775 by have:=hz.q.2.2;omega)
 have hP:=vP0 v;have f1:=mO (b:=v.q.1) (l:=v.q.2.1);have f2:=mO (b:=v.q.2.2.1) (l:=v.q.2.2.2);have b1:=hz.q.2.1;have b2:=hz.q.2.2;have b3:=hz.al;have b4:=hz.pol;have b5:=hz.fal;have b6:=hz.ril;have b7:=hz.lil;have l1:(v.a.map rq).length=v.a.length:=zq5 _;have l2:(v.po.map rz).length=v.po.length:=zq5 _;refine ah.fnF func216 results216 ntmps216 rfl rfl rfl (by simp[AV.ids,AV0.ids,Atom.ids]) rfl (fun w0 T B E0 hB=>?_)
 refine SX.goM ?_;refine SX.WP.fP 3 hB rfl rfl ?_;refine SX.WP.aD ?_;have k0:v.k=4:=hk;have e1:(!decide ((1:Int)=v.k))=true:=by rw[k0];rfl
 have e2:(!decide ((2:Int)=v.k))=true:=by rw[k0];rfl
 have e3:(!decide ((3:Int)=v.k))=true:=by rw[k0];rfl
 have e4:(!decide ((4:Int)=v.k))=false:=by rw[k0];rfl
 have e5:(!decide ((5:Int)=v.k))=true:=by rw[k0];rfl
 have e6:(!decide ((6:Int)=v.k))=true:=by rw[k0];rfl
 rw[e1]at c1;rw[e2]at c2;rw[e3]at c3;rw[e4]at c4;rw[e5]at c5;rw[e6]at c6;clear e1 e2 e3 e4 e5 e6
 repeat'(first|refine SX.goM ?_|refine SX.W.ite (fun h=>?_) (fun h=>?_)|refine SX.W.iteN (fun h=>?_) (fun h=>?_)|refine SX.W.eP (fun h=>?_) (fun h=>?_)|refine SX.R.ite (fun h=>?_) (fun h=>?_)|refine SX.R.iteN (fun h=>?_) (fun h=>?_)|refine SX.R.eP (fun h=>?_) (fun h=>?_))
 all_goals
  refine aP ?_;refine Bool.eq_iff_iff.2 (Iff.trans ?_ decide_eq_true_iff.symm);rw[hP];constructor
  ·intro hh;first
    |(cases hh;done)
    |(try rw[decide_eq_true_iff]at hh
      refine⟨?_,?_,?_,?_,?_,?_,?_⟩ <;> first|omega|(refine .inr ⟨?_,?_,?_,?_⟩ <;> first|omega|assumption))
  ·rintro⟨h1,h2,h3,h4,h5,h6,h7⟩;first
    |rfl
    |(rw[decide_eq_true_iff];omega)
    |(exfalso;first|omega|(rcases h1 with h1|⟨g1,g2,g3,g4⟩ <;> first|omega|(clear c1 c2 c3 c4 c5 c6 f1 f2 hP;simp_all;done)))
set_option maxRecDepth 20000 in
set_option maxHeartbeats 2000000 in
theorem aex(v:Vl)(hz:vZ0 v)(hk:v.k=5):ah prog 216 [.agg (vlA v),.r (aA 1 kiC [v.k])] (.v (.bool (decide (vP v=0)))):=by
 have c1:FnV prog (.sat (dO 312 [] [.sat (bJ [.sat (aA 1 kiC [v.k])])])) [.v (.int .i64 1)] (.v (.bool (!decide (1=v.k)))):=FnV.clo (aK v.k 1);have c2:FnV prog (.sat (dO 312 [] [.sat (bJ [.sat (aA 1 kiC [v.k])])])) [.v (.int .i64 2)] (.v (.bool (!decide (2=v.k)))):=FnV.clo (aK v.k 2);have c3:FnV prog (.sat (dO 312 [] [.sat (bJ [.sat (aA 1 kiC [v.k])])])) [.v (.int .i64 3)] (.v (.bool (!decide (3=v.k)))):=FnV.clo (aK v.k 3);have c4:FnV prog (.sat (dO 312 [] [.sat (bJ [.sat (aA 1 kiC [v.k])])])) [.v (.int .i64 4)] (.v (.bool (!decide (4=v.k)))):=FnV.clo (aK v.k 4);have c5:FnV prog (.sat (dO 312 [] [.sat (bJ [.sat (aA 1 kiC [v.k])])])) [.v (.int .i64 5)] (.v (.bool (!decide (5=v.k)))):=FnV.clo (aK v.k 5);have c6:FnV prog (.sat (dO 312 [] [.sat (bJ [.sat (aA 1 kiC [v.k])])])) [.v (.int .i64 6)] (.v (.bool (!decide (6=v.k)))):=FnV.clo (aK v.k 6);have cb1:=(dX (h:=ZI.raw v.q.1 v.q.2.1)).h (show v.q.2.1.length≤1099511627775 by have:=hz.q.2.1;omega)
 have cb2:=(dX (h:=ZI.raw v.q.2.2.1 v.q.2.2.2)).h (show v.q.2.2.2.length≤1099511627775 by have:=hz.q.2.2;omega)
 have hP:=vP0 v;have f1:=mO (b:=v.q.1) (l:=v.q.2.1);have f2:=mO (b:=v.q.2.2.1) (l:=v.q.2.2.2);have b1:=hz.q.2.1;have b2:=hz.q.2.2;have b3:=hz.al;have b4:=hz.pol;have b5:=hz.fal;have b6:=hz.ril;have b7:=hz.lil;have l1:(v.a.map rq).length=v.a.length:=zq5 _;have l2:(v.po.map rz).length=v.po.length:=zq5 _;refine ah.fnF func216 results216 ntmps216 rfl rfl rfl (by simp[AV.ids,AV0.ids,Atom.ids]) rfl (fun w0 T B E0 hB=>?_)
 refine SX.goM ?_;refine SX.WP.fP 3 hB rfl rfl ?_;refine SX.WP.aD ?_;have k0:v.k=5:=hk;have e1:(!decide ((1:Int)=v.k))=true:=by rw[k0];rfl
 have e2:(!decide ((2:Int)=v.k))=true:=by rw[k0];rfl
 have e3:(!decide ((3:Int)=v.k))=true:=by rw[k0];rfl
 have e4:(!decide ((4:Int)=v.k))=true:=by rw[k0];rfl
 have e5:(!decide ((5:Int)=v.k))=false:=by rw[k0];rfl
 have e6:(!decide ((6:Int)=v.k))=true:=by rw[k0];rfl
 rw[e1]at c1;rw[e2]at c2;rw[e3]at c3;rw[e4]at c4;rw[e5]at c5;rw[e6]at c6;clear e1 e2 e3 e4 e5 e6
 repeat'(first|refine SX.goM ?_|refine SX.W.ite (fun h=>?_) (fun h=>?_)|refine SX.W.iteN (fun h=>?_) (fun h=>?_)|refine SX.W.eP (fun h=>?_) (fun h=>?_)|refine SX.R.ite (fun h=>?_) (fun h=>?_)|refine SX.R.iteN (fun h=>?_) (fun h=>?_)|refine SX.R.eP (fun h=>?_) (fun h=>?_))
 all_goals
  refine aP ?_;refine Bool.eq_iff_iff.2 (Iff.trans ?_ decide_eq_true_iff.symm);rw[hP];constructor
  ·intro hh;first
    |(cases hh;done)
    |(try rw[decide_eq_true_iff]at hh
      refine⟨?_,?_,?_,?_,?_,?_,?_⟩ <;> first|omega|(refine .inr ⟨?_,?_,?_,?_⟩ <;> first|omega|assumption))
  ·rintro⟨h1,h2,h3,h4,h5,h6,h7⟩;first
    |rfl
    |(rw[decide_eq_true_iff];omega)
    |(exfalso;first|omega|(rcases h1 with h1|⟨g1,g2,g3,g4⟩ <;> first|omega|(clear c1 c2 c3 c4 c5 c6 f1 f2 hP;simp_all;done)))
set_option maxRecDepth 20000 in
set_option maxHeartbeats 2000000 in
theorem adQ(v:Vl)(hz:vZ0 v)(hk:v.k=6):ah prog 216 [.agg (vlA v),.r (aA 1 kiC [v.k])] (.v (.bool (decide (vP v=0)))):=by
 have c1:FnV prog (.sat (dO 312 [] [.sat (bJ [.sat (aA 1 kiC [v.k])])])) [.v (.int .i64 1)] (.v (.bool (!decide (1=v.k)))):=FnV.clo (aK v.k 1);have c2:FnV prog (.sat (dO 312 [] [.sat (bJ [.sat (aA 1 kiC [v.k])])])) [.v (.int .i64 2)] (.v (.bool (!decide (2=v.k)))):=FnV.clo (aK v.k 2);have c3:FnV prog (.sat (dO 312 [] [.sat (bJ [.sat (aA 1 kiC [v.k])])])) [.v (.int .i64 3)] (.v (.bool (!decide (3=v.k)))):=FnV.clo (aK v.k 3);have c4:FnV prog (.sat (dO 312 [] [.sat (bJ [.sat (aA 1 kiC [v.k])])])) [.v (.int .i64 4)] (.v (.bool (!decide (4=v.k)))):=FnV.clo (aK v.k 4);have c5:FnV prog (.sat (dO 312 [] [.sat (bJ [.sat (aA 1 kiC [v.k])])])) [.v (.int .i64 5)] (.v (.bool (!decide (5=v.k)))):=FnV.clo (aK v.k 5);have c6:FnV prog (.sat (dO 312 [] [.sat (bJ [.sat (aA 1 kiC [v.k])])])) [.v (.int .i64 6)] (.v (.bool (!decide (6=v.k)))):=FnV.clo (aK v.k 6);have cb1:=(dX (h:=ZI.raw v.q.1 v.q.2.1)).h (show v.q.2.1.length≤1099511627775 by have:=hz.q.2.1;omega)
 have cb2:=(dX (h:=ZI.raw v.q.2.2.1 v.q.2.2.2)).h (show v.q.2.2.2.length≤1099511627775 by have:=hz.q.2.2;omega)
 have hP:=vP0 v;have f1:=mO (b:=v.q.1) (l:=v.q.2.1);have f2:=mO (b:=v.q.2.2.1) (l:=v.q.2.2.2);have b1:=hz.q.2.1;have b2:=hz.q.2.2;have b3:=hz.al;have b4:=hz.pol;have b5:=hz.fal;have b6:=hz.ril;have b7:=hz.lil;have l1:(v.a.map rq).length=v.a.length:=zq5 _;have l2:(v.po.map rz).length=v.po.length:=zq5 _;refine ah.fnF func216 results216 ntmps216 rfl rfl rfl (by simp[AV.ids,AV0.ids,Atom.ids]) rfl (fun w0 T B E0 hB=>?_)
 refine SX.goM ?_;refine SX.WP.fP 3 hB rfl rfl ?_;refine SX.WP.aD ?_;have k0:v.k=6:=hk;have e1:(!decide ((1:Int)=v.k))=true:=by rw[k0];rfl
 have e2:(!decide ((2:Int)=v.k))=true:=by rw[k0];rfl
 have e3:(!decide ((3:Int)=v.k))=true:=by rw[k0];rfl
 have e4:(!decide ((4:Int)=v.k))=true:=by rw[k0];rfl
 have e5:(!decide ((5:Int)=v.k))=true:=by rw[k0];rfl
 have e6:(!decide ((6:Int)=v.k))=false:=by rw[k0];rfl
 rw[e1]at c1;rw[e2]at c2;rw[e3]at c3;rw[e4]at c4;rw[e5]at c5;rw[e6]at c6;clear e1 e2 e3 e4 e5 e6
 repeat'(first|refine SX.goM ?_|refine SX.W.ite (fun h=>?_) (fun h=>?_)|refine SX.W.iteN (fun h=>?_) (fun h=>?_)|refine SX.W.eP (fun h=>?_) (fun h=>?_)|refine SX.R.ite (fun h=>?_) (fun h=>?_)|refine SX.R.iteN (fun h=>?_) (fun h=>?_)|refine SX.R.eP (fun h=>?_) (fun h=>?_))
 all_goals
  refine aP ?_;refine Bool.eq_iff_iff.2 (Iff.trans ?_ decide_eq_true_iff.symm);rw[hP];constructor
  ·intro hh;first
    |(cases hh;done)
    |(try rw[decide_eq_true_iff]at hh
      refine⟨?_,?_,?_,?_,?_,?_,?_⟩ <;> first|omega|(refine .inr ⟨?_,?_,?_,?_⟩ <;> first|omega|assumption))
  ·rintro⟨h1,h2,h3,h4,h5,h6,h7⟩;first
    |rfl
    |(rw[decide_eq_true_iff];omega)
    |(exfalso;first|omega|(rcases h1 with h1|⟨g1,g2,g3,g4⟩ <;> first|omega|(clear c1 c2 c3 c4 c5 c6 f1 f2 hP;simp_all;done)))
set_option maxRecDepth 20000 in
set_option maxHeartbeats 2000000 in
theorem afc(v:Vl)(hz:vZ0 v)(hk:v.k≠1∧v.k≠2∧v.k≠3∧v.k≠4∧v.k≠5∧v.k≠6):ah prog 216 [.agg (vlA v),.r (aA 1 kiC [v.k])] (.v (.bool (decide (vP v=0)))):=by
 have c1:FnV prog (.sat (dO 312 [] [.sat (bJ [.sat (aA 1 kiC [v.k])])])) [.v (.int .i64 1)] (.v (.bool (!decide (1=v.k)))):=FnV.clo (aK v.k 1);have c2:FnV prog (.sat (dO 312 [] [.sat (bJ [.sat (aA 1 kiC [v.k])])])) [.v (.int .i64 2)] (.v (.bool (!decide (2=v.k)))):=FnV.clo (aK v.k 2);have c3:FnV prog (.sat (dO 312 [] [.sat (bJ [.sat (aA 1 kiC [v.k])])])) [.v (.int .i64 3)] (.v (.bool (!decide (3=v.k)))):=FnV.clo (aK v.k 3);have c4:FnV prog (.sat (dO 312 [] [.sat (bJ [.sat (aA 1 kiC [v.k])])])) [.v (.int .i64 4)] (.v (.bool (!decide (4=v.k)))):=FnV.clo (aK v.k 4);have c5:FnV prog (.sat (dO 312 [] [.sat (bJ [.sat (aA 1 kiC [v.k])])])) [.v (.int .i64 5)] (.v (.bool (!decide (5=v.k)))):=FnV.clo (aK v.k 5);have c6:FnV prog (.sat (dO 312 [] [.sat (bJ [.sat (aA 1 kiC [v.k])])])) [.v (.int .i64 6)] (.v (.bool (!decide (6=v.k)))):=FnV.clo (aK v.k 6);have cb1:=(dX (h:=ZI.raw v.q.1 v.q.2.1)).h (show v.q.2.1.length≤1099511627775 by have:=hz.q.2.1;omega)
 have cb2:=(dX (h:=ZI.raw v.q.2.2.1 v.q.2.2.2)).h (show v.q.2.2.2.length≤1099511627775 by have:=hz.q.2.2;omega)
 have hP:=vP0 v;have f1:=mO (b:=v.q.1) (l:=v.q.2.1);have f2:=mO (b:=v.q.2.2.1) (l:=v.q.2.2.2);have b1:=hz.q.2.1;have b2:=hz.q.2.2;have b3:=hz.al;have b4:=hz.pol;have b5:=hz.fal;have b6:=hz.ril;have b7:=hz.lil;have l1:(v.a.map rq).length=v.a.length:=zq5 _;have l2:(v.po.map rz).length=v.po.length:=zq5 _;refine ah.fnF func216 results216 ntmps216 rfl rfl rfl (by simp[AV.ids,AV0.ids,Atom.ids]) rfl (fun w0 T B E0 hB=>?_)
 refine SX.goM ?_;refine SX.WP.fP 3 hB rfl rfl ?_;refine SX.WP.aD ?_;have k0:=hk;have e1:(!decide ((1:Int)=v.k))=true:=by rw[decide_eq_false (by omega)];rfl
 have e2:(!decide ((2:Int)=v.k))=true:=by rw[decide_eq_false (by omega)];rfl
 have e3:(!decide ((3:Int)=v.k))=true:=by rw[decide_eq_false (by omega)];rfl
 have e4:(!decide ((4:Int)=v.k))=true:=by rw[decide_eq_false (by omega)];rfl
 have e5:(!decide ((5:Int)=v.k))=true:=by rw[decide_eq_false (by omega)];rfl
 have e6:(!decide ((6:Int)=v.k))=true:=by rw[decide_eq_false (by omega)];rfl
 rw[e1]at c1;rw[e2]at c2;rw[e3]at c3;rw[e4]at c4;rw[e5]at c5;rw[e6]at c6;clear e1 e2 e3 e4 e5 e6
 repeat'(first|refine SX.goM ?_|refine SX.W.ite (fun h=>?_) (fun h=>?_)|refine SX.W.iteN (fun h=>?_) (fun h=>?_)|refine SX.W.eP (fun h=>?_) (fun h=>?_)|refine SX.R.ite (fun h=>?_) (fun h=>?_)|refine SX.R.iteN (fun h=>?_) (fun h=>?_)|refine SX.R.eP (fun h=>?_) (fun h=>?_))
 all_goals
  refine aP ?_;refine Bool.eq_iff_iff.2 (Iff.trans ?_ decide_eq_true_iff.symm);rw[hP];constructor
  ·intro hh;first
    |(cases hh;done)
    |(try rw[decide_eq_true_iff]at hh
      refine⟨?_,?_,?_,?_,?_,?_,?_⟩ <;> first|omega|(refine .inr ⟨?_,?_,?_,?_⟩ <;> first|omega|assumption))
  ·rintro⟨h1,h2,h3,h4,h5,h6,h7⟩;first
    |rfl
    |(rw[decide_eq_true_iff];omega)
    |(exfalso;first|omega|(rcases h1 with h1|⟨g1,g2,g3,g4⟩ <;> first|omega|(clear c1 c2 c3 c4 c5 c6 f1 f2 hP;simp_all;done)))
theorem aki(v:Vl)(hz:vZ0 v):ah prog 216 [.agg (vlA v),.r (aA 1 kiC [v.k])] (.v (.bool (decide (vP v=0)))):=by
 have hk:v.k=1∨v.k=2∨v.k=3∨v.k=4∨v.k=5∨v.k=6∨(v.k≠1∧v.k≠2∧v.k≠3∧v.k≠4∧v.k≠5∧v.k≠6):=by omega
 rcases hk with hk|hk|hk|hk|hk|hk|hk
 ·exact aeE v hz hk
 ·exact afe v hz hk
 ·exact aff v hz hk
 ·exact afD v hz hk
 ·exact aex v hz hk
 ·exact adQ v hz hk
 ·exact afc v hz hk
end
section
def PrP(p:Nat):Prop:=2≤p∧p < 2147483648∧∀d,d < p→2≤d∧d*d≤p→p % d≠0
instance(p:Nat):Decidable (PrP p):=by unfold PrP;infer_instance
theorem zY(a b:Nat):(a:Int).tmod (b:Int)=((a % b:Nat):Int):=rfl
theorem wrapN{n:Nat}(h:n < 18446744073709551616):IntKind.u64.wrap (n:Int)=(n:Int):=oF (by omega) (by omega)
theorem PrP.intro{p d:Nat}(h1:2≤p)(h2:p < 2147483648)(h3:p < d*d)(h:∀e,2≤e→e < d→p % e≠0):PrP p:=⟨h1,h2,fun e _ he=>h e he.1 (by
 rcases Nat.lt_or_ge e d with h'|h'
 ·exact h'
 ·have:=Nat.mul_le_mul h' h';omega)⟩
theorem PrP.not{p d:Nat}(h1:2≤d)(h2:d*d≤p)(h3:p % d=0):¬PrP p:=fun h=>h.2.2 d (by
 have:=Nat.mul_le_mul h1 (Nat.le_refl d);omega) ⟨h1,h2⟩ h3
attribute [local irreducible] IntKind.wrap Go1 Reg WP aR aU bR bO aN aF ak aj aY Sat
attribute [local irreducible] bS dn cK dD dh qv bW mf PrP
theorem zX(p:Nat)(hp:p < 18446744073709551616):ah prog 111 [.v (.int .u64 (p:Int))] (.v (.bool (decide (PrP p)))):=by
 have hr2:IntKind.u64.wrap ((p:Int).tmod 2)=((p % 2:Nat):Int):=by rw[show (2:Int)=((2:Nat):Int)from rfl,zY];exact wrapN (Nat.lt_of_le_of_lt (Nat.mod_le p 2) hp)
 refine ah.fnF func111 results111 ntmps111 rfl rfl rfl (by simp[AV.ids,AV0.ids,Atom.ids]) rfl (fun w0 T B E0 hB=>?_)
 by_cases h1:p < 2
 ·have h1':(p:Int) < 2:=by omega
  refine SX.goM ?_;refine aP ?_;rw[Bool.eq_iff_iff,decide_eq_true_iff];refine Iff.trans ?_ decide_eq_true_iff.symm;exact⟨fun h=>by omega,fun h=>by unfold PrP at h;omega⟩
 by_cases h2:2147483648≤p
 ·have h2':(p:Int)≥2147483648:=by omega
  refine SX.goM ?_;refine aP ?_;rw[Bool.eq_iff_iff,decide_eq_true_iff];refine Iff.trans ?_ decide_eq_true_iff.symm;exact⟨fun h=>by omega,fun h=>by unfold PrP at h;omega⟩
 by_cases h3:p % 2=0
 ·refine SX.goM ?_;refine aP ?_;rw[Bool.eq_iff_iff,decide_eq_true_iff];refine Iff.trans ?_ decide_eq_true_iff.symm;constructor
  ·intro h;obtain rfl:p=2:=by omega
   exact PrP.intro (d:=2) (by decide) (by decide) (by decide) (fun e h h'=>by omega)
  ·intro h;rcases Nat.lt_or_ge p 4 with h4|h4
   ·omega
   ·exact absurd h (PrP.not (d:=2) (by decide) (by omega) h3)
 refine SX.goM ?_;refine W.loop (fun d=>3≤d∧d≤50000∧d % 2=1∧∀e,2≤e→e < d→p % e≠0) (fun d=>[(0,.v (.int .u64 (p:Int))),(3,.v (.int .u64 (d:Int)))]) (fun _=>[]) (fun d=>50001 - d) 3 ⟨by omega,by omega,by omega,fun e h h'=>(show e=2 by omega)▸h3⟩ (fun d ⟨hd,hd2,hodd,he⟩=>?_)
 have hmm:d*d≤50000*50000:=Nat.mul_le_mul hd2 hd2;have hq:IntKind.u64.wrap ((d:Int)*(d:Int))=((d*d:Nat):Int):=by rw[←Int.natCast_mul];exact wrapN (by omega)
 have hr:IntKind.u64.wrap ((p:Int).tmod (d:Int))=((p % d:Nat):Int):=by rw[zY];exact wrapN (Nat.lt_of_le_of_lt (Nat.mod_le p d) hp)
 have hdz:(d:Int)≠0:=by omega
 by_cases h:d*d≤p
 ·by_cases h5:p % d=0
  ·refine SX.goM ?_;refine aP ?_;exact(decide_eq_false (PrP.not (by omega) h h5)).symm
  ·have hd3:d≤46340:=by
    rcases Nat.lt_or_ge 46340 d with h4|h4
    ·have:=Nat.mul_le_mul h4 h4;omega
    ·exact h4
   refine SX.goM ?_;refine W.next (d+2) ⟨by omega,by omega,by omega,fun e h h'=>?_⟩ (by omega)
   by_cases h6:e < d
   ·exact he e h h6
   ·by_cases h7:e=d
    ·subst h7;exact h5
    ·obtain rfl:e=d+1:=by omega
     intro h8;have h9:(d+1) % 2=0:=by omega
     have:p % 2=0:=Nat.mod_eq_zero_of_dvd (Nat.dvd_trans (Nat.dvd_of_mod_eq_zero h9) (Nat.dvd_of_mod_eq_zero h8));exact h3 this
 ·refine SX.goM ?_;refine aP ?_;exact(decide_eq_true (PrP.intro (by omega) (by omega) (by omega) he)).symm
end
section
abbrev vlK(v:Vl):List CA:=[.val (.int .i64 v.k),.val (.bool v.q.1),.sat (dM v.q.2.1),.val (.bool v.q.2.2.1),.sat (dM v.q.2.2.2),.val (.int .i64 v.r),.val (.int .i64 v.c),.sat (aA 4 q4C (v.a.map rq)),.sat (aA 2 z2C (v.po.map rz)),.val (.int .u64 (v.p:Int)),.val (.int .i64 v.fr),.val (.int .i64 v.fc),.sat (aA 1 wdC v.fa),.sat (aA 1 wdC v.ri),.sat (aA 15 vlC v.li)]
def eu(r c:Int)(n:Nat):Bool:=decide (0≤r∧r≤64∧0≤c∧c≤64∧(n:Int)=r*c)
def mOk(r c:Int)(a:List gW):Bool:=a.all qOk&&eu r c a.length
def lz(po:List pK):Bool:=decide (po.length=0)||decide (rzv (po.getD (po.length - 1) (false,[]))≠0)
def pOk(po:List pK):Bool:=po.all zOk&&lz po
def ltp(p x:Nat):Bool:=decide (x < p)
def fOk(r c:Int)(fa:List Nat)(p:Nat):Bool:=fa.all (ltp p)&&eu r c fa.length
def lw(ri:List Nat):Bool:=decide (ri.length=0)||decide (ri.getD (ri.length - 1) 0≠0)
def rOk(p:Nat)(ri:List Nat):Bool:=ri.all (ltp p)&&lw ri
def vK(rec:Vl→Bool)(pos:Bool)(v:Vl):Bool:=decide (vP v=0)&&(if v.k=1 then qOk v.q else if v.k=2 then mOk v.r v.c v.a else if v.k=3 then pOk v.po else if v.k=4 then decide (PrP v.p)&&fOk v.fr v.fc v.fa v.p else if v.k=5 then decide (PrP v.p)&&rOk v.p v.ri else if v.k=6 then pos&&v.li.all rec else false)
def vF:Nat→Vl→Bool
 |0,v=>vK (fun _=>false) false v
 |d+1,v=>vK (vF d) true v
def vZ:Nat→Vl→Prop
 |0,v=>vZ0 v∧v.li=[]
 |n+1,v=>vZ0 v∧∀x∈v.li,vZ n x
theorem vZ.z{n:Nat}{v:Vl}(h:vZ n v):vZ0 v:=by cases n <;> exact h.1
theorem vF_P{d:Nat}{v:Vl}(h:vP v≠0):vF d v=false:=by
 cases d <;> (unfold vF vK;rw[decide_eq_false h];rfl)
theorem vF_1{d:Nat}{v:Vl}(h:vP v=0)(hk:v.k=1):vF d v=qOk v.q:=by
 cases d <;> (unfold vF vK;rw[decide_eq_true h,if_pos hk];rfl)
theorem vF_2{d:Nat}{v:Vl}(h:vP v=0)(hk:v.k=2):vF d v=mOk v.r v.c v.a:=by
 cases d <;> (unfold vF vK;rw[decide_eq_true h,if_neg (by omega),if_pos hk];rfl)
theorem vF_3{d:Nat}{v:Vl}(h:vP v=0)(hk:v.k=3):vF d v=pOk v.po:=by
 cases d <;> (unfold vF vK;rw[decide_eq_true h,if_neg (by omega),if_neg (by omega),if_pos hk];rfl)
theorem vF_4{d:Nat}{v:Vl}(h:vP v=0)(hk:v.k=4):vF d v=(decide (PrP v.p)&&fOk v.fr v.fc v.fa v.p):=by
 cases d <;> (unfold vF vK;rw[decide_eq_true h,if_neg (by omega),if_neg (by omega),if_neg (by omega),if_pos hk];rfl)
theorem vF_5{d:Nat}{v:Vl}(h:vP v=0)(hk:v.k=5):vF d v=(decide (PrP v.p)&&rOk v.p v.ri):=by
 cases d <;> (unfold vF vK;rw[decide_eq_true h,if_neg (by omega),if_neg (by omega),if_neg (by omega),if_neg (by omega),if_pos hk];rfl)
theorem vF_60{v:Vl}(hk:v.k=6):vF 0 v=false:=by
 unfold vF vK;rw[if_neg (by omega),if_neg (by omega),if_neg (by omega),if_neg (by omega),if_neg (by omega),if_pos hk];cases decide (vP v=0) <;> rfl
theorem vF_6{d:Nat}{v:Vl}(h:vP v=0)(hk:v.k=6):vF (d+1) v=v.li.all (vF d):=by
 unfold vF vK;rw[decide_eq_true h,if_neg (by omega),if_neg (by omega),if_neg (by omega),if_neg (by omega),if_neg (by omega),if_pos hk];rfl
theorem vF_7{d:Nat}{v:Vl}(hk:v.k≠1∧v.k≠2∧v.k≠3∧v.k≠4∧v.k≠5∧v.k≠6):vF d v=false:=by
 cases d <;> (unfold vF vK;rw[if_neg (by omega),if_neg (by omega),if_neg (by omega),if_neg (by omega),if_neg (by omega),if_neg (by omega)];cases decide (vP v=0) <;> rfl)
theorem zh{α:Type}(l:List α)(p:α→Bool):(!l.any fun x=>!p x)=l.all p:=by
 induction l with
 |nil=>rfl
 |cons a l ih=>rw[List.any_cons,List.all_cons,←ih];cases p a <;> simp
attribute [local irreducible] IntKind.wrap Go1 Reg WP aR aU bR bO aN aF ak aj aY Sat
attribute [local irreducible] bS dn cK dD dh qv bW mf PrP qOk zOk vP eu
theorem agm(v:Vl)(x:Nat):ah prog 319 [.v (.int .u64 (x:Int)),.r (bJ (vlK v))] (.v (.bool (!ltp v.p x))):=by
 refine ah.fnF func319 results319 ntmps319 rfl rfl rfl (by simp[AV.ids,AV0.ids,Atom.ids]) rfl (fun w0 T B E0 hB=>?_)
 refine SX.goM ?_;refine aP ?_;unfold ltp;rw[←decide_not,decide_eq_decide];omega
theorem abP(v:Vl)(l:List Nat)(hp:v.p < WB)(hl:l.length≤100000):ah prog 224 [.agg (vlA v),.r (aA 1 wdC l)] (.v (.bool (decide (PrP v.p)&&l.all (ltp v.p)))):=by
 have cP:=zX v.p (by rw[bV]at hp;exact hp)
 have cA:=aoP l (.sat (dO 319 [] [.sat (bJ (vlK v))])) (fun x=>!ltp v.p x) (fun x _=>FnV.clo (agm v x)) hl rfl
 rw[←zh];refine ah.fnF func224 results224 ntmps224 rfl rfl rfl (by simp[AV.ids,AV0.ids,Atom.ids]) rfl (fun w0 T B E0 hB=>?_)
 refine SX.goM ?_;refine SX.WP.fP 2 hB rfl rfl ?_;refine SX.WP.aD ?_;by_cases h:PrP v.p
 ·rw[decide_eq_true h]at cP ⊢;refine SX.goM ?_;exact aP rfl
 ·rw[decide_eq_false h]at cP ⊢;refine SX.goM ?_;exact aP rfl
theorem aeN(n:Int):ah prog 317 [.v (.int .i64 n)] (.v (.bool (decide (0≤n∧n≤64)))):=by
 refine ah.fnF func317 results317 ntmps317 rfl rfl rfl (by simp[AV.ids,AV0.ids,Atom.ids]) rfl (fun w0 T B E0 hB=>?_)
 by_cases h:n≥0
 ·refine SX.goM ?_;refine aP ?_;rw[decide_eq_decide];omega
 ·refine SX.goM ?_;refine aP ?_;exact(decide_eq_false fun h'=>h h'.1).symm
theorem xX(r c:Int){n:Nat}{cells:List CA}:ah prog 223 [.agg [.c (.val (.int .i64 r)),.c (.val (.int .i64 c)),.c (.sat (aL 1 n cells))]] (.v (.bool (eu r c n))):=by
 unfold eu;have s1:=aeN r;have s2:=aeN c;refine ah.fnF func223 results223 ntmps223 rfl rfl rfl (by simp[AV.ids,AV0.ids,Atom.ids]) rfl (fun w0 T B E0 hB=>?_)
 by_cases h1:0≤r∧r≤64
 ·rw[decide_eq_true h1]at s1;by_cases h2:0≤c∧c≤64
  ·rw[decide_eq_true h2]at s2;have hp:0≤r*c:=Int.mul_nonneg h1.1 h2.1;have hp2:r*c≤64*64:=Int.mul_le_mul h1.2 h2.2 h2.1 (by decide)
   refine SX.goM ?_;refine aP ?_;rw[decide_eq_decide];exact⟨fun h=>⟨h1.1,h1.2,h2.1,h2.2,h⟩,fun h=>h.2.2.2.2⟩
  ·rw[decide_eq_false h2]at s2;refine SX.goM ?_;refine aP ?_;exact(decide_eq_false fun h=>h2 ⟨h.2.2.1,h.2.2.2.1⟩).symm
 ·rw[decide_eq_false h1]at s1;refine SX.goM ?_;refine aP ?_;exact(decide_eq_false fun h=>h1 ⟨h.1,h.2.1⟩).symm
end
end
end Go.Proofs.YtjnhnbgpifohjaaGreatDoor