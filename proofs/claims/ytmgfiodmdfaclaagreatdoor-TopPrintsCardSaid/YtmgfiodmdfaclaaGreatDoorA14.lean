import Derived.Test.YtmgfiodmdfaclaaGreatDoorA12
import Derived.Test.YtmgfiodmdfaclaaGreatDoorA35
import Derived.Test.YtmgfiodmdfaclaaGreatDoorA13
import Derived.Test.YtmgfiodmdfaclaaGreatDoorA9
set_option linter.unusedVariables false
set_option linter.unusedSimpArgs false
namespace Go.Proofs.YtmgfiodmdfaclaaGreatDoor
section
open Go.RowKit QM SX
open Go.ChangeShapes Go.WideShapes Go.ChangeAt Go.Joins
section
variable{H:Type}{enc:TypeId×Value→H}{P:Program}{W:World}{base:Nat}{sp:Nat→Bool}{hd:Bool}
theorem d9.imp{α β:Type}{n:Nat}{t:TypeId}{e:α→List CA}{φ:α→Prop}{e':β→List CA}{ψ:β→Prop}(h:d9 enc P W base sp hd n t e φ)(f:α→β)(hf:∀a,φ a→ψ (f a))(he:∀a cs,φ a→aJ (CA.has none' W) (e a) cs→aJ (CA.has none' W) (e' (f a)) cs):d9 enc P W base sp hd n t e' ψ:=
 fun cs x hx=>let⟨a,h1,h2⟩:=h cs x hx;⟨f a,hf a h1,he a cs h1 h2⟩
def u64C(z:Int):List CA:=[.val (.int .u64 z)]
instance:dU u64C 1:=⟨fun _=>rfl⟩
theorem decNat(n:Nat):d9 enc Tryz.prog W base sp hd n 23 (fun l:List Nat=>[.sat (dJ l)]) (fun _=>True):=
 d9.all (fun n=>d9.imp (kL (enc':=u64C) Tryz.underlying23 (by kernel_rfl) (qc Tryz.underlying33)) (fun l=>l.map Int.toNat) (fun _ _=>trivial) (fun l cs hl hall=>by
  match cs,hall with
  |[v],⟨h1,_⟩=>
   refine⟨?_,trivial⟩;have hb:∀z∈l,0≤z∧z≤18446744073709551615:=fun z hz=>bounds_u64 (hl.2 z hz)
   refine mY.2 ⟨?_,?_⟩
   ·intro x hx;obtain⟨z,hz,rfl⟩:=List.mem_map.1 hx;have:=hb z hz;rw[aX];omega
   ·have e:(l.map Int.toNat).map (fun x:Nat=>CA.val (.int .u64 (x:Int)))=l.flatMap u64C:=by
     clear h1 hall hl
     induction l with
     |nil=>rfl
     |cons z l ih=>
      have:=hb z (by simp)
      rw[List.map_cons,List.map_cons,List.flatMap_cons,ih (fun y hy=>hb y (by simp[hy]))]
      show _::_=CA.val (.int .u64 z)::_;rw[show ((z.toNat:Nat):Int)=z by omega];rfl
    rw[e,List.length_map];exact h1)) n
end
end
section
open Go.RowKit QM SX LA
open Go.ChangeShapes Go.WideShapes Go.ChangeAt Go.Joins
section
variable{H:Type}{enc:TypeId×Value→H}{W:World}{base:Nat}{sp:Nat→Bool}{hd:Bool}
theorem sm_of{l:List Nat}:∀{cs:List Value},aJ (CA.has none' W) [.sat (dJ l)] cs→Sm WB l
 |[v],h=>(mY.1 h.1).1
theorem aq5(n:Nat):d9 enc Tryz.prog W base sp hd n 23 (fun l:List Nat=>[.sat (dJ l)]) (fun l=>Sm WB l):=
 fun cs x hx=>let⟨l,_,h2⟩:=decNat n cs x hx;⟨l,sm_of h2,h2⟩
theorem anu(n:Nat):d9 enc Tryz.prog W base sp hd n 25 (fun p:Bool×List Nat=>[.val (.bool p.1),.sat (dJ p.2)]) (fun p=>Sm WB p.2):=
 d9.all (fun n=>d9.conv (yP Tryz.underlying25 rfl (by kernel_rfl) (by kernel_rfl) (amQ Tryz.underlying4) (aq5 n)) id (fun _ h=>h.2) (fun _=>rfl)) n
def rqC(p:gy):List CA:=q4C (rq p)
instance:dU rqC 4:=⟨fun _=>rfl⟩
theorem ai7(n:Nat):d9 enc Tryz.prog W base sp hd n 27 rqC (fun p=>Sm WB p.2.1∧Sm WB p.2.2.2):=
 d9.all (fun n=>d9.conv (yP Tryz.underlying27 rfl (by kernel_rfl) (by kernel_rfl) (anu n) (anu n)) (fun p=>(p.1.1,p.1.2,p.2.1,p.2.2)) (fun _ h=>h) (fun _=>rfl)) n
abbrev RawM:=Int×Int×List gy
theorem arU(l:List gy):ay 4 rqC l=ay 4 q4C (l.map rq):=by
 show aI 4 l.length (l.flatMap rqC)=aI 4 (l.map rq).length ((l.map rq).flatMap q4C);rw[List.length_map,List.flatMap_map];rfl
theorem anB(n:Nat):d9 enc Tryz.prog W base sp hd n 28 (fun l:List gy=>[.sat (ay 4 rqC l)]) (fun l=>l.length≤maxLen∧∀a∈l,Sm WB a.2.1∧Sm WB a.2.2.2):=
 d9.all (fun n=>kL Tryz.underlying28 (by kernel_rfl) (ai7 n)) n
theorem ar8(n:Nat):d9 enc Tryz.prog W base sp hd n 30 (fun p:RawM=>[.val (.int .i64 p.1),.val (.int .i64 p.2.1),.sat (ay 4 q4C (p.2.2.map rq))]) (fun p=>RSm p.2.2):=
 d9.all (fun n=>d9.conv (yS Tryz.underlying30 rfl (by kernel_rfl) (by kernel_rfl) (by kernel_rfl) (qc Tryz.underlying3) (qc Tryz.underlying3) (anB n)) id (fun p h=>h.2.2.2) (fun p=>by
  show [CA.val (.int .i64 p.1),CA.val (.int .i64 p.2.1),CA.sat (ay 4 q4C (p.2.2.map rq))]=[CA.val (.int .i64 p.1),CA.val (.int .i64 p.2.1),CA.sat (ay 4 rqC p.2.2)];rw[arU])) n
end
attribute [local irreducible] IntKind.wrap Go1 Reg WP aQ aR bO bN aN aB aj ah aV Sat
attribute [local irreducible] bS bV bX dx bW qv redS mf
theorem adS.len{r c:Int}{l:List gy}{s:Int}{w:Nat}(h:adS r c l s w):aoa l w:=by
 intro x hx;obtain⟨i,hi⟩:=List.mem_iff_getElem?.1 hx;have hil:=jZ hi;have:=h.1 i x (by have:=h.2.2.2;omega) hi
 omega
theorem Ra.mono{l:List Atom}{v:Rat}{K L:Nat}(h:Ra l v K)(hK:K≤L):Ra l v L:=by
 obtain⟨x0,x1,x2,x3,p,q,k,m,h1,h2,h3,h4,h5,h6,h7,h8⟩:=h.h;exact⟨x0,x1,x2,x3,p,q,k,m,h1,h2,h3,by omega,by omega,h6,h7,h8⟩
end
section
open Go.RowKit QM SX LA
attribute [local irreducible] IntKind.wrap Go1 Reg WP aQ aR bO bN aN aB aj ah aV Sat
attribute [local irreducible] bS bV bX dx bW qv redS mf
def q0:Q4:=q4v 0
def qat(l:List Q4)(c i k:Nat):Q4:=l.getD (i*c+k) q0
theorem ame{l:List Q4}{r c i k:Nat}(hl:l.length=r*c)(hi:i < r)(hk:k < c):l[i*c+k]? =some (qat l c i k):=by
 have h:=yB hi hk;unfold qat;rw[List.getD_eq_getElem?_getD,List.getElem?_eq_getElem (by omega)];rfl
theorem MV.qat{r c i k K:Nat}{l:List Q4}{vs:List Rat}(hM:MV l vs K)(hl:l.length=r*c)(hi:i < r)(hk:k < c):Ra (q4A (qat l c i k)) (vat vs c i k) K:=
 hM.ra _ _ _ (ame hl hi hk) (ano (by rw[←hM.len];exact hl) hi hk)
theorem akq{r c r' c':Nat}{l l':List Q4}(hl:l.length=r*c)(hl':l'.length=r'*c')(hr:r≤64)(hc:c≤64)(hr':r'≤64)(hc':c'≤64)(goal:Bool)(hg:goal=true↔r=r'∧c=c'):
  PureOK Tryz.prog 94 [.agg (aam r c l),.agg (aam r' c' l')] (.v (.bool goal)):=by
 have cF:=zW (cells:=l.flatMap q4C) hl hr hc;have cF':=zW (cells:=l'.flatMap q4C) hl' hr' hc';refine PureOK.fnF Tryz.func94 Tryz.results94 Tryz.ntmps94 rfl rfl rfl (by simp[AV.ids,AV0.ids,Atom.ids]) rfl (fun w0 T B E0 hB=>?_)
 by_cases h1:(r:Int)=(r':Int)
 ·refine SX.goM ?_;refine aG ?_;rw[Bool.eq_iff_iff,hg,decide_eq_true_iff];omega
 ·refine SX.goM ?_;refine aG ?_;exact(Bool.eq_false_iff.2 fun ht=>h1 (by have:=(hg.1 ht).1;omega)).symm
theorem aqF{vs:List Rat}{r c:Nat}(hl:vs.length=r*c):mF c (vat vs c) r=vs:=by
 apply List.ext_getElem?
 intro n;rcases Nat.lt_or_ge n (r*c)with h|h
 ·have hc:0 < c:=by
   rcases Nat.eq_zero_or_pos c with h0|h0
   ·subst h0;omega
   ·exact h0
  have h1:n / c < r:=by rw[Nat.div_lt_iff_lt_mul hc];exact h
  have h2:=Nat.mod_lt n hc;have h3:n / c*c+n % c=n:=by rw[Nat.mul_comm];exact Nat.div_add_mod n c
  have a1:=adA (val:=vat vs c) h2 h1;have a2:=ano hl h1 h2;rw[h3]at a1 a2;rw[a1,a2]
 ·rw[List.getElem?_eq_none (by rw[mQ];exact h),List.getElem?_eq_none (by omega)]
end
section
open Go.RowKit QM SX LA
open Go.ChangeShapes Go.WideShapes Go.ChangeAt Go.Joins
abbrev lY:=Bool×List Nat
abbrev rz(x:lY):Z2:=(x.1,dJ x.2)
def rzv(x:lY):Int:=sgn x.1 (nval WB x.2)
section
variable{H:Type}{enc:TypeId×Value→H}{W:World}{base:Nat}{sp:Nat→Bool}{hd:Bool}
end
attribute [local irreducible] IntKind.wrap Go1 Reg WP aQ aR bO bN aN aB aj ah aV Sat
attribute [local irreducible] bS bV bX dx bW qv redS mf
theorem MZ.raw{l:List lY}{K:Nat}(hs:∀a∈l,Sm WB a.2)(hl:∀a∈l,a.2.length≤K):MZ (l.map rz) (l.map rzv) K:=by
 refine⟨by rw[List.length_map,List.length_map],fun i q z hq hz=>?_⟩
 rw[List.getElem?_map]at hq hz
 cases hx:l[i]? with
 |none=>rw[hx]at hq;cases hq
 |some x=>
  rw[hx]at hq hz;cases hq;cases hz;exact ZQ.raw (hs x (List.mem_of_getElem? hx)) (hl x (List.mem_of_getElem? hx))
end
section
open Go.RowKit QM SX LA
def ajM:List Rat→Nat
 |[]=>1
 |v::l=>Nat.lcm (ajM l) v.den
theorem abz:∀l,0 < ajM l
 |[]=>by decide
 |v::l=>Nat.lcm_pos (abz l) (Nat.pos_of_ne_zero v.den_nz)
theorem aeg:∀{l:List Rat} {v:Rat},v∈l→v.den ∣ ajM l
 |w::l,v,h=>by
  rcases List.mem_cons.1 h with rfl|h
  ·exact Nat.dvd_lcm_right _ _
  ·exact Nat.dvd_trans (aeg h) (Nat.dvd_lcm_left _ _)
theorem aav:∀{l:List Rat} {n:Nat},(∀v∈l,v.den ∣ n)→ajM l ∣ n
 |[],n,_=>Nat.one_dvd n
 |v::l,n,h=>Nat.lcm_dvd (aav fun w hw=>h w (by simp[hw])) (h v (by simp))
theorem ail{K:Nat}:∀{l:List Rat},(∀v∈l,RB v K)→ajM l < WB ^ (1+l.length*K)
 |[],_=>by
  have:=aX;show 1 < WB ^ (1+0*K);rw[Nat.zero_mul,Nat.add_zero,Nat.pow_one];omega
 |v::l,h=>by
  have h1:=ail (l:=l) fun w hw=>h w (by simp[hw])
  have h2:=(h v (by simp)).d
  refine Nat.lt_of_le_of_lt (Nat.le_of_dvd (Nat.mul_pos (abz l) (Nat.pos_of_ne_zero v.den_nz)) (Nat.lcm_dvd (Nat.dvd_mul_right _ _) (Nat.dvd_mul_left _ _))) ?_;have h3:=uM h1 h2;rw[List.length_cons,Nat.succ_mul,←Nat.add_assoc];exact h3
def jd(l:List Rat):Nat:=ajM l.reverse
theorem aj4{l:List Rat}{v:Rat}:jd (l++[v])=Nat.lcm (jd l) v.den:=by
 unfold jd;rw[List.reverse_append];rfl
def qj(z:Int):Rat:=qv z 1
theorem ajl(z:Int):qj z=(z:Rat):=by unfold qj qv;grind
theorem ak0{v:Rat}{D:Nat}(h:v.den ∣ D)(hD:0 < D):(v*qj D).den=1∧qv (v*qj D).num D=v∧(v*qj D).num.natAbs≤v.num.natAbs*D:=by
 obtain⟨c,rfl⟩:=h;have hd:=v.den_nz;have hq:=c0 (uU v);have hc:(c:Rat)≠0:=fun e=>by
  have:c=0:=by exact_mod_cast e
  subst this;simp at hD
 have e:v*qj ((v.den*c:Nat):Int)=((v.num*c:Int):Rat):=by
  rw[ajl,Int.natCast_mul,Rat.intCast_mul,Rat.intCast_mul];have hv:=kW v;unfold qv at hv;generalize ((v.den:Int):Rat)=d at*;generalize ((v.num:Int):Rat)=n at*;rw[←hv];grind
 rw[e];refine⟨Rat.den_intCast _,?_,?_⟩
 ·rw[Rat.num_intCast];refine(amf (by omega) (uU v) ?_).trans (kW v)
  rw[Int.natCast_mul];grind
 ·rw[Rat.num_intCast,Int.natAbs_mul,Int.natAbs_natCast];exact Nat.mul_le_mul_left _ (Nat.le_mul_of_pos_left c (Nat.pos_of_ne_zero hd))
def vJ(vs:List Rat):List Int:=vs.map fun v=>(v*qj (jd vs)).num
theorem ae2(l:List Rat):0 < jd l:=abz _
theorem amg{l:List Rat}{v:Rat}(h:v∈l):v.den ∣ jd l:=aeg (List.mem_reverse.2 h)
theorem agJ{l:List Rat}{n:Nat}(h:∀v∈l,v.den ∣ n):jd l ∣ n:=aav fun v hv=>h v (List.mem_reverse.1 hv)
end
section
open Go.RowKit QM SX LA
attribute [local irreducible] IntKind.wrap Go1 Reg WP aQ aR bO bN aN aB aj ah aV Sat
attribute [local irreducible] bS bV bX dx bW qv redS mf
theorem wds_0:(wds 0).length=0:=by
 have:=lZ (n:=0) (k:=0) (by rw[Nat.pow_zero];decide)
 omega
theorem agq{a b:CA}{x y k m:Nat}[ha:NI a x k][hb:NI b y m](hd:y ∣ x)(hy:y≠0)(hk:k+m≤1099511627770):PureOK Tryz.prog 549 [.it (.one (.c a)),.it (.one (.c b))] (.tup [.one (.c (.sat (bB (x / y)))),.one (.c (.val (.bool true)))]):=by
 have cD:=adp (ha:=ha) (hb:=hb) hk;rw[if_neg hy,Nat.mod_eq_zero_of_dvd hd,decide_eq_true hy]at cD;have hw:=wds_0;refine PureOK.fnF Tryz.func549 Tryz.results549 Tryz.ntmps549 rfl rfl rfl (by simp[AV.ids,AV0.ids,Atom.ids]) rfl (fun w0 T B E0 hB=>?_)
 refine SX.goM ?_;exact .ok (aB.mk2 (aj.tmp rfl) (aj.tmp rfl))
theorem an8{a b:CA}{x y k m:Nat}[ha:NI a x k][hb:NI b y m](hx:x≠0)(hy:y≠0)(hbx:x < WB ^ k)(hby:y < WB ^ m)(hk:k+m≤1000000):PureOK Tryz.prog 487 [.it (.one (.c a)),.it (.one (.c b))] (.r (bB (Nat.lcm x y))):=by
 have hg0:Nat.gcd x y≠0:=fun e=>hx (Nat.eq_zero_of_gcd_eq_zero_left e)
 have hgx:Nat.gcd x y≤x:=Nat.le_of_dvd (by omega) (Nat.gcd_dvd_left x y)
 haveI iG:NI (.sat (bB (Nat.gcd x y))) (Nat.gcd x y) k:=NI.aaL (Nat.lt_of_le_of_lt hgx hbx)
 have hqx:x / Nat.gcd x y≤x:=Nat.div_le_self _ _
 haveI iQ:NI (.sat (bB (x / Nat.gcd x y))) (x / Nat.gcd x y) k:=NI.aaL (Nat.lt_of_le_of_lt hqx hbx)
 have cG:=dGcd (ha:=ha) (hb:=hb) (by omega)
 have b1:=aeR (ha:=ha) (by omega)
 have b2:=aeR (ha:=hb) (by omega)
 have h1:bitLen x≠0:=fun e=>hx (nO.1 e)
 have h2:bitLen y≠0:=fun e=>hy (nO.1 e)
 have cE:=agq (ha:=ha) (hb:=iG) (Nat.gcd_dvd_left x y) hg0 (by omega)
 have cM:=mMul (ha:=iQ) (hb:=hb) (by omega)
 have e:x / Nat.gcd x y*y=Nat.lcm x y:=by
  unfold Nat.lcm;rw[Nat.div_mul_right_comm (Nat.gcd_dvd_left x y)]
 rw[e]at cM;generalize bitLen x=p at*;generalize bitLen y=q at*;refine PureOK.fnF Tryz.func487 Tryz.results487 Tryz.ntmps487 rfl rfl rfl (by simp[AV.ids,AV0.ids,Atom.ids]) rfl (fun w0 T B E0 hB=>?_)
 refine SX.goM ?_;exact alW rfl
theorem aqx{v:Rat}{K:Nat}(hv:RB v K)(hd:v.den=1)(hK:K≤100000):PureOK Tryz.prog 180 [.agg (qA v)] (.tup [.agg (zN v.num),.one (.c (.val (.bool true)))]):=by
 haveI b1:Bd v.num K:=⟨hv.n⟩
 haveI b2:Bd (v.den:Int) K:=⟨by rw[Int.natAbs_natCast];exact hv.d⟩
 have h1:ZI [.c (.val (.bool (decide (v.num < 0)))),.c (.sat (bB v.num.natAbs))] v.num K:=inferInstance;have h2:ZI [.c (.val (.bool (decide ((v.den:Int) < 0)))),.c (.sat (bB (v.den:Int).natAbs))] (v.den:Int) K:=inferInstance;have c:=(uq (h:=h1) (h':=h2)).h (by omega)
 have e:rmk v.num (v.den:Int)=(v.num,(v.den:Int)):=(Rd.rmk b1 b2 (kW v) (Nat.le_refl _)).nf;have e2:rY v.num (v.den:Int)=v.num:=by
  unfold rY;rw[e,hd];rfl
 rw[e2,e,decide_eq_true (show (v.num,(v.den:Int)).2=1 by rw[hd];rfl)]at c
 exact c
theorem gJ{α:Type}{l:List α}{k:Nat}{a:α}(h:l[k]? =some a):l.take (k+1)=l.take k++[a]:=by
 rw[List.take_add_one,h];rfl
theorem ace{vs:List Rat}{k:Nat}{v:Rat}(h:vs[k]? =some v):jd (vs.take (k+1))=Nat.lcm (jd (vs.take k)) v.den:=by
 rw[gJ h,aj4]
theorem adf{vs:List Rat}{K:Nat}(h:∀v∈vs,RB v K)(k:Nat):jd (vs.take k) < WB ^ (1+vs.length*K):=by
 have h1:=ail (l:=(vs.take k).reverse) (K:=K) fun v hv=>h v (List.mem_of_mem_take (List.mem_reverse.1 hv))
 refine Nat.lt_of_lt_of_le h1 (Nat.pow_le_pow_right aY ?_);rw[List.length_reverse,List.length_take];have:=Nat.mul_le_mul_right K (Nat.min_le_right k vs.length);omega
theorem akn{r c:Nat}{l:List Q4}{vs:List Rat}{K:Nat}(hM:MV l vs K)(hl:l.length=r*c)(hr:r≤64)(hc:c≤64)(hK1:1≤K)(hB0:1+(r*c+1)*K≤50000):
  PureOK Tryz.prog 404 [.agg (aam r c l)] (.tup [.agg (zh r c (vJ vs)),.agg (zN ((jd vs:Nat):Int)),eNo 0]):=by
 have hvl:vs.length=r*c:=by rw[←hM.len];exact hl
 have hrc:=Nat.mul_le_mul hr hc;have hKn:K≤50000:=by
  have:=Nat.mul_le_mul_right K (show 1≤r*c+1 by omega)
  omega
 have hKm:1+vs.length*K≤50000:=by
  rw[hvl];have:=Nat.mul_le_mul_right K (show r*c≤r*c+1 by omega)
  omega
 have cF:=zW (cells:=l.flatMap q4C) hl hr hc;have cM:=aeJ r c (.sat (cloA 339 [.val (.int .i64 (r:Int)),.val (.int .i64 (c:Int)),.sat (ay 4 q4C l)])) (fun i k=>qat l c i k) (vat vs c) K (by omega) (by omega) (by omega)
  (fun i k hi hk=>FnV.bound (apE (ame hl hi hk) (by omega) (by omega) (by omega))) (fun i k hi hk=>hM.qat hl hi hk) rfl
 rw[aqF hvl,abP]at cM;have hlen:(vs.map q4v).length=r*c:=by rw[List.length_map];exact hvl
 have hRB:=hM.rb hK1;have o1:=akc;have hms:(vJ vs).length=vs.length:=List.length_map _;refine PureOK.fnF Tryz.func404 Tryz.results404 Tryz.ntmps404 rfl rfl rfl (by simp[AV.ids,AV0.ids,Atom.ids]) rfl (fun w0 T B E0 hB=>?_)
 refine SX.goM ?_;refine SX.WP.dh ?_;refine SX.goM ?_;refine W.loop (fun k=>k≤vs.length) (fun k=>[(1,.ptr 1 0),(2,.ptr 2 0),(3,.ptr 3 0),(5,.ptr 5 0),(27,.r (ay 4 q4C (vs.map q4v))),(28,.v (.int .i64 ((vs.map q4v).length:Int))),(29,.v (.int .i64 (k:Int)))]) (fun k=>[(1,.box 30 (aam r c (vs.map q4v))),(2,.box 281 mat0),(3,.box 25 [.c (.val (.bool false)),.c (.val (.slice none 0 0))]),(5,.box 25 (zN ((jd (vs.take k):Nat):Int)))]) (fun k=>vs.length - k) 0 (Nat.zero_le _) (fun k hk=>?_)
  (by
   refine SX.St.aW [] (by intro b h;cases h) ?_ ?_ rfl
   ·repeat(first|exact trivial|refine⟨⟨_,rfl,SX.aC.same rfl⟩,?_⟩)
   ·exact⟨SX.ak.same rfl rfl,SX.ak.same rfl rfl,SX.ak.same rfl rfl,SX.ak.same rfl rfl,trivial⟩)
 by_cases hk2:k < vs.length
 ·obtain⟨v,hx⟩:∃v,vs[k]? =some v:=⟨_,List.getElem?_eq_getElem hk2⟩
  have hq:(vs.map q4v)[k]? =some (q4v v):=by rw[List.getElem?_map,hx];rfl
  have hk3:k < (vs.map q4v).length:=jZ hq;have hvb:=hRB v (List.mem_of_getElem? hx);have hlb:=adf hRB k;have hlb2:=adf hRB (k+1);rw[ace hx]at hlb2
  haveI n1:NI (.sat (bB (jd (vs.take k)))) (jd (vs.take k)) (1+vs.length*K):=NI.aaL hlb
  haveI n2:NI (.sat (bB v.den)) v.den K:=NI.aaL hvb.d
  haveI n3:NI (.sat (bB (Nat.lcm (jd (vs.take k)) v.den))) (Nat.lcm (jd (vs.take k)) v.den) (1+vs.length*K):=NI.aaL hlb2
  have cL:PureOK Tryz.prog 487 [.r (bB ((jd (vs.take k):Nat):Int).natAbs),.r (bB ((v.den:Nat):Int).natAbs)] (.r (bB (Nat.lcm (jd (vs.take k)) v.den))):=an8 (ha:=n1) (hb:=n2) (by have:=ae2 (vs.take k);omega) v.den_nz hlb hvb.d (by omega)
  have cR:PureOK Tryz.prog 62 [.r (bB (Nat.lcm (jd (vs.take k)) v.den)),.v (.bool false)] (.agg (zN ((Nat.lcm (jd (vs.take k)) v.den:Nat):Int))):=(acz (h:=n3) false).h (by omega)
  have e5:Ent.box 25 (zN ((Nat.lcm (jd (vs.take k)) v.den:Nat):Int))=Ent.box 25 (zN ((jd (vs.take (k+1)):Nat):Int)):=by rw[ace hx]
  refine SX.goM ?_;refine W.next (k+1) hk2 (by omega) (by
   refine SX.St.aW [] (by intro b h;cases h) ?_ ?_ rfl
   ·repeat(first|exact trivial|refine⟨⟨_,rfl,SX.aC.same rfl⟩,?_⟩)
   ·exact⟨SX.ak.same rfl rfl,SX.ak.same rfl rfl,SX.ak.same rfl rfl,SX.ak.eq rfl e5 rfl,trivial⟩)
 ·obtain rfl:k=vs.length:=by omega
  have hk3:¬vs.length < (vs.map q4v).length:=by rw[List.length_map];omega
  rw[List.take_length];have hD:=adf hRB vs.length;rw[List.take_length]at hD;have hDq:=ZQ.made (z:=((jd vs:Nat):Int)) (K:=1+vs.length*K) hD;have cO:=(zG (h:=hDq.zi)).h (by omega)
  have rO:Ra (uJ (((jd vs:Nat):Int),1)) (qj ((jd vs:Nat):Int)) (1+vs.length*K):=Ra.mono (hDq.ra zq1) (by omega)
  refine SX.goM ?_;refine W.loop (fun k=>k≤vs.length) (fun k=>[(1,.ptr 1 0),(2,.ptr 2 0),(3,.ptr 3 0),(5,.ptr 5 0),(8,.ptr 8 0),(47,.r (ay 4 q4C (vs.map q4v))),(48,.v (.int .i64 ((vs.map q4v).length:Int))),(49,.v (.int .i64 (k:Int)))]) (fun k=>[(1,.box 30 (aam r c (vs.map q4v))),(2,.box 281 mat0),(3,.box 25 [.c (.val (.bool false)),.c (.val (.slice none 0 0))]),(5,.box 25 (zN ((jd vs:Nat):Int))),(8,.box 281 [.c (.val (.int .i64 (r:Int))),.c (.val (.int .i64 (c:Int))),.own 100]),(100,.row 25 2 k (((vJ vs).take k).flatMap zC))]) (fun k=>vs.length - k) 0 (Nat.zero_le _) (fun k hk=>?_)
   (by
    refine SX.St.aW [(100,none)] (by intro b h;cases h) ?_ ?_ rfl
    ·repeat(first|exact trivial|refine⟨⟨_,rfl,SX.aC.same rfl⟩,?_⟩)
    ·exact⟨SX.ak.same rfl rfl,SX.ak.same rfl rfl,SX.ak.same rfl rfl,SX.ak.same rfl rfl,SX.ak.oK rfl rfl ⟨aO.same rfl,aO.same rfl,aO.nil rfl,trivial⟩,SX.ak.bU rfl,trivial⟩)
  by_cases hk4:k < vs.length
  ·obtain⟨v,hx⟩:∃v,vs[k]? =some v:=⟨_,List.getElem?_eq_getElem hk4⟩
   have hq:(vs.map q4v)[k]? =some (q4v v):=by rw[List.getElem?_map,hx];rfl
   have hk5:k < (vs.map q4v).length:=jZ hq;have hvb:=hRB v (List.mem_of_getElem? hx);have rv:=hvb.ra;have hw:=ak0 (amg (List.mem_of_getElem? hx)) (ae2 vs);have cMu:PureOK Tryz.prog 358 [.agg (q4A (q4v v)),.agg (uJ (((jd vs:Nat):Int),1))] (.agg (qA (v*qj ((jd vs:Nat):Int)))):=(anN (a:=rv) (b:=rO)).h (by omega)
   have hPB:RB (v*qj ((jd vs:Nat):Int)) (K+(1+vs.length*K)):=hvb.mul (Ra.rb rO (by omega))
   have cW:=aqx hPB hw.1 (by omega)
   have hm:(vJ vs)[k]? =some (v*qj ((jd vs:Nat):Int)).num:=by unfold vJ;rw[List.getElem?_map,hx];rfl
   have e6:((vJ vs).take k).flatMap zC++zC (v*qj ((jd vs:Nat):Int)).num=((vJ vs).take (k+1)).flatMap zC:=by rw[gJ hm,List.flatMap_append];simp
   generalize (v*qj ((jd vs:Nat):Int)).num=z at*;refine SX.goM ?_;refine W.next (k+1) hk4 (by omega) (by
    refine SX.St.aW [(100,some 65)] (by intro b h;cases h) ?_ ?_ rfl
    ·repeat(first|exact trivial|refine⟨⟨_,rfl,SX.aC.same rfl⟩,?_⟩)
    ·exact⟨SX.ak.same rfl rfl,SX.ak.same rfl rfl,SX.ak.same rfl rfl,SX.ak.same rfl rfl,SX.ak.oK rfl rfl ⟨aO.same rfl,aO.same rfl,aO.own rfl,trivial⟩,SX.ak.row rfl rfl rfl e6,trivial⟩)
  ·obtain rfl:k=vs.length:=by omega
   have hk6:¬vs.length < (vs.map q4v).length:=by rw[List.length_map];omega
   have e7:(vJ vs).take vs.length=vJ vs:=by rw[←hms,List.take_length]
   rw[e7];refine SX.goM ?_;have hm:zh r c (vJ vs)=[.c (.val (.int .i64 (r:Int))),.c (.val (.int .i64 (c:Int))),.c (.sat (aI 2 vs.length ((vJ vs).flatMap zC)))]:=by
    show [_,_,Atom.c (.sat (aI 2 (vJ vs).length _))]=_;rw[hms]
   rw[hm];refine aN.frz 100 ?_;exact .ok (aB.mk3 (aj.aT rfl rfl rfl) (aj.gD rfl rfl rfl) (aj.tmp rfl))
end
section
open Go.RowKit QM SX LA
def wdC(w:Nat):List CA:=[.val (.int .u64 (w:Int))]
instance:dU wdC 1:=⟨fun _=>rfl⟩
structure Vl where
 k:Int
 q:gy
 r:Int
 c:Int
 a:List gy
 po:List lY
 p:Nat
 fr:Int
 fc:Int
 fa:List Nat
 ri:List Nat
 li:List Vl
mutual
def vlC:Vl→List CA
 |⟨k,q,r,c,a,po,p,fr,fc,fa,ri,li⟩=>[.val (.int .i64 k),.val (.bool q.1),.sat (dJ q.2.1),.val (.bool q.2.2.1),.sat (dJ q.2.2.2),.val (.int .i64 r),.val (.int .i64 c),.sat (ay 4 q4C (a.map rq)),.sat (ay 2 z2C (po.map rz)),.val (.int .u64 (p:Int)),.val (.int .i64 fr),.val (.int .i64 fc),.sat (ay 1 wdC fa),.sat (ay 1 wdC ri),.sat (aI 15 li.length (vlL li))]
def vlL:List Vl→List CA
 |[]=>[]
 |k::ks=>vlC k++vlL ks
end
theorem amG:∀ks:List Vl,vlL ks=ks.flatMap vlC
 |[]=>by rw[vlL];rfl
 |k::ks=>by rw[vlL,amG ks,List.flatMap_cons]
def vlE(v:Vl):List CA:=[.val (.int .i64 v.k),.val (.bool v.q.1),.sat (dJ v.q.2.1),.val (.bool v.q.2.2.1),.sat (dJ v.q.2.2.2),.val (.int .i64 v.r),.val (.int .i64 v.c),.sat (ay 4 q4C (v.a.map rq)),.sat (ay 2 z2C (v.po.map rz)),.val (.int .u64 (v.p:Int)),.val (.int .i64 v.fr),.val (.int .i64 v.fc),.sat (ay 1 wdC v.fa),.sat (ay 1 wdC v.ri),.sat (ay 15 vlC v.li)]
theorem acX(v:Vl):vlC v=vlE v:=by
 cases v;rw[vlC,amG];rfl
instance:dU vlC 15:=⟨fun v=>by rw[acX];rfl⟩
instance:dU vlE 15:=⟨fun v=>rfl⟩
theorem uV(l:List Vl):ay 15 vlC l=ay 15 vlE l:=by rw[show vlC=vlE from funext acX]
abbrev vlA(v:Vl):List Atom:=[.c (.val (.int .i64 v.k)),.c (.val (.bool v.q.1)),.c (.sat (dJ v.q.2.1)),.c (.val (.bool v.q.2.2.1)),.c (.sat (dJ v.q.2.2.2)),.c (.val (.int .i64 v.r)),.c (.val (.int .i64 v.c)),.c (.sat (ay 4 q4C (v.a.map rq))),.c (.sat (ay 2 z2C (v.po.map rz))),.c (.val (.int .u64 (v.p:Int))),.c (.val (.int .i64 v.fr)),.c (.val (.int .i64 v.fc)),.c (.sat (ay 1 wdC v.fa)),.c (.sat (ay 1 wdC v.ri)),.c (.sat (ay 15 vlC v.li))]
def cq(v:Rat):gy:=(decide (v.num < 0),wds v.num.natAbs,decide ((v.den:Int) < 0),wds (v.den:Int).natAbs)
def cz(z:Int):lY:=(decide (z < 0),wds z.natAbs)
abbrev rq0:gy:=(false,[],false,[])
abbrev v0:Vl:=⟨0,rq0,0,0,[],[],0,0,0,[],[],[]⟩
abbrev eF(v:Rat):Vl:=⟨1,cq v,0,0,[],[],0,0,0,[],[],[]⟩
abbrev gP(r c:Nat)(vs:List Rat):Vl:=⟨2,rq0,r,c,vs.map cq,[],0,0,0,[],[],[]⟩
abbrev iW(zs:List Int):Vl:=⟨3,rq0,0,0,[],zs.map cz,0,0,0,[],[],[]⟩
abbrev lI(p r c:Nat)(l:List Nat):Vl:=⟨4,rq0,0,0,[],[],p,r,c,l,[],[]⟩
abbrev lN(p:Nat)(l:List Nat):Vl:=⟨5,rq0,0,0,[],[],p,0,0,[],l,[]⟩
abbrev kG(l:List Vl):Vl:=⟨6,rq0,0,0,[],[],0,0,0,[],[],l⟩
def aD(x y:Atom):Prop:=∀E S w v,x.has E S w v→y.has E S w v
theorem aD.refl(x:Atom):aD x x:=fun _ _ _ _ h=>h
theorem alE{E:Env}{S:Nat→Prop}{w:World}:∀{l l':List Atom},aJ aD l l'→∀us,aJ (Atom.has E S w) l us→aJ (Atom.has E S w) l' us
 |[],[],_,_,h2=>h2
 |x::l,y::l',h,u::us,h2=>⟨h.1 _ _ _ _ h2.1,alE h.2 us h2.2⟩
theorem lX{l l':List Atom}(h:aJ aD l l'):AV0.imp (.agg l) (.agg l'):=fun E S w v ⟨us,hu,h2⟩=>⟨us,hu,alE h us h2⟩
theorem akC{size n:Nat}{cells cells':List CA}{S:Nat→Prop}{w:World}(hl:cells.length=cells'.length)(h:∀(i:Nat) (c c':CA),cells[i]? =some c→cells'[i]? =some c'→∀u,c.has S w u→c'.has S w u){v:Value}(hv:(aI size n cells).has S w v):(aI size n cells').has S w v:=by
 obtain⟨oa,cap,h1,h2,h3,h4,h5,h6⟩:=bF.1 hv;refine bF.2 ⟨oa,cap,h1,h2,h3,h4,by omega,fun i c' hc'=>?_⟩
 have hi:=jZ hc';obtain⟨b,o,u,e1,e2,e3,e4⟩:=h6 i cells[i] (List.getElem?_eq_getElem (by omega))
 exact⟨b,o,u,e1,e2,e3,h i _ _ (List.getElem?_eq_getElem (by omega)) hc' u e4⟩
theorem aD.slice{size n:Nat}{cells cells':List CA}(hl:cells.length=cells'.length)(h:∀(i:Nat) (c c':CA),cells[i]? =some c→cells'[i]? =some c'→∀S w u,c.has S w u→c'.has S w u):aD (.c (.sat (aI size n cells))) (.c (.sat (aI size n cells'))):=fun E S w v hv=>akC hl (fun i c c' h1 h2=>h i c c' h1 h2 S w) hv
def aa9(x y:CA):Prop:=∀S w u,x.has S w u→y.has S w u
theorem aa9.refl(x:CA):aa9 x x:=fun _ _ _ h=>h
theorem aJ.len{α β:Type}{R:α→β→Prop}:∀{l:List α} {l':List β},aJ R l l'→l.length=l'.length
 |[],[],_=>rfl
 |_::_,_::_,h=>by rw[List.length_cons,List.length_cons,aJ.len h.2]
theorem aJ.at{α β:Type}{R:α→β→Prop}:∀{l:List α} {l':List β},aJ R l l'→∀(i:Nat) (a:α) (b:β),l[i]? =some a→l'[i]? =some b→R a b
 |_::_,_::_,h,0,a,b,ha,hb=>by cases ha;cases hb;exact h.1
 |_::_,_::_,h,i+1,a,b,ha,hb=>aJ.at h.2 i a b ha hb
theorem aJ.app{α β:Type}{R:α→β→Prop}:∀{l:List α} {l':List β} {m:List α} {m':List β},aJ R l l'→aJ R m m'→aJ R (l++m) (l'++m')
 |[],[],_,_,_,h=>h
 |_::_,_::_,_,_,h,h2=>⟨h.1,aJ.app h.2 h2⟩
theorem aJ.flat{α β γ:Type}{R:CA→CA→Prop}{enc:α→List CA}{enc':β→List CA}{f:γ→α}{g:γ→β}:∀(l:List γ),(∀x∈l,aJ R (enc (f x)) (enc' (g x)))→aJ R ((l.map f).flatMap enc) ((l.map g).flatMap enc')
 |[],_=>trivial
 |x::l,h=>aJ.app (h x (List.mem_cons_self ..)) (aJ.flat l fun y hy=>h y (List.mem_cons_of_mem _ hy))
theorem aD.row{α β γ:Type}{size:Nat}{enc:α→List CA}{enc':β→List CA}{f:γ→α}{g:γ→β}(l:List γ)(h:∀x∈l,aJ aa9 (enc (f x)) (enc' (g x))):aD (.c (.sat (ay size enc (l.map f)))) (.c (.sat (ay size enc' (l.map g)))):=by
 have h2:=aJ.flat l h;show aD (.c (.sat (aI size (l.map f).length ((l.map f).flatMap enc)))) (.c (.sat (aI size (l.map g).length ((l.map g).flatMap enc'))));rw[List.length_map,List.length_map];exact aD.slice (aJ.len h2) (fun i c c' h3 h4=>aJ.at h2 i c c' h3 h4)
theorem zw(n:Nat):aa9 (.sat (bB n)) (.sat (dJ (wds n))):=fun S w v h=>by
 obtain⟨l,h1,h2,_,h4⟩:=afX.1 h;have:=uX (mY.1 h4).1 h1;rw[h2]at this;rw[←this];exact h4
theorem aD.nrm(n:Nat):aD (.c (.sat (bB n))) (.c (.sat (dJ (wds n)))):=fun E S w v h=>zw n S w v h
theorem aD.nil{α:Type}{size:Nat}{enc:α→List CA}:aD (.c (.val (.slice none 0 0))) (.c (.sat (ay size enc []))):=fun E S w v h=>by
 rw[show v= .slice none 0 0 from h];exact ai6
theorem aD.tN:aD (.c (.val (.slice none 0 0))) (.c (.sat (dJ []))):=fun E S w v h=>by
 rw[show v= .slice none 0 0 from h]
 exact mY.2 ⟨Sm.nil,(ai6 (α:=Nat) (enc:=wdC) (size:=1):(ay 1 wdC []).has S w _)⟩
theorem aD.rats(vs:List Rat):aD (.c (.sat (ay 4 q4C (vs.map q4v)))) (.c (.sat (ay 4 q4C ((vs.map cq).map rq)))):=by
 rw[List.map_map];exact aD.row vs fun x _=>⟨aa9.refl _,zw _,aa9.refl _,zw _,trivial⟩
theorem aD.ints(zs:List Int):aD (.c (.sat (ay 2 z2C (zs.map z2v)))) (.c (.sat (ay 2 z2C ((zs.map cz).map rz)))):=by
 rw[List.map_map];exact aD.row zs fun x _=>⟨aa9.refl _,zw _,trivial⟩
theorem iM(v:Rat):rqv (cq v)=v:=by
 show qv (sgn (decide (v.num < 0)) (nval WB (wds v.num.natAbs))) (sgn (decide ((v.den:Int) < 0)) (nval WB (wds (v.den:Int).natAbs)))=v;rw[pR,pR,afP,afP];exact kW v
theorem mX(z:Int):rzv (cz z)=z:=by
 show sgn (decide (z < 0)) (nval WB (wds z.natAbs))=z;rw[pR,afP]
theorem ahI(v:Rat):Sm WB (cq v).2.1∧Sm WB (cq v).2.2.2:=⟨adh _,adh _⟩
theorem aiM(z:Int):Sm WB (cz z).2:=adh _
theorem RSm.cq(vs:List Rat):RSm (vs.map cq):=fun x hx=>by obtain⟨v,_,rfl⟩:=List.mem_map.1 hx;exact ahI v
theorem aoa.cq{vs:List Rat}{K:Nat}(h:∀v∈vs,RB v K):aoa (vs.map cq) K:=fun x hx=>by
 obtain⟨v,hv,rfl⟩:=List.mem_map.1 hx;exact⟨lZ (h v hv).n,lZ (by rw[Int.natAbs_natCast];exact(h v hv).d)⟩
theorem apu(vs:List Rat):(vs.map cq).map rqv=vs:=by
 rw[List.map_map,show rqv ∘ cq=id from funext iM,List.map_id]
theorem apg(zs:List Int):(zs.map cz).map rzv=zs:=by
 rw[List.map_map,show rzv ∘ cz=id from funext mX,List.map_id]
theorem MV.cq{vs:List Rat}{K:Nat}(h:∀v∈vs,RB v K):MV ((vs.map cq).map rq) vs K:=by
 have:=MV.raw (RSm.cq vs) (aoa.cq h)
 rwa [apu]at this
theorem Ra.cq{v:Rat}{K:Nat}(h:RB v K):Ra (q4A (rq (cq v))) v K:=by
 have:=(MV.cq (vs:=[v]) (K:=K) fun u hu=>by rw[List.mem_singleton.1 hu];exact h).ra 0 _ _ rfl rfl
 exact this
end
section
open Go.RowKit QM SX LA
attribute [local irreducible] IntKind.wrap Go1 Reg WP aQ aR bO bN aN aB aj ah aV Sat
attribute [local irreducible] bS bV bX dx bW qv redS mf
section
section
variable{P:Program}{C:Ctx}{st:St}
theorem uj{r:ResultVar}{x y:AV0}(h:aj P st r x)(e:x.imp y):aN C P [r] ⟨.it y,[]⟩ st:= .ok (aB.mk1 (h.imp e))
end
theorem ait{v:Rat}:AV0.imp (.agg [.c (.val (.int .i64 1)),.c (.val (.bool (decide (v.num < 0)))),.c (.sat (bB v.num.natAbs)),.c (.val (.bool (decide ((v.den:Int) < 0)))),.c (.sat (bB (v.den:Int).natAbs)),.c (.val (.int .i64 0)),.c (.val (.int .i64 0)),.c (.val (.slice none 0 0)),.c (.val (.slice none 0 0)),.c (.val (.int .u64 0)),.c (.val (.int .i64 0)),.c (.val (.int .i64 0)),.c (.val (.slice none 0 0)),.c (.val (.slice none 0 0)),.c (.val (.slice none 0 0))]) (.agg (vlA (eF v))):=
 lX ⟨aD.refl _,aD.refl _,aD.nrm _,aD.refl _,aD.nrm _,aD.refl _,aD.refl _,aD.nil,aD.nil,aD.refl _,aD.refl _,aD.refl _,aD.nil,aD.nil,aD.nil,trivial⟩
theorem ahm{q:Q4}{v:Rat}{K:Nat}(h:Ra (q4A q) v K)(hK:K≤100000):PureOK Tryz.prog 211 [.agg (q4A q)] (.agg (vlA (eF v))):=by
 have cO:PureOK Tryz.prog 187 [.agg [.c (.val (.bool false)),.c (.val (.slice none 0 0))]] (.agg (qA 0)):=zG.h (by decide)
 haveI:Ra (qA 0) 0 1:=(RB.zero (Nat.le_refl 1)).ra
 obtain⟨X,cA,hX⟩:=eAdd (q4A q) (qA 0) (K:=K) (K':=1) (by omega)
 rw[Rat.add_zero]at hX;have e:=hX.nf;subst e;refine PureOK.fnF Tryz.func211 Tryz.results211 Tryz.ntmps211 rfl rfl rfl (by simp[AV.ids,AV0.ids,Atom.ids]) rfl (fun w0 T B E0 hB=>?_)
 refine SX.goN ?_;refine uj (aj.fD rfl rfl rfl) ?_;exact ait
theorem RB.ofI{z:Int}{K:Nat}(h:z.natAbs < WB ^ K)(h1:1≤K):RB (z:Rat) K:=RB.of (p:=z) (q:=1) (by decide) (by unfold qv;grind) h (by
 rw[show (1:Int).natAbs=1 from rfl]
 exact(Bd.mono Bd.one.h h1:(1:Int).natAbs < WB ^ K))
theorem xG{q:Z2}{z:Int}{K:Nat}(h:ZQ q z K)(h1:1≤K)(hK:K≤100000):PureOK Tryz.prog 174 [.agg (z2A q)] (.agg (vlA (eF (z:Rat)))):=by
 haveI:=h.zi
 have cO:PureOK Tryz.prog 187 [.agg (z2A q)] (.agg (qA (z:Rat))):=zG.h (by omega)
 have hR:RB (z:Rat) K:=RB.ofI h.b h1;have cN:PureOK Tryz.prog 211 [.agg (qA (z:Rat))] (.agg (vlA (eF (z:Rat)))):=ahm (q:=q4v z) hR.ra hK;refine PureOK.fnF Tryz.func174 Tryz.results174 Tryz.ntmps174 rfl rfl rfl (by simp[AV.ids,AV0.ids,Atom.ids]) rfl (fun w0 T B E0 hB=>?_)
 refine SX.goN ?_;refine uj (aj.fD rfl rfl rfl) ?_;exact AV0.imp.refl _
theorem afG{P:Program}{f:FuncId}{l l':List Atom}{r:AV}(h:PureOK P f [.agg l'] r)(hi:aJ aD l l'):PureOK P f [.agg l] r:=
 h.args fun E S w vs hv=>by
  match vs,hv with
  |[u],⟨h1,_⟩=>exact⟨lX hi E S w u h1,trivial⟩
theorem ahD:PureOK Tryz.prog 174 [.agg [.c (.val (.bool false)),.c (.val (.slice none 0 0))]] (.agg (vlA (eF 0))):=
 afG (xG (q:=(false,dJ [])) (z:=0) (K:=1) (ZQ.raw (b:=false) (l:=[]) Sm.nil (by decide)) (by decide) (by decide)) ⟨aD.refl _,aD.tN,trivial⟩
theorem ajA(b:Bool):PureOK Tryz.prog 251 [.v (.bool b)] (.agg (vlA (eF (if b then 1 else 0)))):=by
 have c0:PureOK Tryz.prog 174 [.agg [.c (.val (.bool false)),.c (.val (.slice none 0 0))]] (.agg (vlA (eF 0))):=ahD;have c1:PureOK Tryz.prog 174 [.agg (zN 1)] (.agg (vlA (eF 1))):=xG (K:=1) (z:=1) (ZQ.made (by rw[aX];decide)) (by decide) (by decide)
 have o1:=akc;cases b
 ·refine PureOK.fnF Tryz.func251 Tryz.results251 Tryz.ntmps251 rfl rfl rfl (by simp[AV.ids,AV0.ids,Atom.ids]) rfl (fun w0 T B E0 hB=>?_)
  refine SX.goN ?_;refine uj (aj.fD rfl rfl rfl) ?_;exact AV0.imp.refl _
 ·refine PureOK.fnF Tryz.func251 Tryz.results251 Tryz.ntmps251 rfl rfl rfl (by simp[AV.ids,AV0.ids,Atom.ids]) rfl (fun w0 T B E0 hB=>?_)
  refine SX.goN ?_;refine uj (aj.fD rfl rfl rfl) ?_;exact AV0.imp.refl _
theorem aD.rats2(vs:List Rat):aD (.c (.sat (aI 4 vs.length (vs.flatMap qC)))) (.c (.sat (ay 4 q4C ((vs.map cq).map rq)))):=by
 have h:=aD.rats vs;rw[show ay 4 q4C (vs.map q4v)=aI 4 vs.length (vs.flatMap qC)by
  show aI 4 (vs.map q4v).length ((vs.map q4v).flatMap q4C)=_;rw[List.length_map,List.flatMap_map]]at h
 exact h
theorem abr{r c:Nat}{l:List Q4}{vs:List Rat}{K:Nat}(hM:MV l vs K)(hl:l.length=r*c)(hr:r≤64)(hc:c≤64)(hK:K≤100000):PureOK Tryz.prog 236 [.agg (aam r c l)] (.agg (vlA (gP r c vs))):=by
 have hb:=Nat.mul_le_mul hr hc;have cF:=zW (cells:=l.flatMap q4C) hl hr hc;have cO:PureOK Tryz.prog 187 [.agg [.c (.val (.bool false)),.c (.val (.slice none 0 0))]] (.agg (qA 0)):=zG.h (by decide)
 haveI:Ra (qA 0) 0 1:=(RB.zero (Nat.le_refl 1)).ra
 refine PureOK.fnF Tryz.func236 Tryz.results236 Tryz.ntmps236 rfl rfl rfl (by simp[AV.ids,AV0.ids,Atom.ids]) rfl (fun w0 T B E0 hB=>?_)
 refine SX.goN ?_;refine W.loop (fun k=>k≤l.length) (fun k=>[(2,.ptr 2 0),(3,.ptr 3 0),(16,.r (ay 4 q4C l)),(17,.v (.int .i64 (l.length:Int))),(18,.v (.int .i64 (k:Int)))]) (fun k=>[(2,.box 39 [.c (.val (.int .i64 0)),.c (.val (.bool false)),.c (.val (.slice none 0 0)),.c (.val (.bool false)),.c (.val (.slice none 0 0)),.c (.val (.int .i64 0)),.c (.val (.int .i64 0)),.c (.val (.slice none 0 0)),.c (.val (.slice none 0 0)),.c (.val (.int .u64 0)),.c (.val (.int .i64 0)),.c (.val (.int .i64 0)),.c (.val (.slice none 0 0)),.c (.val (.slice none 0 0)),.c (.val (.slice none 0 0))]),(3,.box 30 [.c (.val (.int .i64 (r:Int))),.c (.val (.int .i64 (c:Int))),.own 100]),(100,.row 27 4 k ((vs.take k).flatMap qC))]) (fun k=>l.length - k) 0 (Nat.zero_le _) (fun k hk=>?_)
  (by
   refine SX.St.aW [(100,none)] (by intro b h;cases h) ?_ ?_ rfl
   ·repeat(first|exact trivial|refine⟨⟨_,rfl,SX.aC.same rfl⟩,?_⟩)
   ·exact⟨SX.ak.same rfl rfl,SX.ak.oK rfl rfl ⟨aO.same rfl,aO.same rfl,aO.nil rfl,trivial⟩,SX.ak.bU rfl,trivial⟩)
 by_cases h:k < l.length
 ·obtain⟨q,hq⟩:∃q,l[k]? =some q:=⟨_,List.getElem?_eq_getElem h⟩
  obtain⟨v,hv⟩:∃v,vs[k]? =some v:=⟨_,List.getElem?_eq_getElem (by rw[←hM.len];exact h)⟩
  haveI:=hM.ra k q v hq hv
  obtain⟨X,cA,hX⟩:=eAdd (q4A q) (qA 0) (K:=K) (K':=1) (by omega)
  rw[Rat.add_zero]at hX;have e:=hX.nf;subst e;have e2:(vs.take k).flatMap qC++qC v=(vs.take (k+1)).flatMap qC:=by rw[List.take_add_one,hv];simp
  refine SX.goN ?_;refine W.next (k+1) h (by omega) (by
   refine SX.St.aW [(100,some 29)] (by intro b h;cases h) ?_ ?_ rfl
   ·repeat(first|exact trivial|refine⟨⟨_,rfl,SX.aC.same rfl⟩,?_⟩|refine⟨⟨_,rfl,SX.aC.own rfl⟩,?_⟩)
   ·exact⟨SX.ak.same rfl rfl,SX.ak.oK rfl rfl ⟨aO.same rfl,aO.same rfl,aO.own rfl,trivial⟩,SX.ak.row rfl rfl rfl e2,trivial⟩)
 ·obtain rfl:k=l.length:=by omega
  refine SX.goN ?_;refine aN.frz 100 ?_;refine uj (aj.fD rfl rfl rfl) ?_;rw[hM.len,List.take_length];exact lX ⟨aD.refl _,aD.refl _,aD.tN,aD.refl _,aD.tN,aD.refl _,aD.refl _,aD.rats2 vs,aD.nil,aD.refl _,aD.refl _,aD.refl _,aD.nil,aD.nil,aD.nil,trivial⟩
end
theorem agG(r c:Int){n:Nat}{cells:List CA}:PureOK Tryz.prog 36 [.agg [.c (.val (.int .i64 r)),.c (.val (.int .i64 c)),.c (.sat (aI 4 n cells))]] (.v (.bool (decide (r=0∧c=0∧n=0)))):=by
 refine PureOK.fnF Tryz.func36 Tryz.results36 Tryz.ntmps36 rfl rfl rfl (by simp[AV.ids,AV0.ids,Atom.ids]) rfl (fun w0 T B E0 hB=>?_)
 by_cases h1:r=0
 ·by_cases h2:c=0
  ·refine SX.goN ?_;refine aG ?_;rw[decide_eq_decide];constructor
   ·intro h;exact⟨h1,h2,by omega⟩
   ·intro h;omega
  ·refine SX.goN ?_;refine aG ?_;exact(decide_eq_false fun h=>h2 h.2.1).symm
 ·refine SX.goN ?_;refine aG ?_;exact(decide_eq_false fun h=>h1 h.1).symm
theorem aho(r c:Int){n:Nat}{cells:List CA}:PureOK Tryz.prog 37 [.agg [.c (.val (.int .i64 r)),.c (.val (.int .i64 c)),.c (.sat (aI 1 n cells))]] (.v (.bool (decide (r=0∧c=0∧n=0)))):=by
 refine PureOK.fnF Tryz.func37 Tryz.results37 Tryz.ntmps37 rfl rfl rfl (by simp[AV.ids,AV0.ids,Atom.ids]) rfl (fun w0 T B E0 hB=>?_)
 by_cases h1:r=0
 ·by_cases h2:c=0
  ·refine SX.goN ?_;refine aG ?_;rw[decide_eq_decide];constructor
   ·intro h;exact⟨h1,h2,by omega⟩
   ·intro h;omega
  ·refine SX.goN ?_;refine aG ?_;exact(decide_eq_false fun h=>h2 h.2.1).symm
 ·refine SX.goN ?_;refine aG ?_;exact(decide_eq_false fun h=>h1 h.1).symm
theorem adt(q:gy):q=rq0↔q.2.1.length=0∧q.2.2.2.length=0∧q.1=false∧q.2.2.1=false:=by
 constructor
 ·rintro rfl;exact⟨rfl,rfl,rfl,rfl⟩
 ·obtain⟨b,l,b',l'⟩:=q;rintro⟨h1,h2,h3,h4⟩
  dsimp only at h1 h2 h3 h4
  rw[List.eq_nil_of_length_eq_zero h1,List.eq_nil_of_length_eq_zero h2,h3,h4]
theorem ama(q:gy):PureOK Tryz.prog 35 [.agg (q4A (rq q))] (.v (.bool (decide (q=rq0)))):=by
 have hq:=adt q;rw[show decide (q=rq0)=decide (q.2.1.length=0∧q.2.2.2.length=0∧q.1=false∧q.2.2.1=false)from decide_eq_decide.2 hq]
 refine PureOK.fnF Tryz.func35 Tryz.results35 Tryz.ntmps35 rfl rfl rfl (by simp[AV.ids,AV0.ids,Atom.ids]) rfl (fun w0 T B E0 hB=>?_)
 by_cases h1:q.2.1.length=0
 ·by_cases h2:q.2.2.2.length=0
  ·cases h3:q.1
   ·cases h4:q.2.2.1
    ·refine SX.goN ?_;refine aG ?_;rw[h4];exact(decide_eq_true ⟨h1,h2,rfl,rfl⟩).symm
    ·refine SX.goN ?_;refine aG ?_;rw[h4];exact(decide_eq_false fun h=>by cases h.2.2.2).symm
   ·refine SX.goN ?_;refine aG ?_;exact(decide_eq_false fun h=>by cases h.2.2.1).symm
  ·refine SX.goN ?_;refine aG ?_;exact(decide_eq_false fun h=>h2 h.2.1).symm
 ·refine SX.goN ?_;refine aG ?_;exact(decide_eq_false fun h=>h1 h.1).symm
def pt(p:Prop)[Decidable p]:Nat:=if p then 1 else 0
theorem ag2{p:Prop}[Decidable p](h:p):pt p=1:=if_pos h
theorem u6{p:Prop}[Decidable p](h:¬p):pt p=0:=if_neg h
theorem aar(p:Prop)[Decidable p]:pt p≤1:=by unfold pt;split <;> omega
def vP(v:Vl):Nat:=pt (v.k≠1∧v.q≠rq0)+pt (v.k≠2∧¬(v.r=0∧v.c=0∧v.a.length=0))+pt (v.k≠3∧v.po.length≠0)+pt (v.k≠4∧¬(v.fr=0∧v.fc=0∧v.fa.length=0))+pt (v.k≠5∧v.ri.length≠0)+pt ((v.k≠4∧v.k≠5)∧v.p≠0)+pt (v.k≠6∧v.li.length≠0)
theorem jA(v:Vl):PureOK Tryz.prog 18 [.agg (vlA v)] (.v (.int .i64 (vP v:Int))):=by
 have c1:=ama v.q;have c2:=agG v.r v.c (n:=(v.a.map rq).length) (cells:=(v.a.map rq).flatMap q4C);have c4:=aho v.fr v.fc (n:=v.fa.length) (cells:=v.fa.flatMap wdC);have l1:(v.a.map rq).length=v.a.length:=List.length_map _;have l2:(v.po.map rz).length=v.po.length:=List.length_map _;generalize hv:vP v=N;unfold vP at hv;have b1:=aar (v.k≠1∧v.q≠rq0);have b2:=aar (v.k≠2∧¬(v.r=0∧v.c=0∧v.a.length=0));have b3:=aar (v.k≠3∧v.po.length≠0);have b4:=aar (v.k≠4∧¬(v.fr=0∧v.fc=0∧v.fa.length=0));have b5:=aar (v.k≠5∧v.ri.length≠0);have b6:=aar ((v.k≠4∧v.k≠5)∧v.p≠0);have b7:=aar (v.k≠6∧v.li.length≠0);generalize e1:pt (v.k≠1∧v.q≠rq0)=n1 at hv b1;generalize e2:pt (v.k≠2∧¬(v.r=0∧v.c=0∧v.a.length=0))=n2 at hv b2;generalize e3:pt (v.k≠3∧v.po.length≠0)=n3 at hv b3;generalize e4:pt (v.k≠4∧¬(v.fr=0∧v.fc=0∧v.fa.length=0))=n4 at hv b4;generalize e5:pt (v.k≠5∧v.ri.length≠0)=n5 at hv b5;generalize e6:pt ((v.k≠4∧v.k≠5)∧v.p≠0)=n6 at hv b6;generalize e7:pt (v.k≠6∧v.li.length≠0)=n7 at hv b7;refine PureOK.fnF Tryz.func18 Tryz.results18 Tryz.ntmps18 rfl rfl rfl (by simp[AV.ids,AV0.ids,Atom.ids]) rfl (fun w0 T B E0 hB=>?_)
 refine W.meet [(1,.ptr 1 0)] [(1,.box 39 (vlA v))] ?_ ?_
 ·refine SX.goN ?_;exact W.le
 refine W.meet [(1,.ptr 1 0),(3,.v (.int .i64 0))] [(1,.box 39 (vlA v))] ?_ ?_
 ·refine SX.goN ?_;exact W.le
 refine W.meet [(1,.ptr 1 0),(3,.v (.int .i64 (n1:Int)))] [(1,.box 39 (vlA v))] ?_ ?_
 ·by_cases h:v.k=1
  ·rw[u6 fun h'=>h'.1 h]at e1;subst e1
   refine SX.goN ?_;exact W.le
  ·by_cases h2:v.q=rq0
   ·rw[u6 fun h'=>h'.2 h2]at e1;subst e1
    rw[decide_eq_true h2]at c1;refine SX.goN ?_;exact W.le
   ·rw[ag2 ⟨h,h2⟩]at e1;subst e1;rw[decide_eq_false h2]at c1;refine SX.goN ?_;exact W.le
 refine W.meet [(1,.ptr 1 0),(3,.v (.int .i64 ((n1+n2:Nat):Int)))] [(1,.box 39 (vlA v))] ?_ ?_
 ·by_cases h:v.k=2
  ·rw[u6 fun h'=>h'.1 h]at e2;subst e2
   refine SX.goN ?_;exact W.le
  ·by_cases h2:v.r=0∧v.c=0∧v.a.length=0
   ·rw[u6 fun h'=>h'.2 h2]at e2;subst e2
    rw[decide_eq_true (show _∧_∧_ from ⟨h2.1,h2.2.1,l1.trans h2.2.2⟩)]at c2
    refine SX.goN ?_;exact W.le
   ·rw[ag2 ⟨h,h2⟩]at e2;subst e2;rw[decide_eq_false fun h3=>h2 ⟨h3.1,h3.2.1,l1.symm.trans h3.2.2⟩]at c2
    refine SX.goN ?_;exact W.le
 refine W.meet [(1,.ptr 1 0),(3,.v (.int .i64 ((n1+n2+n3:Nat):Int)))] [(1,.box 39 (vlA v))] ?_ ?_
 ·by_cases h:v.k=3
  ·rw[u6 fun h'=>h'.1 h]at e3;subst e3
   refine SX.goN ?_;exact W.le
  ·by_cases h2:v.po.length=0
   ·rw[u6 fun h'=>h'.2 h2]at e3;subst e3
    refine SX.goN ?_;exact W.le
   ·rw[ag2 ⟨h,h2⟩]at e3;subst e3;refine SX.goN ?_;exact W.le
 refine W.meet [(1,.ptr 1 0),(3,.v (.int .i64 ((n1+n2+n3+n4:Nat):Int)))] [(1,.box 39 (vlA v))] ?_ ?_
 ·by_cases h:v.k=4
  ·rw[u6 fun h'=>h'.1 h]at e4;subst e4
   refine SX.goN ?_;exact W.le
  ·by_cases h2:v.fr=0∧v.fc=0∧v.fa.length=0
   ·rw[u6 fun h'=>h'.2 h2]at e4;subst e4
    rw[decide_eq_true h2]at c4;refine SX.goN ?_;exact W.le
   ·rw[ag2 ⟨h,h2⟩]at e4;subst e4;rw[decide_eq_false h2]at c4;refine SX.goN ?_;exact W.le
 refine W.meet [(1,.ptr 1 0),(3,.v (.int .i64 ((n1+n2+n3+n4+n5:Nat):Int)))] [(1,.box 39 (vlA v))] ?_ ?_
 ·by_cases h:v.k=5
  ·rw[u6 fun h'=>h'.1 h]at e5;subst e5
   refine SX.goN ?_;exact W.le
  ·by_cases h2:v.ri.length=0
   ·rw[u6 fun h'=>h'.2 h2]at e5;subst e5
    refine SX.goN ?_;exact W.le
   ·rw[ag2 ⟨h,h2⟩]at e5;subst e5;refine SX.goN ?_;exact W.le
 refine W.meet [(1,.ptr 1 0),(3,.v (.int .i64 ((n1+n2+n3+n4+n5+n6:Nat):Int)))] [(1,.box 39 (vlA v))] ?_ ?_
 ·by_cases h:v.k=4
  ·rw[u6 fun h'=>h'.1.1 h]at e6;subst e6
   refine SX.goN ?_;exact W.le
  ·by_cases h1:v.k=5
   ·rw[u6 fun h'=>h'.1.2 h1]at e6;subst e6
    refine SX.goN ?_;exact W.le
   ·by_cases h2:v.p=0
    ·rw[u6 fun h'=>h'.2 h2]at e6;subst e6
     refine SX.goN ?_;exact W.le
    ·rw[ag2 ⟨⟨h,h1⟩,h2⟩]at e6;subst e6;refine SX.goN ?_;exact W.le
 refine W.meet [(1,.ptr 1 0),(3,.v (.int .i64 ((n1+n2+n3+n4+n5+n6+n7:Nat):Int)))] [(1,.box 39 (vlA v))] ?_ ?_
 ·by_cases h:v.k=6
  ·rw[u6 fun h'=>h'.1 h]at e7;subst e7
   refine SX.goN ?_;exact W.le
  ·by_cases h2:v.li.length=0
   ·rw[u6 fun h'=>h'.2 h2]at e7;subst e7
    refine SX.goN ?_;exact W.le
   ·rw[ag2 ⟨h,h2⟩]at e7;subst e7;refine SX.goN ?_;exact W.le
 refine SX.goN ?_;refine gV ?_;rw[←hv]
end
end Go.Proofs.YtmgfiodmdfaclaaGreatDoor