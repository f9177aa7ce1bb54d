import Derived.Test.YtegehclknhmkgaaGreatDoorS7
import Derived.Test.YtegehclknhmkgaaGreatDoorS27
import Derived.Test.YtegehclknhmkgaaGreatDoorS8
import Derived.Test.YtegehclknhmkgaaGreatDoorS6
set_option linter.unusedVariables false
set_option linter.unusedSimpArgs false
open Go.Proofs.Tryz
namespace Go.Proofs.YtegehclknhmkgaaGreatDoor
section
open Go.RowKit QM SX
open Go.ChangeShapes Go.WideShapes Go.ChangeAt Go.Joins
section
variable{H:Type}{enc:TypeId×Value→H}{P:Program}{W:World}{base:Nat}{sp:Nat→Bool}{hd:Bool}
theorem dA.imp{α β:Type}{n:Nat}{t:TypeId}{e:α→List CA}{φ:α→Prop}{e':β→List CA}{ψ:β→Prop}(h:dA enc P W base sp hd n t e φ)(f:α→β)(hf:∀a,φ a→ψ (f a))(he:∀a cs,φ a→aK (CA.has none' W) (e a) cs→aK (CA.has none' W) (e' (f a)) cs):dA enc P W base sp hd n t e' ψ:=
 fun cs x hx=>let⟨a,h1,h2⟩:=h cs x hx;⟨f a,hf a h1,he a cs h1 h2⟩
def u64C(z:Int):List CA:=[.val (.int .u64 z)]
instance:dO u64C 1:=⟨fun _=>rfl⟩
theorem decNat(n:Nat):dA enc prog W base sp hd n 25 (fun l:List Nat=>[.sat (dN l)]) (fun _=>True):=
 dA.all (fun n=>dA.imp (jJ (enc':=u64C) underlying25 (by kernel_rfl) (oM underlying44)) (fun l=>l.map Int.toNat) (fun _ _=>trivial) (fun l cs hl hall=>by
  match cs,hall with
  |[v],⟨h1,_⟩=>
   refine⟨?_,trivial⟩;have hb:∀z∈l,0≤z∧z≤18446744073709551615:=fun z hz=>bounds_u64 (hl.2 z hz)
   refine nR.2 ⟨?_,?_⟩
   ·intro x hx;obtain⟨z,hz,rfl⟩:=List.mem_map.1 hx;have:=hb z hz;rw[bB];omega
   ·have e:(l.map Int.toNat).map (fun x:Nat=>CA.val (.int .u64 (x:Int)))=l.flatMap u64C:=by
     clear h1 hall hl
     induction l with
     |nil=>rfl
     |cons z l ih=>
      have:=hb z (by simp)
      rw[List.map_cons,List.map_cons,List.flatMap_cons,ih (fun y hy=>hb y (by simp[hy]))]
      show _::_=CA.val (.int .u64 z)::_;rw[show ((z.toNat:Nat):Int)=z by omega];rfl
    rw[e,zq5];exact h1)) n
end
end
section
open Go.RowKit QM SX LA
open Go.ChangeShapes Go.WideShapes Go.ChangeAt Go.Joins
section
variable{H:Type}{enc:TypeId×Value→H}{W:World}{base:Nat}{sp:Nat→Bool}{hd:Bool}
theorem sm_of{l:List Nat}:∀{cs:List Value},aK (CA.has none' W) [.sat (dN l)] cs→Sm WB l
 |[v],h=>(nR.1 h.1).1
theorem aqS(n:Nat):dA enc prog W base sp hd n 25 (fun l:List Nat=>[.sat (dN l)]) (fun l=>Sm WB l):=
 fun cs x hx=>let⟨l,_,h2⟩:=decNat n cs x hx;⟨l,sm_of h2,h2⟩
theorem alK(n:Nat):dA enc prog W base sp hd n 27 (fun p:Bool×List Nat=>[.val (.bool p.1),.sat (dN p.2)]) (fun p=>Sm WB p.2):=
 dA.all (fun n=>dA.conv (xL underlying27 rfl (by kernel_rfl) (by kernel_rfl) (amk underlying4) (aqS n)) id (fun _ h=>h.2) (fun _=>rfl)) n
def rqC(p:fV):List CA:=q4C (rq p)
instance:dO rqC 4:=⟨fun _=>rfl⟩
theorem ahU(n:Nat):dA enc prog W base sp hd n 38 rqC (fun p=>Sm WB p.2.1∧Sm WB p.2.2.2):=
 dA.all (fun n=>dA.conv (xL underlying38 rfl (by kernel_rfl) (by kernel_rfl) (alK n) (alK n)) (fun p=>(p.1.1,p.1.2,p.2.1,p.2.2)) (fun _ h=>h) (fun _=>rfl)) n
abbrev RawM:=Int×Int×List fV
theorem atN(l:List fV):aA 4 rqC l=aA 4 q4C (l.map rq):=by
 show aM 4 l.length (l.flatMap rqC)=aM 4 (l.map rq).length ((l.map rq).flatMap q4C);rw[zq5,List.flatMap_map];rfl
theorem an9(n:Nat):dA enc prog W base sp hd n 39 (fun l:List fV=>[.sat (aA 4 rqC l)]) (fun l=>l.length≤maxLen∧∀a∈l,Sm WB a.2.1∧Sm WB a.2.2.2):=
 dA.all (fun n=>jJ underlying39 (by kernel_rfl) (ahU n)) n
theorem atO(n:Nat):dA enc prog W base sp hd n 41 (fun p:RawM=>[.val (.int .i64 p.1),.val (.int .i64 p.2.1),.sat (aA 4 q4C (p.2.2.map rq))]) (fun p=>RSm p.2.2):=
 dA.all (fun n=>dA.conv (yh underlying41 rfl (by kernel_rfl) (by kernel_rfl) (by kernel_rfl) (oM underlying3) (oM underlying3) (an9 n)) id (fun p h=>h.2.2.2) (fun p=>by
  show [CA.val (.int .i64 p.1),CA.val (.int .i64 p.2.1),CA.sat (aA 4 q4C (p.2.2.map rq))]=[CA.val (.int .i64 p.1),CA.val (.int .i64 p.2.1),CA.sat (aA 4 rqC p.2.2)];rw[atN])) n
end
attribute [local irreducible] IntKind.wrap Go1 Reg WP aS aT bR bO aQ aC ak aj aX Sat
attribute [local irreducible] bT bX bY dw bZ qv dR mf
theorem aec.len{r c:Int}{l:List fV}{s:Int}{w:Nat}(h:aec r c l s w):alL l w:=by
 intro x hx;obtain⟨i,hi⟩:=List.mem_iff_getElem?.1 hx;have hil:=kI hi;have:=h.1 i x (by have:=h.2.2.2;omega) hi
 omega
theorem Ra.mono{l:List Atom}{v:Rat}{K L:Nat}(h:Ra l v K)(hK:K≤L):Ra l v L:=by
 obtain⟨x0,x1,x2,x3,p,q,k,m,h1,h2,h3,h4,h5,h6,h7,h8⟩:=h.h;exact⟨x0,x1,x2,x3,p,q,k,m,h1,h2,h3,by omega,by omega,h6,h7,h8⟩
end
section
open Go.RowKit QM SX LA
attribute [local irreducible] IntKind.wrap Go1 Reg WP aS aT bR bO aQ aC ak aj aX Sat
attribute [local irreducible] bT bX bY dw bZ qv dR mf
def q0:Q4:=q4v 0
def qat(l:List Q4)(c i k:Nat):Q4:=l.getD (i*c+k) q0
theorem amr{l:List Q4}{r c i k:Nat}(hl:l.length=r*c)(hi:i < r)(hk:k < c):l[i*c+k]? =some (qat l c i k):=by
 have h:=xC hi hk;unfold qat;rw[zq3,zq2 (by omega)];rfl
theorem MV.qat{r c i k K:Nat}{l:List Q4}{vs:List Rat}(hM:MV l vs K)(hl:l.length=r*c)(hi:i < r)(hk:k < c):Ra (q4A (qat l c i k)) (vat vs c i k) K:=
 hM.ra _ _ _ (amr hl hi hk) (anG (by rw[←hM.len];exact hl) hi hk)
theorem alu{r c r' c':Nat}{l l':List Q4}(hl:l.length=r*c)(hl':l'.length=r'*c')(hr:r≤64)(hc:c≤64)(hr':r'≤64)(hc':c'≤64)(goal:Bool)(hg:goal=true↔r=r'∧c=c'):
  ah prog 107 [.agg (um r c l),.agg (um r' c' l')] (.v (.bool goal)):=by
 have cF:=yL (cells:=l.flatMap q4C) hl hr hc;have cF':=yL (cells:=l'.flatMap q4C) hl' hr' hc';refine ah.fnF func107 results107 ntmps107 rfl rfl rfl (by simp[AV.ids,AV0.ids,Atom.ids]) rfl (fun w0 T B E0 hB=>?_)
 by_cases h1:(r:Int)=(r':Int)
 ·refine SX.goM ?_;refine aJ ?_;rw[Bool.eq_iff_iff,hg,decide_eq_true_iff];omega
 ·refine SX.goM ?_;refine aJ ?_;exact(Bool.eq_false_iff.2 fun ht=>h1 (by have:=(hg.1 ht).1;omega)).symm
theorem aqI{vs:List Rat}{r c:Nat}(hl:vs.length=r*c):kE c (vat vs c) r=vs:=by
 apply List.ext_getElem?
 intro n;rcases Nat.lt_or_ge n (r*c)with h|h
 ·have hc:0 < c:=by
   rcases Nat.eq_zero_or_pos c with h0|h0
   ·subst h0;omega
   ·exact h0
  have h1:n / c < r:=by rw[Nat.div_lt_iff_lt_mul hc];exact h
  have h2:=Nat.mod_lt n hc;have h3:n / c*c+n % c=n:=by rw[Nat.mul_comm];exact Nat.div_add_mod n c
  have a1:=acQ (val:=vat vs c) h2 h1;have a2:=anG hl h1 h2;rw[h3]at a1 a2;rw[a1,a2]
 ·rw[List.getElem?_eq_none (by rw[lN];exact h),List.getElem?_eq_none (by omega)]
end
section
open Go.RowKit QM SX LA
open Go.ChangeShapes Go.WideShapes Go.ChangeAt Go.Joins
abbrev kW:=Bool×List Nat
abbrev rz(x:kW):Z2:=(x.1,dN x.2)
def rzv(x:kW):Int:=sgn x.1 (nval WB x.2)
section
variable{H:Type}{enc:TypeId×Value→H}{W:World}{base:Nat}{sp:Nat→Bool}{hd:Bool}
end
attribute [local irreducible] IntKind.wrap Go1 Reg WP aS aT bR bO aQ aC ak aj aX Sat
attribute [local irreducible] bT bX bY dw bZ qv dR mf
theorem MZ.raw{l:List kW}{K:Nat}(hs:∀a∈l,Sm WB a.2)(hl:∀a∈l,a.2.length≤K):MZ (l.map rz) (l.map rzv) K:=by
 refine⟨by rw[zq5,zq5],fun i q z hq hz=>?_⟩
 rw[List.getElem?_map]at hq hz
 cases hx:l[i]? with
 |none=>rw[hx]at hq;cases hq
 |some x=>
  rw[hx]at hq hz;cases hq;cases hz;exact ZQ.raw (hs x (zq4 hx)) (hl x (zq4 hx))
end
section
open Go.RowKit QM SX LA
def akE:List Rat→Nat
 |[]=>1
 |v::l=>Nat.lcm (akE l) v.den
theorem aaD:∀l,0 < akE l
 |[]=>by decide
 |v::l=>Nat.lcm_pos (aaD l) (Nat.pos_of_ne_zero v.den_nz)
theorem agl:∀{l:List Rat} {v:Rat},v∈l→v.den ∣ akE l
 |w::l,v,h=>by
  rcases List.mem_cons.1 h with rfl|h
  ·exact Nat.dvd_lcm_right _ _
  ·exact Nat.dvd_trans (agl h) (Nat.dvd_lcm_left _ _)
theorem aax:∀{l:List Rat} {n:Nat},(∀v∈l,v.den ∣ n)→akE l ∣ n
 |[],n,_=>Nat.one_dvd n
 |v::l,n,h=>Nat.lcm_dvd (aax fun w hw=>h w (by simp[hw])) (h v (by simp))
theorem ahZ{K:Nat}:∀{l:List Rat},(∀v∈l,RB v K)→akE l < WB ^ (1+l.length*K)
 |[],_=>by
  have:=bB;show 1 < WB ^ (1+0*K);rw[Nat.zero_mul,Nat.add_zero,Nat.pow_one];omega
 |v::l,h=>by
  have h1:=ahZ (l:=l) fun w hw=>h w (by simp[hw])
  have h2:=(h v (by simp)).d
  refine Nat.lt_of_le_of_lt (Nat.le_of_dvd (Nat.mul_pos (aaD l) (Nat.pos_of_ne_zero v.den_nz)) (Nat.lcm_dvd (Nat.dvd_mul_right _ _) (Nat.dvd_mul_left _ _))) ?_;have h3:=gZ h1 h2;rw[List.length_cons,Nat.succ_mul,←Nat.add_assoc];exact h3
def iB(l:List Rat):Nat:=akE l.reverse
theorem ak1{l:List Rat}{v:Rat}:iB (l++[v])=Nat.lcm (iB l) v.den:=by
 unfold iB;rw[List.reverse_append];rfl
def qj(z:Int):Rat:=qv z 1
theorem ai3(z:Int):qj z=(z:Rat):=by unfold qj qv;grind
theorem acg{v:Rat}{D:Nat}(h:v.den ∣ D)(hD:0 < D):(v*qj D).den=1∧qv (v*qj D).num D=v∧(v*qj D).num.natAbs≤v.num.natAbs*D:=by
 obtain⟨c,rfl⟩:=h;have hd:=v.den_nz;have hq:=c0 (pW v);have hc:(c:Rat)≠0:=fun e=>by
  have:c=0:=by exact_mod_cast e
  subst this;simp at hD
 have e:v*qj ((v.den*c:Nat):Int)=((v.num*c:Int):Rat):=by
  rw[ai3,Int.natCast_mul,Rat.intCast_mul,Rat.intCast_mul];have hv:=iW v;unfold qv at hv;generalize ((v.den:Int):Rat)=d at*;generalize ((v.num:Int):Rat)=n at*;rw[←hv];grind
 rw[e];refine⟨Rat.den_intCast _,?_,?_⟩
 ·rw[Rat.num_intCast];refine(alS (by omega) (pW v) ?_).trans (iW v)
  rw[Int.natCast_mul];grind
 ·rw[Rat.num_intCast,Int.natAbs_mul,Int.natAbs_natCast];exact Nat.mul_le_mul_left _ (Nat.le_mul_of_pos_left c (Nat.pos_of_ne_zero hd))
def nP(vs:List Rat):List Int:=vs.map fun v=>(v*qj (iB vs)).num
theorem uH(l:List Rat):0 < iB l:=aaD _
theorem aeW{l:List Rat}{v:Rat}(h:v∈l):v.den ∣ iB l:=agl (List.mem_reverse.2 h)
theorem ahz{l:List Rat}{n:Nat}(h:∀v∈l,v.den ∣ n):iB l ∣ n:=aax fun v hv=>h v (List.mem_reverse.1 hv)
end
section
open Go.RowKit QM SX LA
attribute [local irreducible] IntKind.wrap Go1 Reg WP aS aT bR bO aQ aC ak aj aX Sat
attribute [local irreducible] bT bX bY dw bZ qv dR mf
theorem wds_0:(wds 0).length=0:=by
 have:=lg (n:=0) (k:=0) (by rw[Nat.pow_zero];decide)
 omega
theorem agR{a b:CA}{x y k m:Nat}[ha:NI a x k][hb:NI b y m](hd:y ∣ x)(hy:y≠0)(hk:k+m≤1099511627770):ah prog 544 [.it (.one (.c a)),.it (.one (.c b))] (.tup [.one (.c (.sat (bD (x / y)))),.one (.c (.val (.bool true)))]):=by
 have cD:=adW (ha:=ha) (hb:=hb) hk;rw[if_neg hy,Nat.mod_eq_zero_of_dvd hd,decide_eq_true hy]at cD;have hw:=wds_0;refine ah.fnF func544 results544 ntmps544 rfl rfl rfl (by simp[AV.ids,AV0.ids,Atom.ids]) rfl (fun w0 T B E0 hB=>?_)
 refine SX.goM ?_;exact .ok (aC.mk2 (ak.tmp rfl) (ak.tmp rfl))
theorem an0{a b:CA}{x y k m:Nat}[ha:NI a x k][hb:NI b y m](hx:x≠0)(hy:y≠0)(hbx:x < WB ^ k)(hby:y < WB ^ m)(hk:k+m≤1000000):ah prog 482 [.it (.one (.c a)),.it (.one (.c b))] (.r (bD (Nat.lcm x y))):=by
 have hg0:Nat.gcd x y≠0:=fun e=>hx (Nat.eq_zero_of_gcd_eq_zero_left e)
 have hgx:Nat.gcd x y≤x:=Nat.le_of_dvd (by omega) (Nat.gcd_dvd_left x y)
 haveI iG:NI (.sat (bD (Nat.gcd x y))) (Nat.gcd x y) k:=NI.aaL (Nat.lt_of_le_of_lt hgx hbx)
 have hqx:x / Nat.gcd x y≤x:=Nat.div_le_self _ _
 haveI iQ:NI (.sat (bD (x / Nat.gcd x y))) (x / Nat.gcd x y) k:=NI.aaL (Nat.lt_of_le_of_lt hqx hbx)
 have cG:=dGcd (ha:=ha) (hb:=hb) (by omega)
 have b1:=afe (ha:=ha) (by omega)
 have b2:=afe (ha:=hb) (by omega)
 have h1:bitLen x≠0:=fun e=>hx (mJ.1 e)
 have h2:bitLen y≠0:=fun e=>hy (mJ.1 e)
 have cE:=agR (ha:=ha) (hb:=iG) (Nat.gcd_dvd_left x y) hg0 (by omega)
 have cM:=mMul (ha:=iQ) (hb:=hb) (by omega)
 have e:x / Nat.gcd x y*y=Nat.lcm x y:=by
  unfold Nat.lcm;rw[Nat.div_mul_right_comm (Nat.gcd_dvd_left x y)]
 rw[e]at cM;generalize bitLen x=p at*;generalize bitLen y=q at*;refine ah.fnF func482 results482 ntmps482 rfl rfl rfl (by simp[AV.ids,AV0.ids,Atom.ids]) rfl (fun w0 T B E0 hB=>?_)
 refine SX.goM ?_;exact aoy rfl
theorem aqv{v:Rat}{K:Nat}(hv:RB v K)(hd:v.den=1)(hK:K≤100000):ah prog 193 [.agg (qA v)] (.tup [.agg (zN v.num),.one (.c (.val (.bool true)))]):=by
 haveI b1:Bd v.num K:=⟨hv.n⟩
 haveI b2:Bd (v.den:Int) K:=⟨by rw[Int.natAbs_natCast];exact hv.d⟩
 have h1:ZI [.c (.val (.bool (decide (v.num < 0)))),.c (.sat (bD v.num.natAbs))] v.num K:=inferInstance;have h2:ZI [.c (.val (.bool (decide ((v.den:Int) < 0)))),.c (.sat (bD (v.den:Int).natAbs))] (v.den:Int) K:=inferInstance;have c:=(sN (h:=h1) (h':=h2)).h (by omega)
 have e:rmk v.num (v.den:Int)=(v.num,(v.den:Int)):=(Rd.rmk b1 b2 (iW v) (Nat.le_refl _)).nf;have e2:qJ v.num (v.den:Int)=v.num:=by
  unfold qJ;rw[e,hd];rfl
 rw[e2,e,decide_eq_true (show (v.num,(v.den:Int)).2=1 by rw[hd];rfl)]at c
 exact c
theorem jV{α:Type}{l:List α}{k:Nat}{a:α}(h:l[k]? =some a):l.take (k+1)=l.take k++[a]:=by
 rw[List.take_add_one,h];rfl
theorem acJ{vs:List Rat}{k:Nat}{v:Rat}(h:vs[k]? =some v):iB (vs.take (k+1))=Nat.lcm (iB (vs.take k)) v.den:=by
 rw[jV h,ak1]
theorem uL{vs:List Rat}{K:Nat}(h:∀v∈vs,RB v K)(k:Nat):iB (vs.take k) < WB ^ (1+vs.length*K):=by
 have h1:=ahZ (l:=(vs.take k).reverse) (K:=K) fun v hv=>h v (List.mem_of_mem_take (List.mem_reverse.1 hv))
 refine Nat.lt_of_lt_of_le h1 (Nat.pow_le_pow_right aW ?_);rw[List.length_reverse,List.length_take];have:=Nat.mul_le_mul_right K (Nat.min_le_right k vs.length);omega
theorem acM{r c:Nat}{l:List Q4}{vs:List Rat}{K:Nat}(hM:MV l vs K)(hl:l.length=r*c)(hr:r≤64)(hc:c≤64)(hK1:1≤K)(hB0:1+(r*c+1)*K≤50000):
  ah prog 399 [.agg (um r c l)] (.tup [.agg (wS r c (nP vs)),.agg (zN ((iB vs:Nat):Int)),eNo 0]):=by
 have hvl:vs.length=r*c:=by rw[←hM.len];exact hl
 have hrc:=Nat.mul_le_mul hr hc;have hKn:K≤50000:=by
  have:=Nat.mul_le_mul_right K (show 1≤r*c+1 by omega)
  omega
 have hKm:1+vs.length*K≤50000:=by
  rw[hvl];have:=Nat.mul_le_mul_right K (show r*c≤r*c+1 by omega)
  omega
 have cF:=yL (cells:=l.flatMap q4C) hl hr hc;have cM:=ae1 r c (.sat (cloA 334 [.val (.int .i64 (r:Int)),.val (.int .i64 (c:Int)),.sat (aA 4 q4C l)])) (fun i k=>qat l c i k) (vat vs c) K (by omega) (by omega) (by omega)
  (fun i k hi hk=>FnV.bound (aq9 (amr hl hi hk) (by omega) (by omega) (by omega))) (fun i k hi hk=>hM.qat hl hi hk) rfl
 rw[aqI hvl,acB]at cM;have hlen:(vs.map q4v).length=r*c:=by rw[zq5];exact hvl
 have hRB:=hM.rb hK1;have o1:=akH;have hms:(nP vs).length=vs.length:=zq5 _;refine ah.fnF func399 results399 ntmps399 rfl rfl rfl (by simp[AV.ids,AV0.ids,Atom.ids]) rfl (fun w0 T B E0 hB=>?_)
 refine SX.goM ?_;refine SX.WP.aF ?_;refine SX.goM ?_;refine W.loop (fun k=>k≤vs.length) (fun k=>[(1,.ptr 1 0),(2,.ptr 2 0),(3,.ptr 3 0),(5,.ptr 5 0),(27,.r (aA 4 q4C (vs.map q4v))),(28,.v (.int .i64 ((vs.map q4v).length:Int))),(29,.v (.int .i64 (k:Int)))]) (fun k=>[(1,.box 41 (um r c (vs.map q4v))),(2,.box 281 mat0),(3,.box 27 [.c (.val (.bool false)),.c (.val (.slice none 0 0))]),(5,.box 27 (zN ((iB (vs.take k):Nat):Int)))]) (fun k=>vs.length - k) 0 (Nat.zero_le _) (fun k hk=>?_)
  (by
   refine SX.St.aY [] (by intro b h;cases h) ?_ ?_ rfl
   ·repeat(first|exact trivial|refine⟨⟨_,rfl,SX.aG.same rfl⟩,?_⟩)
   ·exact⟨SX.ay.same rfl rfl,SX.ay.same rfl rfl,SX.ay.same rfl rfl,SX.ay.same rfl rfl,trivial⟩)
 by_cases hk2:k < vs.length
 ·obtain⟨v,hx⟩:∃v,vs[k]? =some v:=⟨_,zq2 hk2⟩
  have hq:(vs.map q4v)[k]? =some (q4v v):=by rw[List.getElem?_map,hx];rfl
  have hk3:k < (vs.map q4v).length:=kI hq;have hvb:=hRB v (zq4 hx);have hlb:=uL hRB k;have hlb2:=uL hRB (k+1);rw[acJ hx]at hlb2
  haveI n1:NI (.sat (bD (iB (vs.take k)))) (iB (vs.take k)) (1+vs.length*K):=NI.aaL hlb
  haveI n2:NI (.sat (bD v.den)) v.den K:=NI.aaL hvb.d
  haveI n3:NI (.sat (bD (Nat.lcm (iB (vs.take k)) v.den))) (Nat.lcm (iB (vs.take k)) v.den) (1+vs.length*K):=NI.aaL hlb2
  have cL:ah prog 482 [.r (bD ((iB (vs.take k):Nat):Int).natAbs),.r (bD ((v.den:Nat):Int).natAbs)] (.r (bD (Nat.lcm (iB (vs.take k)) v.den))):=an0 (ha:=n1) (hb:=n2) (by have:=uH (vs.take k);omega) v.den_nz hlb hvb.d (by omega)
  have cR:ah prog 17 [.r (bD (Nat.lcm (iB (vs.take k)) v.den)),.v (.bool false)] (.agg (zN ((Nat.lcm (iB (vs.take k)) v.den:Nat):Int))):=(ac7 (h:=n3) false).h (by omega)
  have e5:Ent.box 27 (zN ((Nat.lcm (iB (vs.take k)) v.den:Nat):Int))=Ent.box 27 (zN ((iB (vs.take (k+1)):Nat):Int)):=by rw[acJ hx]
  refine SX.goM ?_;refine W.next (k+1) hk2 (by omega) (by
   refine SX.St.aY [] (by intro b h;cases h) ?_ ?_ rfl
   ·repeat(first|exact trivial|refine⟨⟨_,rfl,SX.aG.same rfl⟩,?_⟩)
   ·exact⟨SX.ay.same rfl rfl,SX.ay.same rfl rfl,SX.ay.same rfl rfl,SX.ay.eq rfl e5 rfl,trivial⟩)
 ·obtain rfl:k=vs.length:=by omega
  have hk3:¬vs.length < (vs.map q4v).length:=by rw[zq5];omega
  rw[List.take_length];have hD:=uL hRB vs.length;rw[List.take_length]at hD;have hDq:=ZQ.made (z:=((iB vs:Nat):Int)) (K:=1+vs.length*K) hD;have cO:=(rJ (h:=hDq.zi)).h (by omega)
  have rO:Ra (tF (((iB vs:Nat):Int),1)) (qj ((iB vs:Nat):Int)) (1+vs.length*K):=Ra.mono (hDq.ra zq1) (by omega)
  refine SX.goM ?_;refine W.loop (fun k=>k≤vs.length) (fun k=>[(1,.ptr 1 0),(2,.ptr 2 0),(3,.ptr 3 0),(5,.ptr 5 0),(8,.ptr 8 0),(47,.r (aA 4 q4C (vs.map q4v))),(48,.v (.int .i64 ((vs.map q4v).length:Int))),(49,.v (.int .i64 (k:Int)))]) (fun k=>[(1,.box 41 (um r c (vs.map q4v))),(2,.box 281 mat0),(3,.box 27 [.c (.val (.bool false)),.c (.val (.slice none 0 0))]),(5,.box 27 (zN ((iB vs:Nat):Int))),(8,.box 281 [.c (.val (.int .i64 (r:Int))),.c (.val (.int .i64 (c:Int))),.own 100]),(100,.row 27 2 k (((nP vs).take k).flatMap zC))]) (fun k=>vs.length - k) 0 (Nat.zero_le _) (fun k hk=>?_)
   (by
    refine SX.St.aY [(100,none)] (by intro b h;cases h) ?_ ?_ rfl
    ·repeat(first|exact trivial|refine⟨⟨_,rfl,SX.aG.same rfl⟩,?_⟩)
    ·exact⟨SX.ay.same rfl rfl,SX.ay.same rfl rfl,SX.ay.same rfl rfl,SX.ay.same rfl rfl,SX.ay.mh rfl rfl ⟨aD.same rfl,aD.same rfl,aD.nil rfl,trivial⟩,SX.ay.bV rfl,trivial⟩)
  by_cases hk4:k < vs.length
  ·obtain⟨v,hx⟩:∃v,vs[k]? =some v:=⟨_,zq2 hk4⟩
   have hq:(vs.map q4v)[k]? =some (q4v v):=by rw[List.getElem?_map,hx];rfl
   have hk5:k < (vs.map q4v).length:=kI hq;have hvb:=hRB v (zq4 hx);have rv:=hvb.ra;have hw:=acg (aeW (zq4 hx)) (uH vs);have cMu:ah prog 353 [.agg (q4A (q4v v)),.agg (tF (((iB vs:Nat):Int),1))] (.agg (qA (v*qj ((iB vs:Nat):Int)))):=(aoH (a:=rv) (b:=rO)).h (by omega)
   have hPB:RB (v*qj ((iB vs:Nat):Int)) (K+(1+vs.length*K)):=hvb.mul (Ra.rb rO (by omega))
   have cW:=aqv hPB hw.1 (by omega)
   have hm:(nP vs)[k]? =some (v*qj ((iB vs:Nat):Int)).num:=by unfold nP;rw[List.getElem?_map,hx];rfl
   have e6:((nP vs).take k).flatMap zC++zC (v*qj ((iB vs:Nat):Int)).num=((nP vs).take (k+1)).flatMap zC:=by rw[jV hm,List.flatMap_append];simp
   generalize (v*qj ((iB vs:Nat):Int)).num=z at*;refine SX.goM ?_;refine W.next (k+1) hk4 (by omega) (by
    refine SX.St.aY [(100,some 65)] (by intro b h;cases h) ?_ ?_ rfl
    ·repeat(first|exact trivial|refine⟨⟨_,rfl,SX.aG.same rfl⟩,?_⟩)
    ·exact⟨SX.ay.same rfl rfl,SX.ay.same rfl rfl,SX.ay.same rfl rfl,SX.ay.same rfl rfl,SX.ay.mh rfl rfl ⟨aD.same rfl,aD.same rfl,aD.own rfl,trivial⟩,SX.ay.row rfl rfl rfl e6,trivial⟩)
  ·obtain rfl:k=vs.length:=by omega
   have hk6:¬vs.length < (vs.map q4v).length:=by rw[zq5];omega
   have e7:(nP vs).take vs.length=nP vs:=by rw[←hms,List.take_length]
   rw[e7];refine SX.goM ?_;have hm:wS r c (nP vs)=[.c (.val (.int .i64 (r:Int))),.c (.val (.int .i64 (c:Int))),.c (.sat (aM 2 vs.length ((nP vs).flatMap zC)))]:=by
    show [_,_,Atom.c (.sat (aM 2 (nP vs).length _))]=_;rw[hms]
   rw[hm];refine aQ.frz 100 ?_;exact .ok (aC.mk3 (ak.aZ rfl rfl rfl) (ak.fC rfl rfl rfl) (ak.tmp rfl))
theorem aq3{vs:List Rat}{K:Nat}(h:∀v∈vs,RB v K):∀z∈nP vs,z.natAbs < WB ^ (K+(1+vs.length*K)):=by
 intro z hz;obtain⟨v,hv,rfl⟩:=List.mem_map.1 hz;have h1:=(acg (aeW hv) (uH vs)).2.2;have h2:=uL h vs.length;rw[List.take_length]at h2;exact Nat.lt_of_le_of_lt h1 (gZ (h v hv).n h2)
end
section
open Go.RowKit QM SX LA
def wdC(w:Nat):List CA:=[.val (.int .u64 (w:Int))]
instance:dO wdC 1:=⟨fun _=>rfl⟩
structure Vl where
 k:Int
 q:fV
 r:Int
 c:Int
 a:List fV
 po:List kW
 p:Nat
 fr:Int
 fc:Int
 fa:List Nat
 ri:List Nat
 li:List Vl
mutual
def vlC:Vl→List CA
 |⟨k,q,r,c,a,po,p,fr,fc,fa,ri,li⟩=>[.val (.int .i64 k),.val (.bool q.1),.sat (dN q.2.1),.val (.bool q.2.2.1),.sat (dN q.2.2.2),.val (.int .i64 r),.val (.int .i64 c),.sat (aA 4 q4C (a.map rq)),.sat (aA 2 z2C (po.map rz)),.val (.int .u64 (p:Int)),.val (.int .i64 fr),.val (.int .i64 fc),.sat (aA 1 wdC fa),.sat (aA 1 wdC ri),.sat (aM 15 li.length (vlL li))]
def vlL:List Vl→List CA
 |[]=>[]
 |k::ks=>vlC k++vlL ks
end
theorem aod:∀ks:List Vl,vlL ks=ks.flatMap vlC
 |[]=>by rw[vlL];rfl
 |k::ks=>by rw[vlL,aod ks,List.flatMap_cons]
def vlE(v:Vl):List CA:=[.val (.int .i64 v.k),.val (.bool v.q.1),.sat (dN v.q.2.1),.val (.bool v.q.2.2.1),.sat (dN v.q.2.2.2),.val (.int .i64 v.r),.val (.int .i64 v.c),.sat (aA 4 q4C (v.a.map rq)),.sat (aA 2 z2C (v.po.map rz)),.val (.int .u64 (v.p:Int)),.val (.int .i64 v.fr),.val (.int .i64 v.fc),.sat (aA 1 wdC v.fa),.sat (aA 1 wdC v.ri),.sat (aA 15 vlC v.li)]
theorem acZ(v:Vl):vlC v=vlE v:=by
 cases v;rw[vlC,aod];rfl
instance:dO vlC 15:=⟨fun v=>by rw[acZ];rfl⟩
instance:dO vlE 15:=⟨fun v=>rfl⟩
theorem uV(l:List Vl):aA 15 vlC l=aA 15 vlE l:=by rw[show vlC=vlE from funext acZ]
abbrev vlA(v:Vl):List Atom:=[.c (.val (.int .i64 v.k)),.c (.val (.bool v.q.1)),.c (.sat (dN v.q.2.1)),.c (.val (.bool v.q.2.2.1)),.c (.sat (dN v.q.2.2.2)),.c (.val (.int .i64 v.r)),.c (.val (.int .i64 v.c)),.c (.sat (aA 4 q4C (v.a.map rq))),.c (.sat (aA 2 z2C (v.po.map rz))),.c (.val (.int .u64 (v.p:Int))),.c (.val (.int .i64 v.fr)),.c (.val (.int .i64 v.fc)),.c (.sat (aA 1 wdC v.fa)),.c (.sat (aA 1 wdC v.ri)),.c (.sat (aA 15 vlC v.li))]
def cq(v:Rat):fV:=(decide (v.num < 0),wds v.num.natAbs,decide ((v.den:Int) < 0),wds (v.den:Int).natAbs)
def cz(z:Int):kW:=(decide (z < 0),wds z.natAbs)
abbrev rq0:fV:=(false,[],false,[])
abbrev v0:Vl:=⟨0,rq0,0,0,[],[],0,0,0,[],[],[]⟩
abbrev fJ(v:Rat):Vl:=⟨1,cq v,0,0,[],[],0,0,0,[],[],[]⟩
abbrev eF(r c:Nat)(vs:List Rat):Vl:=⟨2,rq0,r,c,vs.map cq,[],0,0,0,[],[],[]⟩
abbrev iO(zs:List Int):Vl:=⟨3,rq0,0,0,[],zs.map cz,0,0,0,[],[],[]⟩
abbrev kS(p r c:Nat)(l:List Nat):Vl:=⟨4,rq0,0,0,[],[],p,r,c,l,[],[]⟩
abbrev lu(p:Nat)(l:List Nat):Vl:=⟨5,rq0,0,0,[],[],p,0,0,[],l,[]⟩
abbrev kG(l:List Vl):Vl:=⟨6,rq0,0,0,[],[],0,0,0,[],[],l⟩
def aI(x y:Atom):Prop:=∀E S w v,x.has E S w v→y.has E S w v
theorem aI.refl(x:Atom):aI x x:=fun _ _ _ _ h=>h
theorem amV{E:Env}{S:Nat→Prop}{w:World}:∀{l l':List Atom},aK aI l l'→∀us,aK (Atom.has E S w) l us→aK (Atom.has E S w) l' us
 |[],[],_,_,h2=>h2
 |x::l,y::l',h,u::us,h2=>⟨h.1 _ _ _ _ h2.1,amV h.2 us h2.2⟩
theorem mQ{l l':List Atom}(h:aK aI l l'):AV0.imp (.agg l) (.agg l'):=fun E S w v ⟨us,hu,h2⟩=>⟨us,hu,amV h us h2⟩
theorem al3{size n:Nat}{cells cells':List CA}{S:Nat→Prop}{w:World}(hl:cells.length=cells'.length)(h:∀(i:Nat) (c c':CA),cells[i]? =some c→cells'[i]? =some c'→∀u,c.has S w u→c'.has S w u){v:Value}(hv:(aM size n cells).has S w v):(aM size n cells').has S w v:=by
 obtain⟨oa,cap,h1,h2,h3,h4,h5,h6⟩:=bG.1 hv;refine bG.2 ⟨oa,cap,h1,h2,h3,h4,by omega,fun i c' hc'=>?_⟩
 have hi:=kI hc';obtain⟨b,o,u,e1,e2,e3,e4⟩:=h6 i cells[i] (zq2 (by omega))
 exact⟨b,o,u,e1,e2,e3,h i _ _ (zq2 (by omega)) hc' u e4⟩
theorem aI.slice{size n:Nat}{cells cells':List CA}(hl:cells.length=cells'.length)(h:∀(i:Nat) (c c':CA),cells[i]? =some c→cells'[i]? =some c'→∀S w u,c.has S w u→c'.has S w u):aI (.c (.sat (aM size n cells))) (.c (.sat (aM size n cells'))):=fun E S w v hv=>al3 hl (fun i c c' h1 h2=>h i c c' h1 h2 S w) hv
def aa6(x y:CA):Prop:=∀S w u,x.has S w u→y.has S w u
theorem aa6.refl(x:CA):aa6 x x:=fun _ _ _ h=>h
theorem aK.len{α β:Type}{R:α→β→Prop}:∀{l:List α} {l':List β},aK R l l'→l.length=l'.length
 |[],[],_=>rfl
 |_::_,_::_,h=>by rw[List.length_cons,List.length_cons,aK.len h.2]
theorem aK.at{α β:Type}{R:α→β→Prop}:∀{l:List α} {l':List β},aK R l l'→∀(i:Nat) (a:α) (b:β),l[i]? =some a→l'[i]? =some b→R a b
 |_::_,_::_,h,0,a,b,ha,hb=>by cases ha;cases hb;exact h.1
 |_::_,_::_,h,i+1,a,b,ha,hb=>aK.at h.2 i a b ha hb
theorem aK.app{α β:Type}{R:α→β→Prop}:∀{l:List α} {l':List β} {m:List α} {m':List β},aK R l l'→aK R m m'→aK R (l++m) (l'++m')
 |[],[],_,_,_,h=>h
 |_::_,_::_,_,_,h,h2=>⟨h.1,aK.app h.2 h2⟩
theorem aK.flat{α β γ:Type}{R:CA→CA→Prop}{enc:α→List CA}{enc':β→List CA}{f:γ→α}{g:γ→β}:∀(l:List γ),(∀x∈l,aK R (enc (f x)) (enc' (g x)))→aK R ((l.map f).flatMap enc) ((l.map g).flatMap enc')
 |[],_=>trivial
 |x::l,h=>aK.app (h x (List.mem_cons_self ..)) (aK.flat l fun y hy=>h y (List.mem_cons_of_mem _ hy))
theorem aI.row{α β γ:Type}{size:Nat}{enc:α→List CA}{enc':β→List CA}{f:γ→α}{g:γ→β}(l:List γ)(h:∀x∈l,aK aa6 (enc (f x)) (enc' (g x))):aI (.c (.sat (aA size enc (l.map f)))) (.c (.sat (aA size enc' (l.map g)))):=by
 have h2:=aK.flat l h;show aI (.c (.sat (aM size (l.map f).length ((l.map f).flatMap enc)))) (.c (.sat (aM size (l.map g).length ((l.map g).flatMap enc'))));rw[zq5,zq5];exact aI.slice (aK.len h2) (fun i c c' h3 h4=>aK.at h2 i c c' h3 h4)
theorem yS(n:Nat):aa6 (.sat (bD n)) (.sat (dN (wds n))):=fun S w v h=>by
 obtain⟨l,h1,h2,_,h4⟩:=afK.1 h;have:=vo (nR.1 h4).1 h1;rw[h2]at this;rw[←this];exact h4
theorem aI.nrm(n:Nat):aI (.c (.sat (bD n))) (.c (.sat (dN (wds n)))):=fun E S w v h=>yS n S w v h
theorem aI.nil{α:Type}{size:Nat}{enc:α→List CA}:aI (.c (.val (.slice none 0 0))) (.c (.sat (aA size enc []))):=fun E S w v h=>by
 rw[show v= .slice none 0 0 from h];exact aja
theorem aI.sI:aI (.c (.val (.slice none 0 0))) (.c (.sat (dN []))):=fun E S w v h=>by
 rw[show v= .slice none 0 0 from h]
 exact nR.2 ⟨Sm.nil,(aja (α:=Nat) (enc:=wdC) (size:=1):(aA 1 wdC []).has S w _)⟩
theorem aI.rats(vs:List Rat):aI (.c (.sat (aA 4 q4C (vs.map q4v)))) (.c (.sat (aA 4 q4C ((vs.map cq).map rq)))):=by
 rw[List.map_map];exact aI.row vs fun x _=>⟨aa6.refl _,yS _,aa6.refl _,yS _,trivial⟩
theorem aI.ints(zs:List Int):aI (.c (.sat (aA 2 z2C (zs.map z2v)))) (.c (.sat (aA 2 z2C ((zs.map cz).map rz)))):=by
 rw[List.map_map];exact aI.row zs fun x _=>⟨aa6.refl _,yS _,trivial⟩
theorem iU(v:Rat):rqv (cq v)=v:=by
 show qv (sgn (decide (v.num < 0)) (nval WB (wds v.num.natAbs))) (sgn (decide ((v.den:Int) < 0)) (nval WB (wds (v.den:Int).natAbs)))=v;rw[oq,oq,aeN,aeN];exact iW v
theorem mX(z:Int):rzv (cz z)=z:=by
 show sgn (decide (z < 0)) (nval WB (wds z.natAbs))=z;rw[oq,aeN]
theorem aip(v:Rat):Sm WB (cq v).2.1∧Sm WB (cq v).2.2.2:=⟨adr _,adr _⟩
theorem aj4(z:Int):Sm WB (cz z).2:=adr _
theorem RSm.cq(vs:List Rat):RSm (vs.map cq):=fun x hx=>by obtain⟨v,_,rfl⟩:=List.mem_map.1 hx;exact aip v
theorem alL.cq{vs:List Rat}{K:Nat}(h:∀v∈vs,RB v K):alL (vs.map cq) K:=fun x hx=>by
 obtain⟨v,hv,rfl⟩:=List.mem_map.1 hx;exact⟨lg (h v hv).n,lg (by rw[Int.natAbs_natCast];exact(h v hv).d)⟩
theorem arD(vs:List Rat):(vs.map cq).map rqv=vs:=by
 rw[List.map_map,show rqv ∘ cq=id from funext iU,List.map_id]
theorem aqG(zs:List Int):(zs.map cz).map rzv=zs:=by
 rw[List.map_map,show rzv ∘ cz=id from funext mX,List.map_id]
theorem MV.cq{vs:List Rat}{K:Nat}(h:∀v∈vs,RB v K):MV ((vs.map cq).map rq) vs K:=by
 have:=MV.raw (RSm.cq vs) (alL.cq h)
 rwa [arD]at this
theorem Ra.cq{v:Rat}{K:Nat}(h:RB v K):Ra (q4A (rq (cq v))) v K:=by
 have:=(MV.cq (vs:=[v]) (K:=K) fun u hu=>by rw[List.mem_singleton.1 hu];exact h).ra 0 _ _ rfl rfl
 exact this
end
section
open Go.RowKit QM SX LA
attribute [local irreducible] IntKind.wrap Go1 Reg WP aS aT bR bO aQ aC ak aj aX Sat
attribute [local irreducible] bT bX bY dw bZ qv dR mf
section
section
variable{P:Program}{C:Ctx}{st:St}
theorem xY{r:ResultVar}{x y:AV0}(h:ak P st r x)(e:x.imp y):aQ C P [r] ⟨.it y,[]⟩ st:= .ok (aC.mk1 (h.imp e))
end
theorem aiy{v:Rat}:AV0.imp (.agg [.c (.val (.int .i64 1)),.c (.val (.bool (decide (v.num < 0)))),.c (.sat (bD v.num.natAbs)),.c (.val (.bool (decide ((v.den:Int) < 0)))),.c (.sat (bD (v.den:Int).natAbs)),.c (.val (.int .i64 0)),.c (.val (.int .i64 0)),.c (.val (.slice none 0 0)),.c (.val (.slice none 0 0)),.c (.val (.int .u64 0)),.c (.val (.int .i64 0)),.c (.val (.int .i64 0)),.c (.val (.slice none 0 0)),.c (.val (.slice none 0 0)),.c (.val (.slice none 0 0))]) (.agg (vlA (fJ v))):=
 mQ ⟨aI.refl _,aI.refl _,aI.nrm _,aI.refl _,aI.nrm _,aI.refl _,aI.refl _,aI.nil,aI.nil,aI.refl _,aI.refl _,aI.refl _,aI.nil,aI.nil,aI.nil,trivial⟩
theorem aa1{q:Q4}{v:Rat}{K:Nat}(h:Ra (q4A q) v K)(hK:K≤100000):ah prog 225 [.agg (q4A q)] (.agg (vlA (fJ v))):=by
 have cO:ah prog 226 [.agg [.c (.val (.bool false)),.c (.val (.slice none 0 0))]] (.agg (qA 0)):=rJ.h (by decide)
 haveI:Ra (qA 0) 0 1:=(RB.zero (Nat.le_refl 1)).ra
 obtain⟨X,cA,hX⟩:=eAdd (q4A q) (qA 0) (K:=K) (K':=1) (by omega)
 rw[Rat.add_zero]at hX;have e:=hX.nf;subst e;refine ah.fnF func225 results225 ntmps225 rfl rfl rfl (by simp[AV.ids,AV0.ids,Atom.ids]) rfl (fun w0 T B E0 hB=>?_)
 refine SX.goM ?_;refine xY (ak.gJ rfl rfl rfl) ?_;exact aiy
theorem RB.ofI{z:Int}{K:Nat}(h:z.natAbs < WB ^ K)(h1:1≤K):RB (z:Rat) K:=RB.of (p:=z) (q:=1) (by decide) (by unfold qv;grind) h (by
 rw[show (1:Int).natAbs=1 from rfl]
 exact(Bd.mono Bd.one.h h1:(1:Int).natAbs < WB ^ K))
theorem ajZ{q:Z2}{z:Int}{K:Nat}(h:ZQ q z K)(h1:1≤K)(hK:K≤100000):ah prog 187 [.agg (z2A q)] (.agg (vlA (fJ (z:Rat)))):=by
 haveI:=h.zi
 have cO:ah prog 226 [.agg (z2A q)] (.agg (qA (z:Rat))):=rJ.h (by omega)
 have hR:RB (z:Rat) K:=RB.ofI h.b h1;have cN:ah prog 225 [.agg (qA (z:Rat))] (.agg (vlA (fJ (z:Rat)))):=aa1 (q:=q4v z) hR.ra hK;refine ah.fnF func187 results187 ntmps187 rfl rfl rfl (by simp[AV.ids,AV0.ids,Atom.ids]) rfl (fun w0 T B E0 hB=>?_)
 refine SX.goM ?_;refine xY (ak.gJ rfl rfl rfl) ?_;exact AV0.imp.refl _
theorem aI.rats2(vs:List Rat):aI (.c (.sat (aM 4 vs.length (vs.flatMap qC)))) (.c (.sat (aA 4 q4C ((vs.map cq).map rq)))):=by
 have h:=aI.rats vs;rw[show aA 4 q4C (vs.map q4v)=aM 4 vs.length (vs.flatMap qC)by
  show aM 4 (vs.map q4v).length ((vs.map q4v).flatMap q4C)=_;rw[zq5,List.flatMap_map]]at h
 exact h
theorem aaS{r c:Nat}{l:List Q4}{vs:List Rat}{K:Nat}(hM:MV l vs K)(hl:l.length=r*c)(hr:r≤64)(hc:c≤64)(hK:K≤100000):ah prog 239 [.agg (um r c l)] (.agg (vlA (eF r c vs))):=by
 have hb:=Nat.mul_le_mul hr hc;have cF:=yL (cells:=l.flatMap q4C) hl hr hc;have cO:ah prog 226 [.agg [.c (.val (.bool false)),.c (.val (.slice none 0 0))]] (.agg (qA 0)):=rJ.h (by decide)
 haveI:Ra (qA 0) 0 1:=(RB.zero (Nat.le_refl 1)).ra
 refine ah.fnF func239 results239 ntmps239 rfl rfl rfl (by simp[AV.ids,AV0.ids,Atom.ids]) rfl (fun w0 T B E0 hB=>?_)
 refine SX.goM ?_;refine W.loop (fun k=>k≤l.length) (fun k=>[(2,.ptr 2 0),(3,.ptr 3 0),(16,.r (aA 4 q4C l)),(17,.v (.int .i64 (l.length:Int))),(18,.v (.int .i64 (k:Int)))]) (fun k=>[(2,.box 50 [.c (.val (.int .i64 0)),.c (.val (.bool false)),.c (.val (.slice none 0 0)),.c (.val (.bool false)),.c (.val (.slice none 0 0)),.c (.val (.int .i64 0)),.c (.val (.int .i64 0)),.c (.val (.slice none 0 0)),.c (.val (.slice none 0 0)),.c (.val (.int .u64 0)),.c (.val (.int .i64 0)),.c (.val (.int .i64 0)),.c (.val (.slice none 0 0)),.c (.val (.slice none 0 0)),.c (.val (.slice none 0 0))]),(3,.box 41 [.c (.val (.int .i64 (r:Int))),.c (.val (.int .i64 (c:Int))),.own 100]),(100,.row 38 4 k ((vs.take k).flatMap qC))]) (fun k=>l.length - k) 0 (Nat.zero_le _) (fun k hk=>?_)
  (by
   refine SX.St.aY [(100,none)] (by intro b h;cases h) ?_ ?_ rfl
   ·repeat(first|exact trivial|refine⟨⟨_,rfl,SX.aG.same rfl⟩,?_⟩)
   ·exact⟨SX.ay.same rfl rfl,SX.ay.mh rfl rfl ⟨aD.same rfl,aD.same rfl,aD.nil rfl,trivial⟩,SX.ay.bV rfl,trivial⟩)
 by_cases h:k < l.length
 ·obtain⟨q,hq⟩:∃q,l[k]? =some q:=⟨_,zq2 h⟩
  obtain⟨v,hv⟩:∃v,vs[k]? =some v:=⟨_,zq2 (by rw[←hM.len];exact h)⟩
  haveI:=hM.ra k q v hq hv
  obtain⟨X,cA,hX⟩:=eAdd (q4A q) (qA 0) (K:=K) (K':=1) (by omega)
  rw[Rat.add_zero]at hX;have e:=hX.nf;subst e;have e2:(vs.take k).flatMap qC++qC v=(vs.take (k+1)).flatMap qC:=by rw[List.take_add_one,hv];simp
  refine SX.goM ?_;refine W.next (k+1) h (by omega) (by
   refine SX.St.aY [(100,some 29)] (by intro b h;cases h) ?_ ?_ rfl
   ·repeat(first|exact trivial|refine⟨⟨_,rfl,SX.aG.same rfl⟩,?_⟩|refine⟨⟨_,rfl,SX.aG.own rfl⟩,?_⟩)
   ·exact⟨SX.ay.same rfl rfl,SX.ay.mh rfl rfl ⟨aD.same rfl,aD.same rfl,aD.own rfl,trivial⟩,SX.ay.row rfl rfl rfl e2,trivial⟩)
 ·obtain rfl:k=l.length:=by omega
  refine SX.goM ?_;refine aQ.frz 100 ?_;refine xY (ak.gJ rfl rfl rfl) ?_;rw[hM.len,List.take_length];exact mQ ⟨aI.refl _,aI.refl _,aI.sI,aI.refl _,aI.sI,aI.refl _,aI.refl _,aI.rats2 vs,aI.nil,aI.refl _,aI.refl _,aI.refl _,aI.nil,aI.nil,aI.nil,trivial⟩
end
theorem agI(r c:Int){n:Nat}{cells:List CA}:ah prog 45 [.agg [.c (.val (.int .i64 r)),.c (.val (.int .i64 c)),.c (.sat (aM 4 n cells))]] (.v (.bool (decide (r=0∧c=0∧n=0)))):=by
 refine ah.fnF func45 results45 ntmps45 rfl rfl rfl (by simp[AV.ids,AV0.ids,Atom.ids]) rfl (fun w0 T B E0 hB=>?_)
 by_cases h1:r=0
 ·by_cases h2:c=0
  ·refine SX.goM ?_;refine aJ ?_;rw[decide_eq_decide];constructor
   ·intro h;exact⟨h1,h2,by omega⟩
   ·intro h;omega
  ·refine SX.goM ?_;refine aJ ?_;exact(decide_eq_false fun h=>h2 h.2.1).symm
 ·refine SX.goM ?_;refine aJ ?_;exact(decide_eq_false fun h=>h1 h.1).symm
theorem ahy(r c:Int){n:Nat}{cells:List CA}:ah prog 46 [.agg [.c (.val (.int .i64 r)),.c (.val (.int .i64 c)),.c (.sat (aM 1 n cells))]] (.v (.bool (decide (r=0∧c=0∧n=0)))):=by
 refine ah.fnF func46 results46 ntmps46 rfl rfl rfl (by simp[AV.ids,AV0.ids,Atom.ids]) rfl (fun w0 T B E0 hB=>?_)
 by_cases h1:r=0
 ·by_cases h2:c=0
  ·refine SX.goM ?_;refine aJ ?_;rw[decide_eq_decide];constructor
   ·intro h;exact⟨h1,h2,by omega⟩
   ·intro h;omega
  ·refine SX.goM ?_;refine aJ ?_;exact(decide_eq_false fun h=>h2 h.2.1).symm
 ·refine SX.goM ?_;refine aJ ?_;exact(decide_eq_false fun h=>h1 h.1).symm
theorem adN(q:fV):q=rq0↔q.2.1.length=0∧q.2.2.2.length=0∧q.1=false∧q.2.2.1=false:=by
 constructor
 ·rintro rfl;exact⟨rfl,rfl,rfl,rfl⟩
 ·obtain⟨b,l,b',l'⟩:=q;rintro⟨h1,h2,h3,h4⟩
  dsimp only at h1 h2 h3 h4
  rw[List.eq_nil_of_length_eq_zero h1,List.eq_nil_of_length_eq_zero h2,h3,h4]
theorem aos(q:fV):ah prog 44 [.agg (q4A (rq q))] (.v (.bool (decide (q=rq0)))):=by
 have hq:=adN q;rw[show decide (q=rq0)=decide (q.2.1.length=0∧q.2.2.2.length=0∧q.1=false∧q.2.2.1=false)from decide_eq_decide.2 hq]
 refine ah.fnF func44 results44 ntmps44 rfl rfl rfl (by simp[AV.ids,AV0.ids,Atom.ids]) rfl (fun w0 T B E0 hB=>?_)
 by_cases h1:q.2.1.length=0
 ·by_cases h2:q.2.2.2.length=0
  ·cases h3:q.1
   ·cases h4:q.2.2.1
    ·refine SX.goM ?_;refine aJ ?_;rw[h4];exact(decide_eq_true ⟨h1,h2,rfl,rfl⟩).symm
    ·refine SX.goM ?_;refine aJ ?_;rw[h4];exact(decide_eq_false fun h=>by cases h.2.2.2).symm
   ·refine SX.goM ?_;refine aJ ?_;exact(decide_eq_false fun h=>by cases h.2.2.1).symm
  ·refine SX.goM ?_;refine aJ ?_;exact(decide_eq_false fun h=>h2 h.2.1).symm
 ·refine SX.goM ?_;refine aJ ?_;exact(decide_eq_false fun h=>h1 h.1).symm
def pt(p:Prop)[Decidable p]:Nat:=if p then 1 else 0
theorem ag7{p:Prop}[Decidable p](h:p):pt p=1:=if_pos h
theorem sQ{p:Prop}[Decidable p](h:¬p):pt p=0:=if_neg h
theorem zQ(p:Prop)[Decidable p]:pt p≤1:=by unfold pt;split <;> omega
def vP(v:Vl):Nat:=pt (v.k≠1∧v.q≠rq0)+pt (v.k≠2∧¬(v.r=0∧v.c=0∧v.a.length=0))+pt (v.k≠3∧v.po.length≠0)+pt (v.k≠4∧¬(v.fr=0∧v.fc=0∧v.fa.length=0))+pt (v.k≠5∧v.ri.length≠0)+pt ((v.k≠4∧v.k≠5)∧v.p≠0)+pt (v.k≠6∧v.li.length≠0)
theorem jl(v:Vl):ah prog 26 [.agg (vlA v)] (.v (.int .i64 (vP v:Int))):=by
 have c1:=aos v.q;have c2:=agI v.r v.c (n:=(v.a.map rq).length) (cells:=(v.a.map rq).flatMap q4C);have c4:=ahy v.fr v.fc (n:=v.fa.length) (cells:=v.fa.flatMap wdC);have l1:(v.a.map rq).length=v.a.length:=zq5 _;have l2:(v.po.map rz).length=v.po.length:=zq5 _;generalize hv:vP v=N;unfold vP at hv;have b1:=zQ (v.k≠1∧v.q≠rq0);have b2:=zQ (v.k≠2∧¬(v.r=0∧v.c=0∧v.a.length=0));have b3:=zQ (v.k≠3∧v.po.length≠0);have b4:=zQ (v.k≠4∧¬(v.fr=0∧v.fc=0∧v.fa.length=0));have b5:=zQ (v.k≠5∧v.ri.length≠0);have b6:=zQ ((v.k≠4∧v.k≠5)∧v.p≠0);have b7:=zQ (v.k≠6∧v.li.length≠0);generalize e1:pt (v.k≠1∧v.q≠rq0)=n1 at hv b1;generalize e2:pt (v.k≠2∧¬(v.r=0∧v.c=0∧v.a.length=0))=n2 at hv b2;generalize e3:pt (v.k≠3∧v.po.length≠0)=n3 at hv b3;generalize e4:pt (v.k≠4∧¬(v.fr=0∧v.fc=0∧v.fa.length=0))=n4 at hv b4;generalize e5:pt (v.k≠5∧v.ri.length≠0)=n5 at hv b5;generalize e6:pt ((v.k≠4∧v.k≠5)∧v.p≠0)=n6 at hv b6;generalize e7:pt (v.k≠6∧v.li.length≠0)=n7 at hv b7;refine ah.fnF func26 results26 ntmps26 rfl rfl rfl (by simp[AV.ids,AV0.ids,Atom.ids]) rfl (fun w0 T B E0 hB=>?_)
 refine W.meet [(1,.ptr 1 0)] [(1,.box 50 (vlA v))] ?_ ?_
 ·refine SX.goM ?_;exact W.le
 refine W.meet [(1,.ptr 1 0),(3,.v (.int .i64 0))] [(1,.box 50 (vlA v))] ?_ ?_
 ·refine SX.goM ?_;exact W.le
 refine W.meet [(1,.ptr 1 0),(3,.v (.int .i64 (n1:Int)))] [(1,.box 50 (vlA v))] ?_ ?_
 ·by_cases h:v.k=1
  ·rw[sQ fun h'=>h'.1 h]at e1;subst e1
   refine SX.goM ?_;exact W.le
  ·by_cases h2:v.q=rq0
   ·rw[sQ fun h'=>h'.2 h2]at e1;subst e1
    rw[decide_eq_true h2]at c1;refine SX.goM ?_;exact W.le
   ·rw[ag7 ⟨h,h2⟩]at e1;subst e1;rw[decide_eq_false h2]at c1;refine SX.goM ?_;exact W.le
 refine W.meet [(1,.ptr 1 0),(3,.v (.int .i64 ((n1+n2:Nat):Int)))] [(1,.box 50 (vlA v))] ?_ ?_
 ·by_cases h:v.k=2
  ·rw[sQ fun h'=>h'.1 h]at e2;subst e2
   refine SX.goM ?_;exact W.le
  ·by_cases h2:v.r=0∧v.c=0∧v.a.length=0
   ·rw[sQ fun h'=>h'.2 h2]at e2;subst e2
    rw[decide_eq_true (show _∧_∧_ from ⟨h2.1,h2.2.1,l1.trans h2.2.2⟩)]at c2
    refine SX.goM ?_;exact W.le
   ·rw[ag7 ⟨h,h2⟩]at e2;subst e2;rw[decide_eq_false fun h3=>h2 ⟨h3.1,h3.2.1,l1.symm.trans h3.2.2⟩]at c2
    refine SX.goM ?_;exact W.le
 refine W.meet [(1,.ptr 1 0),(3,.v (.int .i64 ((n1+n2+n3:Nat):Int)))] [(1,.box 50 (vlA v))] ?_ ?_
 ·by_cases h:v.k=3
  ·rw[sQ fun h'=>h'.1 h]at e3;subst e3
   refine SX.goM ?_;exact W.le
  ·by_cases h2:v.po.length=0
   ·rw[sQ fun h'=>h'.2 h2]at e3;subst e3
    refine SX.goM ?_;exact W.le
   ·rw[ag7 ⟨h,h2⟩]at e3;subst e3;refine SX.goM ?_;exact W.le
 refine W.meet [(1,.ptr 1 0),(3,.v (.int .i64 ((n1+n2+n3+n4:Nat):Int)))] [(1,.box 50 (vlA v))] ?_ ?_
 ·by_cases h:v.k=4
  ·rw[sQ fun h'=>h'.1 h]at e4;subst e4
   refine SX.goM ?_;exact W.le
  ·by_cases h2:v.fr=0∧v.fc=0∧v.fa.length=0
   ·rw[sQ fun h'=>h'.2 h2]at e4;subst e4
    rw[decide_eq_true h2]at c4;refine SX.goM ?_;exact W.le
   ·rw[ag7 ⟨h,h2⟩]at e4;subst e4;rw[decide_eq_false h2]at c4;refine SX.goM ?_;exact W.le
 refine W.meet [(1,.ptr 1 0),(3,.v (.int .i64 ((n1+n2+n3+n4+n5:Nat):Int)))] [(1,.box 50 (vlA v))] ?_ ?_
 ·by_cases h:v.k=5
  ·rw[sQ fun h'=>h'.1 h]at e5;subst e5
   refine SX.goM ?_;exact W.le
  ·by_cases h2:v.ri.length=0
   ·rw[sQ fun h'=>h'.2 h2]at e5;subst e5
    refine SX.goM ?_;exact W.le
   ·rw[ag7 ⟨h,h2⟩]at e5;subst e5;refine SX.goM ?_;exact W.le
 refine W.meet [(1,.ptr 1 0),(3,.v (.int .i64 ((n1+n2+n3+n4+n5+n6:Nat):Int)))] [(1,.box 50 (vlA v))] ?_ ?_
 ·by_cases h:v.k=4
  ·rw[sQ fun h'=>h'.1.1 h]at e6;subst e6
   refine SX.goM ?_;exact W.le
  ·by_cases h1:v.k=5
   ·rw[sQ fun h'=>h'.1.2 h1]at e6;subst e6
    refine SX.goM ?_;exact W.le
   ·by_cases h2:v.p=0
    ·rw[sQ fun h'=>h'.2 h2]at e6;subst e6
     refine SX.goM ?_;exact W.le
    ·rw[ag7 ⟨⟨h,h1⟩,h2⟩]at e6;subst e6;refine SX.goM ?_;exact W.le
 refine W.meet [(1,.ptr 1 0),(3,.v (.int .i64 ((n1+n2+n3+n4+n5+n6+n7:Nat):Int)))] [(1,.box 50 (vlA v))] ?_ ?_
 ·by_cases h:v.k=6
  ·rw[sQ fun h'=>h'.1 h]at e7;subst e7
   refine SX.goM ?_;exact W.le
  ·by_cases h2:v.li.length=0
   ·rw[sQ fun h'=>h'.2 h2]at e7;subst e7
    refine SX.goM ?_;exact W.le
   ·rw[ag7 ⟨h,h2⟩]at e7;subst e7;refine SX.goM ?_;exact W.le
 refine SX.goM ?_;refine gK ?_;rw[←hv]
end
section
open Go.RowKit QM SX LA
section
def zOk(x:kW):Bool:=if x.2.length=0 then !x.1 else decide (x.2.getD (x.2.length - 1) 0≠0)
theorem zn{x:kW}(hs:Sm WB x.2):zOk x=true↔x=cz (rzv x):=by
 constructor
 ·intro h;obtain⟨b,l⟩:=x;unfold zOk at h
  dsimp only at h hs
  have hn:Nrm l:=by
   split at h
   ·next h0=>exact .inl (List.eq_nil_of_length_eq_zero h0)
   ·exact .inr (of_decide_eq_true h)
  have hw:=vo hs hn;have hna:(sgn b (nval WB l)).natAbs=nval WB l:=by unfold sgn;split <;> omega
  show (b,l)=(decide (sgn b (nval WB l) < 0),wds (sgn b (nval WB l)).natAbs);rw[hna,←hw]
  congr 1
  split at h
  ·next h0=>
   have hb:b=false:=by simpa using h
   subst hb;exact(decide_eq_false (by unfold sgn;simp)).symm
  ·next h0=>
   have hne:nval WB l≠0:=fun e=>h0 (by rw[hw,e];exact(pO 0).2 rfl)
   cases b
   ·exact(decide_eq_false (by unfold sgn;simp)).symm
   ·exact(decide_eq_true (by unfold sgn;simp;omega)).symm
 ·intro h;rw[h];generalize rzv x=z;unfold zOk cz
  dsimp only
  split
  ·next h0=>
   have hz:=(pO z.natAbs).1 h0;rw[decide_eq_false (by omega)];rfl
  ·next h0=>
   rcases yN z.natAbs with h|h
   ·rw[h]at h0;exact absurd rfl h0
   ·exact decide_eq_true h
def qOk(q:fV):Bool:=zOk (q.1,q.2.1)&&zOk (q.2.2.1,q.2.2.2)&&decide (0 < rzv (q.2.2.1,q.2.2.2))&&decide (Int.gcd (rzv (q.1,q.2.1)) (rzv (q.2.2.1,q.2.2.2))=1)
theorem zy{q:fV}(hs:Sm WB q.2.1∧Sm WB q.2.2.2):qOk q=true↔q=cq (rqv q):=by
 have e1:=zn (x:=(q.1,q.2.1)) hs.1;have e2:=zn (x:=(q.2.2.1,q.2.2.2)) hs.2;unfold qOk;rw[Bool.and_eq_true,Bool.and_eq_true,Bool.and_eq_true,e1,e2,decide_eq_true_iff,decide_eq_true_iff];obtain⟨b,l,b',l'⟩:=q
 dsimp only
 constructor
 ·rintro⟨⟨⟨h1,h2⟩,h3⟩,h4⟩;have hr:rqv (b,l,b',l')=qv (rzv (b,l)) (rzv (b',l')):=rfl;have hX:Rd (rzv (b,l),rzv (b',l')) (rqv (b,l,b',l')) (l.length+l'.length+1):=⟨hr.symm,h3,h4,⟨Nat.lt_of_lt_of_le (ZQ.raw (b:=b) (l:=l) hs.1 (Nat.le_refl _)).b (Nat.pow_le_pow_right aW (by omega))⟩,⟨Nat.lt_of_lt_of_le (ZQ.raw (b:=b') (l:=l') hs.2 (Nat.le_refl _)).b (Nat.pow_le_pow_right aW (by omega))⟩⟩
  have hn:=hX.nf
  injection hn with n1 n2
  injection h1 with a1 a2
  injection h2 with a3 a4
  unfold cq;rw[←n1,←n2];exact Prod.ext a1 (Prod.ext a2 (Prod.ext a3 a4))
 ·intro h;generalize rqv (b,l,b',l')=v at h
  injection h with h1 h
  injection h with h2 h
  injection h with h3 h4
  have z1:rzv (b,l)=v.num:=by rw[h1,h2];exact mX v.num
  have z2:rzv (b',l')=(v.den:Int):=by rw[h3,h4];exact mX (v.den:Int)
  rw[z1,z2];refine⟨⟨⟨?_,?_⟩,?_⟩,?_⟩
  ·rw[h1,h2];rfl
  ·rw[h3,h4];rfl
  ·have:=v.den_nz;omega
  ·have h2:Nat.Coprime v.num.natAbs v.den:=v.reduced;unfold Int.gcd;rw[Int.natAbs_natCast];exact h2
theorem adF{α:Type}{p:α→Bool}(l:List α):decide (¬fi p l 0 < 0)=l.any p:=by
 rw[Bool.eq_iff_iff,decide_eq_true_iff,List.any_eq_true];constructor
 ·intro h;obtain⟨i,a,_,h2,h3⟩:=ai8 l 0 h;exact⟨a,zq4 h2,h3⟩
 ·rintro⟨a,h1,h2⟩ h3;rw[ai9 h3 a h1]at h2;cases h2
attribute [local irreducible] IntKind.wrap Go1 Reg WP aS aT bR bO aQ aC ak aj aX Sat
attribute [local irreducible] bT bX bY dw bZ qv dR mf
theorem acH(x:kW)(hl:x.2.length≤1000000000):ah prog 47 [.agg (z2A (rz x))] (.v (.bool (zOk x))):=by
 unfold zOk;refine ah.fnF func47 results47 ntmps47 rfl rfl rfl (by simp[AV.ids,AV0.ids,Atom.ids]) rfl (fun w0 T B E0 hB=>?_)
 by_cases h0:x.2.length=0
 ·rw[if_pos h0];cases h1:x.1
  ·refine SX.goM ?_;refine aJ ?_;rfl
  ·refine SX.goM ?_;refine aJ ?_;rfl
 ·rw[if_neg h0];obtain⟨w,hw⟩:∃w,x.2[x.2.length - 1]? =some w:=⟨_,zq2 (by omega)⟩
  have hg:x.2.getD (x.2.length - 1) 0=w:=by rw[zq3,hw];rfl
  rw[hg];refine SX.goM ?_;refine aJ ?_;rw[decide_eq_decide];omega
theorem sM(x:kW)(hl:x.2.length≤1000000000):ah prog 97 [.agg (z2A (rz x))] (.v (.bool (zOk x))):=by
 unfold zOk;refine ah.fnF func97 results97 ntmps97 rfl rfl rfl (by simp[AV.ids,AV0.ids,Atom.ids]) rfl (fun w0 T B E0 hB=>?_)
 by_cases h0:x.2.length=0
 ·rw[if_pos h0];cases h1:x.1
  ·refine SX.goM ?_;refine aJ ?_;rfl
  ·refine SX.goM ?_;refine aJ ?_;rfl
 ·rw[if_neg h0];obtain⟨w,hw⟩:∃w,x.2[x.2.length - 1]? =some w:=⟨_,zq2 (by omega)⟩
  have hg:x.2.getD (x.2.length - 1) 0=w:=by rw[zq3,hw];rfl
  rw[hg];refine SX.goM ?_;refine aJ ?_;rw[decide_eq_decide];omega
theorem asw(q:fV)(hs:Sm WB q.2.1∧Sm WB q.2.2.2)(hl:q.2.1.length+q.2.2.2.length≤1000000):ah prog 48 [.agg (zN (Int.gcd (rzv (q.1,q.2.1)) (rzv (q.2.2.1,q.2.2.2)):Int)),.agg (zN 1)] (.v (.bool (decide (Int.gcd (rzv (q.1,q.2.1)) (rzv (q.2.2.1,q.2.2.2))=1)))):=by
 haveI b1:Bd (rzv (q.1,q.2.1)) q.2.1.length:=⟨(ZQ.raw (b:=q.1) hs.1 (Nat.le_refl _)).b⟩
 haveI b2:Bd (rzv (q.2.2.1,q.2.2.2)) q.2.2.2.length:=⟨(ZQ.raw (b:=q.2.2.1) hs.2 (Nat.le_refl _)).b⟩
 haveI b3:Bd (Int.gcd (rzv (q.1,q.2.1)) (rzv (q.2.2.1,q.2.2.2)):Int) (q.2.1.length+q.2.2.2.length):=⟨by rw[Int.natAbs_natCast];exact(BdN.igcd _ _ _ _).h⟩
 have h:=(akQ (l:=zN (Int.gcd (rzv (q.1,q.2.1)) (rzv (q.2.2.1,q.2.2.2)):Int)) (l':=zN 1)).h (show q.2.1.length+q.2.2.2.length+1≤1099511627774 by omega)
 rw[show decide ((Int.gcd (rzv (q.1,q.2.1)) (rzv (q.2.2.1,q.2.2.2)):Int)=1)=decide (Int.gcd (rzv (q.1,q.2.1)) (rzv (q.2.2.1,q.2.2.2))=1)from decide_eq_decide.2 (by omega)]at h
 exact h
theorem aii(q:fV)(hs:Sm WB q.2.1∧Sm WB q.2.2.2)(hl:q.2.1.length+q.2.2.2.length≤1000000):ah prog 27 [.agg (q4A (rq q))] (.v (.bool (qOk q))):=by
 have c1:=acH (q.1,q.2.1) (by dsimp only;omega)
 have c2:=acH (q.2.2.1,q.2.2.2) (by dsimp only;omega)
 have cS:=lC (h:=ZI.raw q.2.2.1 q.2.2.2).h (show q.2.2.2.length≤1099511627775 by omega)
 have cG:=(afx (h:=ZI.raw q.1 q.2.1) (h':=ZI.raw q.2.2.1 q.2.2.2)).h (show q.2.1.length+q.2.2.2.length≤1099511627760 by omega)
 have o1:=akH;have cE:=asw q hs hl;unfold qOk;have hsg:=anh (rzv (q.2.2.1,q.2.2.2));change ah _ _ _ (.v (.int .i64 (aV (rzv (q.2.2.1,q.2.2.2)))))at cS
 change ah _ _ _ (.agg (zN (Int.gcd (rzv (q.1,q.2.1)) (rzv (q.2.2.1,q.2.2.2)):Int)))at cG
 generalize rzv (q.2.2.1,q.2.2.2)=z at*;refine ah.fnF func27 results27 ntmps27 rfl rfl rfl (by simp[AV.ids,AV0.ids,Atom.ids]) rfl (fun w0 T B E0 hB=>?_)
 cases h1:zOk (q.1,q.2.1)
 ·rw[h1]at c1;refine SX.goM ?_;exact aJ rfl
 ·rw[h1]at c1;cases h2:zOk (q.2.2.1,q.2.2.2)
  ·rw[h2]at c2;refine SX.goM ?_;exact aJ rfl
  ·rw[h2]at c2;by_cases h3:0 < z
   ·refine SX.goM ?_;refine aJ ?_;rw[decide_eq_true h3];rfl
   ·refine SX.goM ?_;refine aJ ?_;rw[decide_eq_false h3];rfl
theorem agn(q:fV)(hs:Sm WB q.2.1∧Sm WB q.2.2.2)(hl:q.2.1.length+q.2.2.2.length≤1000000):ah prog 91 [.agg (q4A (rq q))] (.v (.bool (qOk q))):=by
 have c1:=sM (q.1,q.2.1) (by dsimp only;omega)
 have c2:=sM (q.2.2.1,q.2.2.2) (by dsimp only;omega)
 have cS:=lC (h:=ZI.raw q.2.2.1 q.2.2.2).h (show q.2.2.2.length≤1099511627775 by omega)
 have cG:=(afx (h:=ZI.raw q.1 q.2.1) (h':=ZI.raw q.2.2.1 q.2.2.2)).h (show q.2.1.length+q.2.2.2.length≤1099511627760 by omega)
 have o1:=akH;have cE:=asw q hs hl;unfold qOk;have hsg:=anh (rzv (q.2.2.1,q.2.2.2));change ah _ _ _ (.v (.int .i64 (aV (rzv (q.2.2.1,q.2.2.2)))))at cS
 change ah _ _ _ (.agg (zN (Int.gcd (rzv (q.1,q.2.1)) (rzv (q.2.2.1,q.2.2.2)):Int)))at cG
 generalize rzv (q.2.2.1,q.2.2.2)=z at*;refine ah.fnF func91 results91 ntmps91 rfl rfl rfl (by simp[AV.ids,AV0.ids,Atom.ids]) rfl (fun w0 T B E0 hB=>?_)
 cases h1:zOk (q.1,q.2.1)
 ·rw[h1]at c1;refine SX.goM ?_;exact aJ rfl
 ·rw[h1]at c1;cases h2:zOk (q.2.2.1,q.2.2.2)
  ·rw[h2]at c2;refine SX.goM ?_;exact aJ rfl
  ·rw[h2]at c2;by_cases h3:0 < z
   ·refine SX.goM ?_;refine aJ ?_;rw[decide_eq_true h3];rfl
   ·refine SX.goM ?_;refine aJ ?_;rw[decide_eq_false h3];rfl
theorem an6(l:List fV)(x:CA)(p:fV→Bool)(hx:∀v∈l,FnV prog x [.agg (q4A (rq v))] (.v (.bool (p v))))(hl:l.length≤100000)(hx1:x.dK=true):
  ah prog 148 [.r (aA 4 q4C (l.map rq)),.it (.one (.c x))] (.v (.int .i64 (fi p l 0))):=by
 have hlen:(l.map rq).length=l.length:=zq5 _;refine ah.fnF func148 results148 ntmps148 rfl rfl rfl (by simp[AV.ids,AV0.ids,Atom.ids]) rfl (fun w0 T B E0 hB=>?_)
 refine SX.goM ?_;refine W.loop (fun k=>k≤l.length∧fi p (l.drop k) k=fi p l 0) (fun k=>[(0,.r (aA 4 q4C (l.map rq))),(1,.it (.one (.c x))),(7,.v (.int .i64 (l.length:Int))),(8,.v (.int .i64 (k:Int)))]) (fun _=>[]) (fun k=>l.length - k) 0 ⟨Nat.zero_le _,rfl⟩ (fun k ⟨hk,he⟩=>?_)
 by_cases h:k < l.length
 ·obtain⟨r,hr⟩:∃r,l[k]? =some r:=⟨_,zq2 h⟩
  have hf:=hx r (zq4 hr);have hq:(l.map rq)[k]? =some (rq r):=by rw[List.getElem?_map,hr];rfl
  have h':k < (l.map rq).length:=by rw[zq5];exact h
  rw[rD hr]at he;cases hp:p r with
  |true=>
   rw[hp]at hf he;refine SX.goM ?_;refine gK ?_;rw[←he];rfl
  |false=>
   rw[hp]at hf he;refine SX.goM ?_;exact W.next (k+1) ⟨h,he⟩ (by omega)
 ·obtain rfl:k=l.length:=by omega
  rw[List.drop_length]at he;have h':¬l.length < (l.map rq).length:=by rw[zq5];omega
  refine SX.goM ?_;refine gK ?_;rw[←he];rfl
theorem aot(l:List fV)(x:CA)(p:fV→Bool)(hx:∀v∈l,FnV prog x [.agg (q4A (rq v))] (.v (.bool (p v))))(hl:l.length≤100000)(hx1:x.dK=true):
  ah prog 93 [.r (aA 4 q4C (l.map rq)),.it (.one (.c x))] (.v (.bool (l.any p))):=by
 have c:=an6 l x p hx hl hx1;rw[←adF];refine ah.fnF func93 results93 ntmps93 rfl rfl rfl (by simp[AV.ids,AV0.ids,Atom.ids]) rfl (fun w0 T B E0 hB=>?_)
 refine SX.goM ?_;refine aJ ?_;rw[decide_eq_decide];omega
theorem alA(l:List fV)(f:FuncId)(p:fV→Bool)(hx:∀v∈l,ah prog f [.agg (q4A (rq v))] (.v (.bool (p v))))(hl:l.length≤100000):
  ah prog 93 [.r (aA 4 q4C (l.map rq)),.it (.one (.clo f []))] (.v (.bool (l.any p))):=
 weakArgs (aot l (.sat (dP f [] [])) p (fun v h=>FnV.const (hx v h)) hl rfl) fun E S w vs hv=>by
  match vs,hv with
  |[u1,u2],⟨h1,h2,_⟩=>exact⟨h1,anp h2,trivial⟩
theorem apa(l:List kW)(x:CA)(p:kW→Bool)(hx:∀v∈l,FnV prog x [.agg (z2A (rz v))] (.v (.bool (p v))))(hl:l.length≤100000)(hx1:x.dK=true):
  ah prog 149 [.r (aA 2 z2C (l.map rz)),.it (.one (.c x))] (.v (.int .i64 (fi p l 0))):=by
 have hlen:(l.map rz).length=l.length:=zq5 _;refine ah.fnF func149 results149 ntmps149 rfl rfl rfl (by simp[AV.ids,AV0.ids,Atom.ids]) rfl (fun w0 T B E0 hB=>?_)
 refine SX.goM ?_;refine W.loop (fun k=>k≤l.length∧fi p (l.drop k) k=fi p l 0) (fun k=>[(0,.r (aA 2 z2C (l.map rz))),(1,.it (.one (.c x))),(7,.v (.int .i64 (l.length:Int))),(8,.v (.int .i64 (k:Int)))]) (fun _=>[]) (fun k=>l.length - k) 0 ⟨Nat.zero_le _,rfl⟩ (fun k ⟨hk,he⟩=>?_)
 by_cases h:k < l.length
 ·obtain⟨r,hr⟩:∃r,l[k]? =some r:=⟨_,zq2 h⟩
  have hf:=hx r (zq4 hr);have hq:(l.map rz)[k]? =some (rz r):=by rw[List.getElem?_map,hr];rfl
  have h':k < (l.map rz).length:=by rw[zq5];exact h
  rw[rD hr]at he;cases hp:p r with
  |true=>
   rw[hp]at hf he;refine SX.goM ?_;refine gK ?_;rw[←he];rfl
  |false=>
   rw[hp]at hf he;refine SX.goM ?_;exact W.next (k+1) ⟨h,he⟩ (by omega)
 ·obtain rfl:k=l.length:=by omega
  rw[List.drop_length]at he;have h':¬l.length < (l.map rz).length:=by rw[zq5];omega
  refine SX.goM ?_;refine gK ?_;rw[←he];rfl
theorem apk(l:List kW)(x:CA)(p:kW→Bool)(hx:∀v∈l,FnV prog x [.agg (z2A (rz v))] (.v (.bool (p v))))(hl:l.length≤100000)(hx1:x.dK=true):
  ah prog 95 [.r (aA 2 z2C (l.map rz)),.it (.one (.c x))] (.v (.bool (l.any p))):=by
 have c:=apa l x p hx hl hx1;rw[←adF];refine ah.fnF func95 results95 ntmps95 rfl rfl rfl (by simp[AV.ids,AV0.ids,Atom.ids]) rfl (fun w0 T B E0 hB=>?_)
 refine SX.goM ?_;refine aJ ?_;rw[decide_eq_decide];omega
theorem akF(l:List kW)(f:FuncId)(p:kW→Bool)(hx:∀v∈l,ah prog f [.agg (z2A (rz v))] (.v (.bool (p v))))(hl:l.length≤100000):
  ah prog 95 [.r (aA 2 z2C (l.map rz)),.it (.one (.clo f []))] (.v (.bool (l.any p))):=
 weakArgs (apk l (.sat (dP f [] [])) p (fun v h=>FnV.const (hx v h)) hl rfl) fun E S w vs hv=>by
  match vs,hv with
  |[u1,u2],⟨h1,h2,_⟩=>exact⟨h1,anp h2,trivial⟩
theorem apI(l:List Nat)(x:CA)(p:Nat→Bool)(hx:∀v∈l,FnV prog x [.v (.int .u64 (v:Int))] (.v (.bool (p v))))(hl:l.length≤100000)(hx1:x.dK=true):
  ah prog 196 [.r (aA 1 wdC l),.it (.one (.c x))] (.v (.int .i64 (fi p l 0))):=by
 refine ah.fnF func196 results196 ntmps196 rfl rfl rfl (by simp[AV.ids,AV0.ids,Atom.ids]) rfl (fun w0 T B E0 hB=>?_)
 refine SX.goM ?_;refine W.loop (fun k=>k≤l.length∧fi p (l.drop k) k=fi p l 0) (fun k=>[(0,.r (aA 1 wdC l)),(1,.it (.one (.c x))),(7,.v (.int .i64 (l.length:Int))),(8,.v (.int .i64 (k:Int)))]) (fun _=>[]) (fun k=>l.length - k) 0 ⟨Nat.zero_le _,rfl⟩ (fun k ⟨hk,he⟩=>?_)
 by_cases h:k < l.length
 ·obtain⟨r,hr⟩:∃r,l[k]? =some r:=⟨_,zq2 h⟩
  have hf:=hx r (zq4 hr);rw[rD hr]at he;cases hp:p r with
  |true=>
   rw[hp]at hf he;refine SX.goM ?_;refine gK ?_;rw[←he];rfl
  |false=>
   rw[hp]at hf he;refine SX.goM ?_;exact W.next (k+1) ⟨h,he⟩ (by omega)
 ·obtain rfl:k=l.length:=by omega
  rw[List.drop_length]at he;refine SX.goM ?_;refine gK ?_;rw[←he];rfl
theorem aou(l:List Nat)(x:CA)(p:Nat→Bool)(hx:∀v∈l,FnV prog x [.v (.int .u64 (v:Int))] (.v (.bool (p v))))(hl:l.length≤100000)(hx1:x.dK=true):
  ah prog 152 [.r (aA 1 wdC l),.it (.one (.c x))] (.v (.bool (l.any p))):=by
 have c:=apI l x p hx hl hx1;rw[←adF];refine ah.fnF func152 results152 ntmps152 rfl rfl rfl (by simp[AV.ids,AV0.ids,Atom.ids]) rfl (fun w0 T B E0 hB=>?_)
 refine SX.goM ?_;refine aJ ?_;rw[decide_eq_decide];omega
theorem anf(l:List Vl)(x:CA)(p:Vl→Bool)(hx:∀v∈l,FnV prog x [.agg (vlA v)] (.v (.bool (p v))))(hl:l.length≤100000)(hx1:x.dK=true):
  ah prog 154 [.r (aA 15 vlC l),.it (.one (.c x))] (.v (.int .i64 (fi p l 0))):=by
 rw[uV];refine ah.fnF func154 results154 ntmps154 rfl rfl rfl (by simp[AV.ids,AV0.ids,Atom.ids]) rfl (fun w0 T B E0 hB=>?_)
 refine SX.goM ?_;refine W.loop (fun k=>k≤l.length∧fi p (l.drop k) k=fi p l 0) (fun k=>[(0,.r (aA 15 vlE l)),(1,.it (.one (.c x))),(7,.v (.int .i64 (l.length:Int))),(8,.v (.int .i64 (k:Int)))]) (fun _=>[]) (fun k=>l.length - k) 0 ⟨Nat.zero_le _,rfl⟩ (fun k ⟨hk,he⟩=>?_)
 by_cases h:k < l.length
 ·obtain⟨r,hr⟩:∃r,l[k]? =some r:=⟨_,zq2 h⟩
  have hf:=hx r (zq4 hr);rw[rD hr]at he;cases hp:p r with
  |true=>
   rw[hp]at hf he;refine SX.goM ?_;refine gK ?_;rw[←he];rfl
  |false=>
   rw[hp]at hf he;refine SX.goM ?_;exact W.next (k+1) ⟨h,he⟩ (by omega)
 ·obtain rfl:k=l.length:=by omega
  rw[List.drop_length]at he;refine SX.goM ?_;refine gK ?_;rw[←he];rfl
theorem an5(l:List Vl)(x:CA)(p:Vl→Bool)(hx:∀v∈l,FnV prog x [.agg (vlA v)] (.v (.bool (p v))))(hl:l.length≤100000)(hx1:x.dK=true):
  ah prog 100 [.r (aA 15 vlC l),.it (.one (.c x))] (.v (.bool (l.any p))):=by
 have c:=anf l x p hx hl hx1;rw[←adF];refine ah.fnF func100 results100 ntmps100 rfl rfl rfl (by simp[AV.ids,AV0.ids,Atom.ids]) rfl (fun w0 T B E0 hB=>?_)
 refine SX.goM ?_;refine aJ ?_;rw[decide_eq_decide];omega
end
section
theorem vP0(v:Vl):vP v=0↔(v.k=1∨(v.q.2.1.length=0∧v.q.2.2.2.length=0∧v.q.1=false∧v.q.2.2.1=false))∧(v.k=2∨(v.r=0∧v.c=0∧v.a.length=0))∧(v.k=3∨v.po.length=0)∧(v.k=4∨(v.fr=0∧v.fc=0∧v.fa.length=0))∧(v.k=5∨v.ri.length=0)∧(v.k=4∨v.k=5∨v.p=0)∧(v.k=6∨v.li.length=0):=by
 have e:∀(p:Prop) [Decidable p],pt p=0↔¬p:=fun p _=>by unfold pt;split <;> simp_all
 unfold vP;rw[Nat.add_eq_zero_iff,Nat.add_eq_zero_iff,Nat.add_eq_zero_iff,Nat.add_eq_zero_iff,Nat.add_eq_zero_iff,Nat.add_eq_zero_iff,e,e,e,e,e,e,e,←adN];constructor
 ·rintro⟨⟨⟨⟨⟨⟨h1,h2⟩,h3⟩,h4⟩,h5⟩,h6⟩,h7⟩;refine⟨?_,by omega,by omega,by omega,by omega,by omega,by omega⟩
  by_cases h:v.k=1
  ·exact .inl h
  ·exact .inr (Decidable.byContradiction fun h'=>h1 ⟨h,h'⟩)
 ·rintro⟨h1,h2,h3,h4,h5,h6,h7⟩;refine⟨⟨⟨⟨⟨⟨?_,by omega⟩,by omega⟩,by omega⟩,by omega⟩,by omega⟩,by omega⟩
  rintro⟨h,h'⟩;exact h1.elim h h'
theorem mV{b:Bool}{l:List Nat}(h:l.length=0):bitLen (sgn b (nval WB l)).natAbs=0:=by
 rw[List.eq_nil_of_length_eq_zero h];cases b <;> rfl
def kiC(k:Int):List CA:=[.val (.int .i64 k)]
instance:dO kiC 1:=⟨fun _=>rfl⟩
attribute [local irreducible] IntKind.wrap Go1 Reg WP aS aT bR bO aQ aC ak aj aX Sat
attribute [local irreducible] bT bX bY dw bZ qv dR mf
theorem apA(l:List Int)(i:Int)(hl:l.length≤1000):ah prog 195 [.r (aA 1 kiC l),.v (.int .i64 i)] (.v (.int .i64 (fi (fun a=>decide (i=a)) l 0))):=by
 refine ah.fnF func195 results195 ntmps195 rfl rfl rfl (by simp[AV.ids,AV0.ids,Atom.ids]) rfl (fun w0 T B E0 hB=>?_)
 refine SX.goM ?_;refine W.loop (fun k=>k≤l.length∧fi (fun a=>decide (i=a)) (l.drop k) k=fi (fun a=>decide (i=a)) l 0) (fun k=>[(0,.r (aA 1 kiC l)),(1,.v (.int .i64 i)),(7,.v (.int .i64 (l.length:Int))),(8,.v (.int .i64 (k:Int)))]) (fun _=>[]) (fun k=>l.length - k) 0 ⟨Nat.zero_le _,rfl⟩ (fun k ⟨hk,he⟩=>?_)
 by_cases h:k < l.length
 ·obtain⟨r,hr⟩:∃r,l[k]? =some r:=⟨_,zq2 h⟩
  rw[rD hr]at he;by_cases hp:i=r
  ·rw[if_pos (decide_eq_true hp)]at he;refine SX.goM ?_;exact gK he
  ·rw[if_neg (by rw[decide_eq_false hp];decide)]at he
   refine SX.goM ?_;exact W.next (k+1) ⟨h,he⟩ (by omega)
 ·obtain rfl:k=l.length:=by omega
  rw[List.drop_length]at he;refine SX.goM ?_;refine gK ?_;rw[←he];rfl
theorem akA(k i:Int):ah prog 146 [.r (aA 1 kiC [k]),.v (.int .i64 i)] (.v (.bool (decide (i=k)))):=by
 have c:=apA [k] i (by rw[List.length_singleton];decide)
 refine ah.fnF func146 results146 ntmps146 rfl rfl rfl (by simp[AV.ids,AV0.ids,Atom.ids]) rfl (fun w0 T B E0 hB=>?_)
 have e:fi (fun a=>decide (i=a)) [k] 0=if i=k then 0 else -1:=by
  unfold fi;by_cases h:i=k
  ·rw[if_pos (decide_eq_true h),if_pos h];rfl
  ·rw[if_neg (by rw[decide_eq_false h];decide),if_neg h];rfl
 rw[e]at c;by_cases h:i=k
 ·rw[if_pos h]at c;refine SX.goM ?_;refine aJ ?_;rw[decide_eq_true h];first|rfl|decide
 ·rw[if_neg h]at c;refine SX.goM ?_;refine aJ ?_;rw[decide_eq_false h];first|rfl|decide
theorem aN(k i:Int):ah prog 145 [.v (.int .i64 i),.r (bJ [.sat (aA 1 kiC [k])])] (.v (.bool (!decide (i=k)))):=by
 have c:=akA k i;refine ah.fnF func145 results145 ntmps145 rfl rfl rfl (by simp[AV.ids,AV0.ids,Atom.ids]) rfl (fun w0 T B E0 hB=>?_)
 refine SX.goM ?_;exact aJ rfl
structure vZ0(v:Vl):Prop where
 q:(Sm WB v.q.2.1∧Sm WB v.q.2.2.2)∧v.q.2.1.length≤100000∧v.q.2.2.2.length≤100000
 a:∀x∈v.a,(Sm WB x.2.1∧Sm WB x.2.2.2)∧x.2.1.length≤100000∧x.2.2.2.length≤100000
 al:v.a.length≤100000
 po:∀x∈v.po,Sm WB x.2∧x.2.length≤100000
 pol:v.po.length≤100000
 p:v.p < WB
 fa:∀x∈v.fa,x < WB
 fal:v.fa.length≤100000
 ri:∀x∈v.ri,x < WB
 ril:v.ri.length≤100000
 lil:v.li.length≤100000
set_option maxRecDepth 20000 in
set_option maxHeartbeats 2000000 in
theorem afi(v:Vl)(hz:vZ0 v)(hk:v.k=1):ah prog 90 [.agg (vlA v),.r (aA 1 kiC [v.k])] (.v (.bool (decide (vP v=0)))):=by
 have c1:FnV prog (.sat (dP 145 [] [.sat (bJ [.sat (aA 1 kiC [v.k])])])) [.v (.int .i64 1)] (.v (.bool (!decide (1=v.k)))):=FnV.clo (aN v.k 1);have c2:FnV prog (.sat (dP 145 [] [.sat (bJ [.sat (aA 1 kiC [v.k])])])) [.v (.int .i64 2)] (.v (.bool (!decide (2=v.k)))):=FnV.clo (aN v.k 2);have c3:FnV prog (.sat (dP 145 [] [.sat (bJ [.sat (aA 1 kiC [v.k])])])) [.v (.int .i64 3)] (.v (.bool (!decide (3=v.k)))):=FnV.clo (aN v.k 3);have c4:FnV prog (.sat (dP 145 [] [.sat (bJ [.sat (aA 1 kiC [v.k])])])) [.v (.int .i64 4)] (.v (.bool (!decide (4=v.k)))):=FnV.clo (aN v.k 4);have c5:FnV prog (.sat (dP 145 [] [.sat (bJ [.sat (aA 1 kiC [v.k])])])) [.v (.int .i64 5)] (.v (.bool (!decide (5=v.k)))):=FnV.clo (aN v.k 5);have c6:FnV prog (.sat (dP 145 [] [.sat (bJ [.sat (aA 1 kiC [v.k])])])) [.v (.int .i64 6)] (.v (.bool (!decide (6=v.k)))):=FnV.clo (aN v.k 6);have cb1:=(eu (h:=ZI.raw v.q.1 v.q.2.1)).h (show v.q.2.1.length≤1099511627775 by have:=hz.q.2.1;omega)
 have cb2:=(eu (h:=ZI.raw v.q.2.2.1 v.q.2.2.2)).h (show v.q.2.2.2.length≤1099511627775 by have:=hz.q.2.2;omega)
 have hP:=vP0 v;have f1:=mV (b:=v.q.1) (l:=v.q.2.1);have f2:=mV (b:=v.q.2.2.1) (l:=v.q.2.2.2);have b1:=hz.q.2.1;have b2:=hz.q.2.2;have b3:=hz.al;have b4:=hz.pol;have b5:=hz.fal;have b6:=hz.ril;have b7:=hz.lil;have l1:(v.a.map rq).length=v.a.length:=zq5 _;have l2:(v.po.map rz).length=v.po.length:=zq5 _;refine ah.fnF func90 results90 ntmps90 rfl rfl rfl (by simp[AV.ids,AV0.ids,Atom.ids]) rfl (fun w0 T B E0 hB=>?_)
 refine SX.goM ?_;refine SX.WP.eP 3 hB rfl rfl ?_;refine SX.WP.aF ?_;have k0:v.k=1:=hk;have e1:(!decide ((1:Int)=v.k))=false:=by rw[k0];rfl
 have e2:(!decide ((2:Int)=v.k))=true:=by rw[k0];rfl
 have e3:(!decide ((3:Int)=v.k))=true:=by rw[k0];rfl
 have e4:(!decide ((4:Int)=v.k))=true:=by rw[k0];rfl
 have e5:(!decide ((5:Int)=v.k))=true:=by rw[k0];rfl
 have e6:(!decide ((6:Int)=v.k))=true:=by rw[k0];rfl
 rw[e1]at c1;rw[e2]at c2;rw[e3]at c3;rw[e4]at c4;rw[e5]at c5;rw[e6]at c6;clear e1 e2 e3 e4 e5 e6
 repeat'(first|refine SX.goM ?_|refine SX.W.ite (fun h=>?_) (fun h=>?_)|refine SX.W.iteN (fun h=>?_) (fun h=>?_)|refine SX.W.eT (fun h=>?_) (fun h=>?_)|refine SX.R.ite (fun h=>?_) (fun h=>?_)|refine SX.R.iteN (fun h=>?_) (fun h=>?_)|refine SX.R.eT (fun h=>?_) (fun h=>?_))
 all_goals
  refine aJ ?_;refine Bool.eq_iff_iff.2 (Iff.trans ?_ decide_eq_true_iff.symm);rw[hP];constructor
  ·intro hh;first
    |(cases hh;done)
    |(try rw[decide_eq_true_iff]at hh
      refine⟨?_,?_,?_,?_,?_,?_,?_⟩ <;> first|omega|(refine .inr ⟨?_,?_,?_,?_⟩ <;> first|omega|assumption))
  ·rintro⟨h1,h2,h3,h4,h5,h6,h7⟩;first
    |rfl
    |(rw[decide_eq_true_iff];omega)
    |(exfalso;first|omega|(rcases h1 with h1|⟨g1,g2,g3,g4⟩ <;> first|omega|(clear c1 c2 c3 c4 c5 c6 f1 f2 hP;simp_all;done)))
set_option maxRecDepth 20000 in
set_option maxHeartbeats 2000000 in
theorem aeQ(v:Vl)(hz:vZ0 v)(hk:v.k=2):ah prog 90 [.agg (vlA v),.r (aA 1 kiC [v.k])] (.v (.bool (decide (vP v=0)))):=by
 have c1:FnV prog (.sat (dP 145 [] [.sat (bJ [.sat (aA 1 kiC [v.k])])])) [.v (.int .i64 1)] (.v (.bool (!decide (1=v.k)))):=FnV.clo (aN v.k 1);have c2:FnV prog (.sat (dP 145 [] [.sat (bJ [.sat (aA 1 kiC [v.k])])])) [.v (.int .i64 2)] (.v (.bool (!decide (2=v.k)))):=FnV.clo (aN v.k 2);have c3:FnV prog (.sat (dP 145 [] [.sat (bJ [.sat (aA 1 kiC [v.k])])])) [.v (.int .i64 3)] (.v (.bool (!decide (3=v.k)))):=FnV.clo (aN v.k 3);have c4:FnV prog (.sat (dP 145 [] [.sat (bJ [.sat (aA 1 kiC [v.k])])])) [.v (.int .i64 4)] (.v (.bool (!decide (4=v.k)))):=FnV.clo (aN v.k 4);have c5:FnV prog (.sat (dP 145 [] [.sat (bJ [.sat (aA 1 kiC [v.k])])])) [.v (.int .i64 5)] (.v (.bool (!decide (5=v.k)))):=FnV.clo (aN v.k 5);have c6:FnV prog (.sat (dP 145 [] [.sat (bJ [.sat (aA 1 kiC [v.k])])])) [.v (.int .i64 6)] (.v (.bool (!decide (6=v.k)))):=FnV.clo (aN v.k 6);have cb1:=(eu (h:=ZI.raw v.q.1 v.q.2.1)).h (show v.q.2.1.length≤1099511627775 by have:=hz.q.2.1;omega)
 have cb2:=(eu (h:=ZI.raw v.q.2.2.1 v.q.2.2.2)).h (show v.q.2.2.2.length≤1099511627775 by have:=hz.q.2.2;omega)
 have hP:=vP0 v;have f1:=mV (b:=v.q.1) (l:=v.q.2.1);have f2:=mV (b:=v.q.2.2.1) (l:=v.q.2.2.2);have b1:=hz.q.2.1;have b2:=hz.q.2.2;have b3:=hz.al;have b4:=hz.pol;have b5:=hz.fal;have b6:=hz.ril;have b7:=hz.lil;have l1:(v.a.map rq).length=v.a.length:=zq5 _;have l2:(v.po.map rz).length=v.po.length:=zq5 _;refine ah.fnF func90 results90 ntmps90 rfl rfl rfl (by simp[AV.ids,AV0.ids,Atom.ids]) rfl (fun w0 T B E0 hB=>?_)
 refine SX.goM ?_;refine SX.WP.eP 3 hB rfl rfl ?_;refine SX.WP.aF ?_;have k0:v.k=2:=hk;have e1:(!decide ((1:Int)=v.k))=true:=by rw[k0];rfl
 have e2:(!decide ((2:Int)=v.k))=false:=by rw[k0];rfl
 have e3:(!decide ((3:Int)=v.k))=true:=by rw[k0];rfl
 have e4:(!decide ((4:Int)=v.k))=true:=by rw[k0];rfl
 have e5:(!decide ((5:Int)=v.k))=true:=by rw[k0];rfl
 have e6:(!decide ((6:Int)=v.k))=true:=by rw[k0];rfl
 rw[e1]at c1;rw[e2]at c2;rw[e3]at c3;rw[e4]at c4;rw[e5]at c5;rw[e6]at c6;clear e1 e2 e3 e4 e5 e6
 repeat'(first|refine SX.goM ?_|refine SX.W.ite (fun h=>?_) (fun h=>?_)|refine SX.W.iteN (fun h=>?_) (fun h=>?_)|refine SX.W.eT (fun h=>?_) (fun h=>?_)|refine SX.R.ite (fun h=>?_) (fun h=>?_)|refine SX.R.iteN (fun h=>?_) (fun h=>?_)|refine SX.R.eT (fun h=>?_) (fun h=>?_))
 all_goals
  refine aJ ?_;refine Bool.eq_iff_iff.2 (Iff.trans ?_ decide_eq_true_iff.symm);rw[hP];constructor
  ·intro hh;first
    |(cases hh;done)
    |(try rw[decide_eq_true_iff]at hh
      refine⟨?_,?_,?_,?_,?_,?_,?_⟩ <;> first|omega|(refine .inr ⟨?_,?_,?_,?_⟩ <;> first|omega|assumption))
  ·rintro⟨h1,h2,h3,h4,h5,h6,h7⟩;first
    |rfl
    |(rw[decide_eq_true_iff];omega)
    |(exfalso;first|omega|(rcases h1 with h1|⟨g1,g2,g3,g4⟩ <;> first|omega|(clear c1 c2 c3 c4 c5 c6 f1 f2 hP;simp_all;done)))
set_option maxRecDepth 20000 in
set_option maxHeartbeats 2000000 in
theorem aeo(v:Vl)(hz:vZ0 v)(hk:v.k=3):ah prog 90 [.agg (vlA v),.r (aA 1 kiC [v.k])] (.v (.bool (decide (vP v=0)))):=by
 have c1:FnV prog (.sat (dP 145 [] [.sat (bJ [.sat (aA 1 kiC [v.k])])])) [.v (.int .i64 1)] (.v (.bool (!decide (1=v.k)))):=FnV.clo (aN v.k 1);have c2:FnV prog (.sat (dP 145 [] [.sat (bJ [.sat (aA 1 kiC [v.k])])])) [.v (.int .i64 2)] (.v (.bool (!decide (2=v.k)))):=FnV.clo (aN v.k 2);have c3:FnV prog (.sat (dP 145 [] [.sat (bJ [.sat (aA 1 kiC [v.k])])])) [.v (.int .i64 3)] (.v (.bool (!decide (3=v.k)))):=FnV.clo (aN v.k 3);have c4:FnV prog (.sat (dP 145 [] [.sat (bJ [.sat (aA 1 kiC [v.k])])])) [.v (.int .i64 4)] (.v (.bool (!decide (4=v.k)))):=FnV.clo (aN v.k 4);have c5:FnV prog (.sat (dP 145 [] [.sat (bJ [.sat (aA 1 kiC [v.k])])])) [.v (.int .i64 5)] (.v (.bool (!decide (5=v.k)))):=FnV.clo (aN v.k 5);have c6:FnV prog (.sat (dP 145 [] [.sat (bJ [.sat (aA 1 kiC [v.k])])])) [.v (.int .i64 6)] (.v (.bool (!decide (6=v.k)))):=FnV.clo (aN v.k 6);have cb1:=(eu (h:=ZI.raw v.q.1 v.q.2.1)).h (show v.q.2.1.length≤1099511627775 by have:=hz.q.2.1;omega)
 have cb2:=(eu (h:=ZI.raw v.q.2.2.1 v.q.2.2.2)).h (show v.q.2.2.2.length≤1099511627775 by have:=hz.q.2.2;omega)
 have hP:=vP0 v;have f1:=mV (b:=v.q.1) (l:=v.q.2.1);have f2:=mV (b:=v.q.2.2.1) (l:=v.q.2.2.2);have b1:=hz.q.2.1;have b2:=hz.q.2.2;have b3:=hz.al;have b4:=hz.pol;have b5:=hz.fal;have b6:=hz.ril;have b7:=hz.lil;have l1:(v.a.map rq).length=v.a.length:=zq5 _;have l2:(v.po.map rz).length=v.po.length:=zq5 _;refine ah.fnF func90 results90 ntmps90 rfl rfl rfl (by simp[AV.ids,AV0.ids,Atom.ids]) rfl (fun w0 T B E0 hB=>?_)
 refine SX.goM ?_;refine SX.WP.eP 3 hB rfl rfl ?_;refine SX.WP.aF ?_;have k0:v.k=3:=hk;have e1:(!decide ((1:Int)=v.k))=true:=by rw[k0];rfl
 have e2:(!decide ((2:Int)=v.k))=true:=by rw[k0];rfl
 have e3:(!decide ((3:Int)=v.k))=false:=by rw[k0];rfl
 have e4:(!decide ((4:Int)=v.k))=true:=by rw[k0];rfl
 have e5:(!decide ((5:Int)=v.k))=true:=by rw[k0];rfl
 have e6:(!decide ((6:Int)=v.k))=true:=by rw[k0];rfl
 rw[e1]at c1;rw[e2]at c2;rw[e3]at c3;rw[e4]at c4;rw[e5]at c5;rw[e6]at c6;clear e1 e2 e3 e4 e5 e6
 repeat'(first|refine SX.goM ?_|refine SX.W.ite (fun h=>?_) (fun h=>?_)|refine SX.W.iteN (fun h=>?_) (fun h=>?_)|refine SX.W.eT (fun h=>?_) (fun h=>?_)|refine SX.R.ite (fun h=>?_) (fun h=>?_)|refine SX.R.iteN (fun h=>?_) (fun h=>?_)|refine SX.R.eT (fun h=>?_) (fun h=>?_))
 all_goals
  refine aJ ?_;refine Bool.eq_iff_iff.2 (Iff.trans ?_ decide_eq_true_iff.symm);rw[hP];constructor
  ·intro hh;first
    |(cases hh;done)
    |(try rw[decide_eq_true_iff]at hh
      refine⟨?_,?_,?_,?_,?_,?_,?_⟩ <;> first|omega|(refine .inr ⟨?_,?_,?_,?_⟩ <;> first|omega|assumption))
  ·rintro⟨h1,h2,h3,h4,h5,h6,h7⟩;first
    |rfl
    |(rw[decide_eq_true_iff];omega)
    |(exfalso;first|omega|(rcases h1 with h1|⟨g1,g2,g3,g4⟩ <;> first|omega|(clear c1 c2 c3 c4 c5 c6 f1 f2 hP;simp_all;done)))
set_option maxRecDepth 20000 in
set_option maxHeartbeats 2000000 in
theorem afD(v:Vl)(hz:vZ0 v)(hk:v.k=4):ah prog 90 [.agg (vlA v),.r (aA 1 kiC [v.k])] (.v (.bool (decide (vP v=0)))):=by
 have c1:FnV prog (.sat (dP 145 [] [.sat (bJ [.sat (aA 1 kiC [v.k])])])) [.v (.int .i64 1)] (.v (.bool (!decide (1=v.k)))):=FnV.clo (aN v.k 1);have c2:FnV prog (.sat (dP 145 [] [.sat (bJ [.sat (aA 1 kiC [v.k])])])) [.v (.int .i64 2)] (.v (.bool (!decide (2=v.k)))):=FnV.clo (aN v.k 2);have c3:FnV prog (.sat (dP 145 [] [.sat (bJ [.sat (aA 1 kiC [v.k])])])) [.v (.int .i64 3)] (.v (.bool (!decide (3=v.k)))):=FnV.clo (aN v.k 3);have c4:FnV prog (.sat (dP 145 [] [.sat (bJ [.sat (aA 1 kiC [v.k])])])) [.v (.int .i64 4)] (.v (.bool (!decide (4=v.k)))):=FnV.clo (aN v.k 4);have c5:FnV prog (.sat (dP 145 [] [.sat (bJ [.sat (aA 1 kiC [v.k])])])) [.v (.int .i64 5)] (.v (.bool (!decide (5=v.k)))):=FnV.clo (aN v.k 5);have c6:FnV prog (.sat (dP 145 [] [.sat (bJ [.sat (aA 1 kiC [v.k])])])) [.v (.int .i64 6)] (.v (.bool (!decide (6=v.k)))):=FnV.clo (aN v.k 6);have cb1:=(eu (h:=ZI.raw v.q.1 v.q.2.1)).h (show v.q.2.1.length≤1099511627775 by have:=hz.q.2.1;omega)
 have cb2:=(eu (h:=ZI.raw v.q.2.2.1 v.q.2.2.2)).h (show v.q.2.2.2.length≤1099511627775 by have:=hz.q.2.2;omega)
 have hP:=vP0 v;have f1:=mV (b:=v.q.1) (l:=v.q.2.1);have f2:=mV (b:=v.q.2.2.1) (l:=v.q.2.2.2);have b1:=hz.q.2.1;have b2:=hz.q.2.2;have b3:=hz.al;have b4:=hz.pol;have b5:=hz.fal;have b6:=hz.ril;have b7:=hz.lil;have l1:(v.a.map rq).length=v.a.length:=zq5 _;have l2:(v.po.map rz).length=v.po.length:=zq5 _;refine ah.fnF func90 results90 ntmps90 rfl rfl rfl (by simp[AV.ids,AV0.ids,Atom.ids]) rfl (fun w0 T B E0 hB=>?_)
 refine SX.goM ?_;refine SX.WP.eP 3 hB rfl rfl ?_;refine SX.WP.aF ?_;have k0:v.k=4:=hk;have e1:(!decide ((1:Int)=v.k))=true:=by rw[k0];rfl
 have e2:(!decide ((2:Int)=v.k))=true:=by rw[k0];rfl
 have e3:(!decide ((3:Int)=v.k))=true:=by rw[k0];rfl
 have e4:(!decide ((4:Int)=v.k))=false:=by rw[k0];rfl
 have e5:(!decide ((5:Int)=v.k))=true:=by rw[k0];rfl
 have e6:(!decide ((6:Int)=v.k))=true:=by rw[k0];rfl
 rw[e1]at c1;rw[e2]at c2;rw[e3]at c3;rw[e4]at c4;rw[e5]at c5;rw[e6]at c6;clear e1 e2 e3 e4 e5 e6
 repeat'(first|refine SX.goM ?_|refine SX.W.ite (fun h=>?_) (fun h=>?_)|refine SX.W.iteN (fun h=>?_) (fun h=>?_)|refine SX.W.eT (fun h=>?_) (fun h=>?_)|refine SX.R.ite (fun h=>?_) (fun h=>?_)|refine SX.R.iteN (fun h=>?_) (fun h=>?_)|refine SX.R.eT (fun h=>?_) (fun h=>?_))
 all_goals
  refine aJ ?_;refine Bool.eq_iff_iff.2 (Iff.trans ?_ decide_eq_true_iff.symm);rw[hP];constructor
  ·intro hh;first
    |(cases hh;done)
    |(try rw[decide_eq_true_iff]at hh
      refine⟨?_,?_,?_,?_,?_,?_,?_⟩ <;> first|omega|(refine .inr ⟨?_,?_,?_,?_⟩ <;> first|omega|assumption))
  ·rintro⟨h1,h2,h3,h4,h5,h6,h7⟩;first
    |rfl
    |(rw[decide_eq_true_iff];omega)
    |(exfalso;first|omega|(rcases h1 with h1|⟨g1,g2,g3,g4⟩ <;> first|omega|(clear c1 c2 c3 c4 c5 c6 f1 f2 hP;simp_all;done)))
set_option maxRecDepth 20000 in
set_option maxHeartbeats 2000000 in
theorem aey(v:Vl)(hz:vZ0 v)(hk:v.k=5):ah prog 90 [.agg (vlA v),.r (aA 1 kiC [v.k])] (.v (.bool (decide (vP v=0)))):=by
 have c1:FnV prog (.sat (dP 145 [] [.sat (bJ [.sat (aA 1 kiC [v.k])])])) [.v (.int .i64 1)] (.v (.bool (!decide (1=v.k)))):=FnV.clo (aN v.k 1);have c2:FnV prog (.sat (dP 145 [] [.sat (bJ [.sat (aA 1 kiC [v.k])])])) [.v (.int .i64 2)] (.v (.bool (!decide (2=v.k)))):=FnV.clo (aN v.k 2);have c3:FnV prog (.sat (dP 145 [] [.sat (bJ [.sat (aA 1 kiC [v.k])])])) [.v (.int .i64 3)] (.v (.bool (!decide (3=v.k)))):=FnV.clo (aN v.k 3);have c4:FnV prog (.sat (dP 145 [] [.sat (bJ [.sat (aA 1 kiC [v.k])])])) [.v (.int .i64 4)] (.v (.bool (!decide (4=v.k)))):=FnV.clo (aN v.k 4);have c5:FnV prog (.sat (dP 145 [] [.sat (bJ [.sat (aA 1 kiC [v.k])])])) [.v (.int .i64 5)] (.v (.bool (!decide (5=v.k)))):=FnV.clo (aN v.k 5);have c6:FnV prog (.sat (dP 145 [] [.sat (bJ [.sat (aA 1 kiC [v.k])])])) [.v (.int .i64 6)] (.v (.bool (!decide (6=v.k)))):=FnV.clo (aN v.k 6);have cb1:=(eu (h:=ZI.raw v.q.1 v.q.2.1)).h (show v.q.2.1.length≤1099511627775 by have:=hz.q.2.1;omega)
 have cb2:=(eu (h:=ZI.raw v.q.2.2.1 v.q.2.2.2)).h (show v.q.2.2.2.length≤1099511627775 by have:=hz.q.2.2;omega)
 have hP:=vP0 v;have f1:=mV (b:=v.q.1) (l:=v.q.2.1);have f2:=mV (b:=v.q.2.2.1) (l:=v.q.2.2.2);have b1:=hz.q.2.1;have b2:=hz.q.2.2;have b3:=hz.al;have b4:=hz.pol;have b5:=hz.fal;have b6:=hz.ril;have b7:=hz.lil;have l1:(v.a.map rq).length=v.a.length:=zq5 _;have l2:(v.po.map rz).length=v.po.length:=zq5 _;refine ah.fnF func90 results90 ntmps90 rfl rfl rfl (by simp[AV.ids,AV0.ids,Atom.ids]) rfl (fun w0 T B E0 hB=>?_)
 refine SX.goM ?_;refine SX.WP.eP 3 hB rfl rfl ?_;refine SX.WP.aF ?_;have k0:v.k=5:=hk;have e1:(!decide ((1:Int)=v.k))=true:=by rw[k0];rfl
 have e2:(!decide ((2:Int)=v.k))=true:=by rw[k0];rfl
 have e3:(!decide ((3:Int)=v.k))=true:=by rw[k0];rfl
 have e4:(!decide ((4:Int)=v.k))=true:=by rw[k0];rfl
 have e5:(!decide ((5:Int)=v.k))=false:=by rw[k0];rfl
 have e6:(!decide ((6:Int)=v.k))=true:=by rw[k0];rfl
 rw[e1]at c1;rw[e2]at c2;rw[e3]at c3;rw[e4]at c4;rw[e5]at c5;rw[e6]at c6;clear e1 e2 e3 e4 e5 e6
 repeat'(first|refine SX.goM ?_|refine SX.W.ite (fun h=>?_) (fun h=>?_)|refine SX.W.iteN (fun h=>?_) (fun h=>?_)|refine SX.W.eT (fun h=>?_) (fun h=>?_)|refine SX.R.ite (fun h=>?_) (fun h=>?_)|refine SX.R.iteN (fun h=>?_) (fun h=>?_)|refine SX.R.eT (fun h=>?_) (fun h=>?_))
 all_goals
  refine aJ ?_;refine Bool.eq_iff_iff.2 (Iff.trans ?_ decide_eq_true_iff.symm);rw[hP];constructor
  ·intro hh;first
    |(cases hh;done)
    |(try rw[decide_eq_true_iff]at hh
      refine⟨?_,?_,?_,?_,?_,?_,?_⟩ <;> first|omega|(refine .inr ⟨?_,?_,?_,?_⟩ <;> first|omega|assumption))
  ·rintro⟨h1,h2,h3,h4,h5,h6,h7⟩;first
    |rfl
    |(rw[decide_eq_true_iff];omega)
    |(exfalso;first|omega|(rcases h1 with h1|⟨g1,g2,g3,g4⟩ <;> first|omega|(clear c1 c2 c3 c4 c5 c6 f1 f2 hP;simp_all;done)))
set_option maxRecDepth 20000 in
set_option maxHeartbeats 2000000 in
theorem aeF(v:Vl)(hz:vZ0 v)(hk:v.k=6):ah prog 90 [.agg (vlA v),.r (aA 1 kiC [v.k])] (.v (.bool (decide (vP v=0)))):=by
 have c1:FnV prog (.sat (dP 145 [] [.sat (bJ [.sat (aA 1 kiC [v.k])])])) [.v (.int .i64 1)] (.v (.bool (!decide (1=v.k)))):=FnV.clo (aN v.k 1);have c2:FnV prog (.sat (dP 145 [] [.sat (bJ [.sat (aA 1 kiC [v.k])])])) [.v (.int .i64 2)] (.v (.bool (!decide (2=v.k)))):=FnV.clo (aN v.k 2);have c3:FnV prog (.sat (dP 145 [] [.sat (bJ [.sat (aA 1 kiC [v.k])])])) [.v (.int .i64 3)] (.v (.bool (!decide (3=v.k)))):=FnV.clo (aN v.k 3);have c4:FnV prog (.sat (dP 145 [] [.sat (bJ [.sat (aA 1 kiC [v.k])])])) [.v (.int .i64 4)] (.v (.bool (!decide (4=v.k)))):=FnV.clo (aN v.k 4);have c5:FnV prog (.sat (dP 145 [] [.sat (bJ [.sat (aA 1 kiC [v.k])])])) [.v (.int .i64 5)] (.v (.bool (!decide (5=v.k)))):=FnV.clo (aN v.k 5);have c6:FnV prog (.sat (dP 145 [] [.sat (bJ [.sat (aA 1 kiC [v.k])])])) [.v (.int .i64 6)] (.v (.bool (!decide (6=v.k)))):=FnV.clo (aN v.k 6);have cb1:=(eu (h:=ZI.raw v.q.1 v.q.2.1)).h (show v.q.2.1.length≤1099511627775 by have:=hz.q.2.1;omega)
 have cb2:=(eu (h:=ZI.raw v.q.2.2.1 v.q.2.2.2)).h (show v.q.2.2.2.length≤1099511627775 by have:=hz.q.2.2;omega)
 have hP:=vP0 v;have f1:=mV (b:=v.q.1) (l:=v.q.2.1);have f2:=mV (b:=v.q.2.2.1) (l:=v.q.2.2.2);have b1:=hz.q.2.1;have b2:=hz.q.2.2;have b3:=hz.al;have b4:=hz.pol;have b5:=hz.fal;have b6:=hz.ril;have b7:=hz.lil;have l1:(v.a.map rq).length=v.a.length:=zq5 _;have l2:(v.po.map rz).length=v.po.length:=zq5 _;refine ah.fnF func90 results90 ntmps90 rfl rfl rfl (by simp[AV.ids,AV0.ids,Atom.ids]) rfl (fun w0 T B E0 hB=>?_)
 refine SX.goM ?_;refine SX.WP.eP 3 hB rfl rfl ?_;refine SX.WP.aF ?_;have k0:v.k=6:=hk;have e1:(!decide ((1:Int)=v.k))=true:=by rw[k0];rfl
 have e2:(!decide ((2:Int)=v.k))=true:=by rw[k0];rfl
 have e3:(!decide ((3:Int)=v.k))=true:=by rw[k0];rfl
 have e4:(!decide ((4:Int)=v.k))=true:=by rw[k0];rfl
 have e5:(!decide ((5:Int)=v.k))=true:=by rw[k0];rfl
 have e6:(!decide ((6:Int)=v.k))=false:=by rw[k0];rfl
 rw[e1]at c1;rw[e2]at c2;rw[e3]at c3;rw[e4]at c4;rw[e5]at c5;rw[e6]at c6;clear e1 e2 e3 e4 e5 e6
 repeat'(first|refine SX.goM ?_|refine SX.W.ite (fun h=>?_) (fun h=>?_)|refine SX.W.iteN (fun h=>?_) (fun h=>?_)|refine SX.W.eT (fun h=>?_) (fun h=>?_)|refine SX.R.ite (fun h=>?_) (fun h=>?_)|refine SX.R.iteN (fun h=>?_) (fun h=>?_)|refine SX.R.eT (fun h=>?_) (fun h=>?_))
 all_goals
  refine aJ ?_;refine Bool.eq_iff_iff.2 (Iff.trans ?_ decide_eq_true_iff.symm);rw[hP];constructor
  ·intro hh;first
    |(cases hh;done)
    |(try rw[decide_eq_true_iff]at hh
      refine⟨?_,?_,?_,?_,?_,?_,?_⟩ <;> first|omega|(refine .inr ⟨?_,?_,?_,?_⟩ <;> first|omega|assumption))
  ·rintro⟨h1,h2,h3,h4,h5,h6,h7⟩;first
    |rfl
    |(rw[decide_eq_true_iff];omega)
    |(exfalso;first|omega|(rcases h1 with h1|⟨g1,g2,g3,g4⟩ <;> first|omega|(clear c1 c2 c3 c4 c5 c6 f1 f2 hP;simp_all;done)))
set_option maxRecDepth 20000 in
set_option maxHeartbeats 2000000 in
theorem afs(v:Vl)(hz:vZ0 v)(hk:v.k≠1∧v.k≠2∧v.k≠3∧v.k≠4∧v.k≠5∧v.k≠6):ah prog 90 [.agg (vlA v),.r (aA 1 kiC [v.k])] (.v (.bool (decide (vP v=0)))):=by
 have c1:FnV prog (.sat (dP 145 [] [.sat (bJ [.sat (aA 1 kiC [v.k])])])) [.v (.int .i64 1)] (.v (.bool (!decide (1=v.k)))):=FnV.clo (aN v.k 1);have c2:FnV prog (.sat (dP 145 [] [.sat (bJ [.sat (aA 1 kiC [v.k])])])) [.v (.int .i64 2)] (.v (.bool (!decide (2=v.k)))):=FnV.clo (aN v.k 2);have c3:FnV prog (.sat (dP 145 [] [.sat (bJ [.sat (aA 1 kiC [v.k])])])) [.v (.int .i64 3)] (.v (.bool (!decide (3=v.k)))):=FnV.clo (aN v.k 3);have c4:FnV prog (.sat (dP 145 [] [.sat (bJ [.sat (aA 1 kiC [v.k])])])) [.v (.int .i64 4)] (.v (.bool (!decide (4=v.k)))):=FnV.clo (aN v.k 4);have c5:FnV prog (.sat (dP 145 [] [.sat (bJ [.sat (aA 1 kiC [v.k])])])) [.v (.int .i64 5)] (.v (.bool (!decide (5=v.k)))):=FnV.clo (aN v.k 5);have c6:FnV prog (.sat (dP 145 [] [.sat (bJ [.sat (aA 1 kiC [v.k])])])) [.v (.int .i64 6)] (.v (.bool (!decide (6=v.k)))):=FnV.clo (aN v.k 6);have cb1:=(eu (h:=ZI.raw v.q.1 v.q.2.1)).h (show v.q.2.1.length≤1099511627775 by have:=hz.q.2.1;omega)
 have cb2:=(eu (h:=ZI.raw v.q.2.2.1 v.q.2.2.2)).h (show v.q.2.2.2.length≤1099511627775 by have:=hz.q.2.2;omega)
 have hP:=vP0 v;have f1:=mV (b:=v.q.1) (l:=v.q.2.1);have f2:=mV (b:=v.q.2.2.1) (l:=v.q.2.2.2);have b1:=hz.q.2.1;have b2:=hz.q.2.2;have b3:=hz.al;have b4:=hz.pol;have b5:=hz.fal;have b6:=hz.ril;have b7:=hz.lil;have l1:(v.a.map rq).length=v.a.length:=zq5 _;have l2:(v.po.map rz).length=v.po.length:=zq5 _;refine ah.fnF func90 results90 ntmps90 rfl rfl rfl (by simp[AV.ids,AV0.ids,Atom.ids]) rfl (fun w0 T B E0 hB=>?_)
 refine SX.goM ?_;refine SX.WP.eP 3 hB rfl rfl ?_;refine SX.WP.aF ?_;have k0:=hk;have e1:(!decide ((1:Int)=v.k))=true:=by rw[decide_eq_false (by omega)];rfl
 have e2:(!decide ((2:Int)=v.k))=true:=by rw[decide_eq_false (by omega)];rfl
 have e3:(!decide ((3:Int)=v.k))=true:=by rw[decide_eq_false (by omega)];rfl
 have e4:(!decide ((4:Int)=v.k))=true:=by rw[decide_eq_false (by omega)];rfl
 have e5:(!decide ((5:Int)=v.k))=true:=by rw[decide_eq_false (by omega)];rfl
 have e6:(!decide ((6:Int)=v.k))=true:=by rw[decide_eq_false (by omega)];rfl
 rw[e1]at c1;rw[e2]at c2;rw[e3]at c3;rw[e4]at c4;rw[e5]at c5;rw[e6]at c6;clear e1 e2 e3 e4 e5 e6
 repeat'(first|refine SX.goM ?_|refine SX.W.ite (fun h=>?_) (fun h=>?_)|refine SX.W.iteN (fun h=>?_) (fun h=>?_)|refine SX.W.eT (fun h=>?_) (fun h=>?_)|refine SX.R.ite (fun h=>?_) (fun h=>?_)|refine SX.R.iteN (fun h=>?_) (fun h=>?_)|refine SX.R.eT (fun h=>?_) (fun h=>?_))
 all_goals
  refine aJ ?_;refine Bool.eq_iff_iff.2 (Iff.trans ?_ decide_eq_true_iff.symm);rw[hP];constructor
  ·intro hh;first
    |(cases hh;done)
    |(try rw[decide_eq_true_iff]at hh
      refine⟨?_,?_,?_,?_,?_,?_,?_⟩ <;> first|omega|(refine .inr ⟨?_,?_,?_,?_⟩ <;> first|omega|assumption))
  ·rintro⟨h1,h2,h3,h4,h5,h6,h7⟩;first
    |rfl
    |(rw[decide_eq_true_iff];omega)
    |(exfalso;first|omega|(rcases h1 with h1|⟨g1,g2,g3,g4⟩ <;> first|omega|(clear c1 c2 c3 c4 c5 c6 f1 f2 hP;simp_all;done)))
theorem akV(v:Vl)(hz:vZ0 v):ah prog 90 [.agg (vlA v),.r (aA 1 kiC [v.k])] (.v (.bool (decide (vP v=0)))):=by
 have hk:v.k=1∨v.k=2∨v.k=3∨v.k=4∨v.k=5∨v.k=6∨(v.k≠1∧v.k≠2∧v.k≠3∧v.k≠4∧v.k≠5∧v.k≠6):=by omega
 rcases hk with hk|hk|hk|hk|hk|hk|hk
 ·exact afi v hz hk
 ·exact aeQ v hz hk
 ·exact aeo v hz hk
 ·exact afD v hz hk
 ·exact aey v hz hk
 ·exact aeF v hz hk
 ·exact afs v hz hk
end
section
def PrP(p:Nat):Prop:=2≤p∧p < 2147483648∧∀d,d < p→2≤d∧d*d≤p→p % d≠0
instance(p:Nat):Decidable (PrP p):=by unfold PrP;infer_instance
theorem tZ(a b:Nat):(a:Int).tmod (b:Int)=((a % b:Nat):Int):=rfl
theorem aoK(a b:Nat):(a:Int).tdiv (b:Int)=((a / b:Nat):Int):=rfl
theorem wrapN{n:Nat}(h:n < 18446744073709551616):IntKind.u64.wrap (n:Int)=(n:Int):=oJ (by omega) (by omega)
theorem PrP.intro{p d:Nat}(h1:2≤p)(h2:p < 2147483648)(h3:p < d*d)(h:∀e,2≤e→e < d→p % e≠0):PrP p:=⟨h1,h2,fun e _ he=>h e he.1 (by
 rcases Nat.lt_or_ge e d with h'|h'
 ·exact h'
 ·have:=Nat.mul_le_mul h' h';omega)⟩
theorem PrP.not{p d:Nat}(h1:2≤d)(h2:d*d≤p)(h3:p % d=0):¬PrP p:=fun h=>h.2.2 d (by
 have:=Nat.mul_le_mul h1 (Nat.le_refl d);omega) ⟨h1,h2⟩ h3
attribute [local irreducible] IntKind.wrap Go1 Reg WP aS aT bR bO aQ aC ak aj aX Sat
attribute [local irreducible] bT bX bY dw bZ qv dR mf PrP
theorem abo(p:Nat)(hp:p < 18446744073709551616):ah prog 30 [.v (.int .u64 (p:Int))] (.v (.bool (decide (PrP p)))):=by
 refine ah.fnF func30 results30 ntmps30 rfl rfl rfl (by simp[AV.ids,AV0.ids,Atom.ids]) rfl (fun w0 T B E0 hB=>?_)
 by_cases h1:p < 2
 ·have h1':(p:Int) < 2:=by omega
  refine SX.goM ?_;refine aJ ?_;exact(decide_eq_false fun h=>by unfold PrP at h;omega).symm
 by_cases h2:2147483648≤p
 ·have h2':(p:Int)≥2147483648:=by omega
  refine SX.goM ?_;refine aJ ?_;exact(decide_eq_false fun h=>by unfold PrP at h;omega).symm
 refine SX.goM ?_;refine W.loop (fun d=>2≤d∧d≤50000∧∀e,2≤e→e < d→p % e≠0) (fun d=>[(0,.v (.int .u64 (p:Int))),(3,.v (.int .u64 (d:Int)))]) (fun _=>[]) (fun d=>50001 - d) 2 ⟨by omega,by omega,fun e h h'=>by omega⟩ (fun d ⟨hd,hd2,he⟩=>?_)
 have hq:IntKind.u64.wrap ((p:Int).tdiv (d:Int))=((p / d:Nat):Int):=by rw[aoK];exact wrapN (Nat.lt_of_le_of_lt (Nat.div_le_self p d) hp)
 have hr:IntKind.u64.wrap ((p:Int).tmod (d:Int))=((p % d:Nat):Int):=by rw[tZ];exact wrapN (Nat.lt_of_le_of_lt (Nat.mod_le p d) hp)
 have hdz:(d:Int)≠0:=by omega
 by_cases h:d≤p / d
 ·have hdd:d*d≤p:=(Nat.le_div_iff_mul_le (by omega)).1 h
  by_cases h3:p % d=0
  ·refine SX.goM ?_;refine aJ ?_;exact(decide_eq_false (PrP.not hd hdd h3)).symm
  ·have hd3:d≤46340:=by
    rcases Nat.lt_or_ge 46340 d with h4|h4
    ·have:=Nat.mul_le_mul h4 h4;omega
    ·exact h4
   refine SX.goM ?_;refine W.next (d+1) ⟨by omega,by omega,fun e h h'=>?_⟩ (by omega)
   by_cases h5:e < d
   ·exact he e h h5
   ·obtain rfl:e=d:=by omega
    exact h3
 ·have hdd:p < d*d:=by
   rcases Nat.lt_or_ge p (d*d)with h4|h4
   ·exact h4
   ·exact absurd ((Nat.le_div_iff_mul_le (by omega)).2 h4) h
  refine SX.goM ?_;refine aJ ?_;exact(decide_eq_true (PrP.intro (by omega) (by omega) hdd he)).symm
theorem aaq(p:Nat)(hp:p < 18446744073709551616):ah prog 151 [.v (.int .u64 (p:Int))] (.v (.bool (decide (PrP p)))):=by
 have hr2:IntKind.u64.wrap ((p:Int).tmod 2)=((p % 2:Nat):Int):=by rw[show (2:Int)=((2:Nat):Int)from rfl,tZ];exact wrapN (Nat.lt_of_le_of_lt (Nat.mod_le p 2) hp)
 refine ah.fnF func151 results151 ntmps151 rfl rfl rfl (by simp[AV.ids,AV0.ids,Atom.ids]) rfl (fun w0 T B E0 hB=>?_)
 by_cases h1:p < 2
 ·have h1':(p:Int) < 2:=by omega
  refine SX.goM ?_;refine aJ ?_;rw[Bool.eq_iff_iff,decide_eq_true_iff];refine Iff.trans ?_ decide_eq_true_iff.symm;exact⟨fun h=>by omega,fun h=>by unfold PrP at h;omega⟩
 by_cases h2:2147483648≤p
 ·have h2':(p:Int)≥2147483648:=by omega
  refine SX.goM ?_;refine aJ ?_;rw[Bool.eq_iff_iff,decide_eq_true_iff];refine Iff.trans ?_ decide_eq_true_iff.symm;exact⟨fun h=>by omega,fun h=>by unfold PrP at h;omega⟩
 by_cases h3:p % 2=0
 ·refine SX.goM ?_;refine aJ ?_;rw[Bool.eq_iff_iff,decide_eq_true_iff];refine Iff.trans ?_ decide_eq_true_iff.symm;constructor
  ·intro h;obtain rfl:p=2:=by omega
   exact PrP.intro (d:=2) (by decide) (by decide) (by decide) (fun e h h'=>by omega)
  ·intro h;rcases Nat.lt_or_ge p 4 with h4|h4
   ·omega
   ·exact absurd h (PrP.not (d:=2) (by decide) (by omega) h3)
 refine SX.goM ?_;refine W.loop (fun d=>3≤d∧d≤50000∧d % 2=1∧∀e,2≤e→e < d→p % e≠0) (fun d=>[(0,.v (.int .u64 (p:Int))),(3,.v (.int .u64 (d:Int)))]) (fun _=>[]) (fun d=>50001 - d) 3 ⟨by omega,by omega,by omega,fun e h h'=>(show e=2 by omega)▸h3⟩ (fun d ⟨hd,hd2,hodd,he⟩=>?_)
 have hmm:d*d≤50000*50000:=Nat.mul_le_mul hd2 hd2;have hq:IntKind.u64.wrap ((d:Int)*(d:Int))=((d*d:Nat):Int):=by rw[←Int.natCast_mul];exact wrapN (by omega)
 have hr:IntKind.u64.wrap ((p:Int).tmod (d:Int))=((p % d:Nat):Int):=by rw[tZ];exact wrapN (Nat.lt_of_le_of_lt (Nat.mod_le p d) hp)
 have hdz:(d:Int)≠0:=by omega
 by_cases h:d*d≤p
 ·by_cases h5:p % d=0
  ·refine SX.goM ?_;refine aJ ?_;exact(decide_eq_false (PrP.not (by omega) h h5)).symm
  ·have hd3:d≤46340:=by
    rcases Nat.lt_or_ge 46340 d with h4|h4
    ·have:=Nat.mul_le_mul h4 h4;omega
    ·exact h4
   refine SX.goM ?_;refine W.next (d+2) ⟨by omega,by omega,by omega,fun e h h'=>?_⟩ (by omega)
   by_cases h6:e < d
   ·exact he e h h6
   ·by_cases h7:e=d
    ·subst h7;exact h5
    ·obtain rfl:e=d+1:=by omega
     intro h8;have h9:(d+1) % 2=0:=by omega
     have:p % 2=0:=Nat.mod_eq_zero_of_dvd (Nat.dvd_trans (Nat.dvd_of_mod_eq_zero h9) (Nat.dvd_of_mod_eq_zero h8));exact h3 this
 ·refine SX.goM ?_;refine aJ ?_;exact(decide_eq_true (PrP.intro (by omega) (by omega) (by omega) he)).symm
end
end
end Go.Proofs.YtegehclknhmkgaaGreatDoor