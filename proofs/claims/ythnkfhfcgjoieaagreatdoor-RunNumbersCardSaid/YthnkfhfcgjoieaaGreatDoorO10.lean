import Derived.Test.YthnkfhfcgjoieaaGreatDoorO8
import Derived.Test.YthnkfhfcgjoieaaGreatDoorO30
import Derived.Test.YthnkfhfcgjoieaaGreatDoorO9
import Derived.Test.YthnkfhfcgjoieaaGreatDoorO6
set_option maxRecDepth 20000
set_option maxHeartbeats 2000000
set_option linter.unusedVariables false
set_option linter.unusedSimpArgs false
open Go.Proofs.Tryz
namespace Go.Proofs.YthnkfhfcgjoieaaGreatDoor
section
open Go.RowKit QM SX
open Go.ChangeShapes Go.WideShapes Go.ChangeAt Go.Joins
section
variable{H:Type}{enc:TypeId×Value->H}{P:Program}{W:World}{base:Nat}{sp:Nat->Bool}{hd:Bool}
theorem iU.imp{α β:Type}{n:Nat}{t:TypeId}{e:α->List CA}{φ:α->Prop}{e':β->List CA}{ψ:β->Prop}(h:iU enc P W base sp hd n t e φ)(f:α->β)(hf:∀a,φ a->ψ (f a))(he:∀a cs,φ a->aK (CA.has none' W) (e a) cs->aK (CA.has none' W) (e' (f a)) cs):iU enc P W base sp hd n t e' ψ:=
 fun cs x hx=>let⟨a,h1,h2⟩:=h cs x hx;⟨f a,hf a h1,he a cs h1 h2⟩
def u64C(z:Int):List CA:=[.val (.int .u64 z)]
instance:eY u64C 1:=⟨fun _=>rfl⟩
theorem decNat(n:Nat):iU enc prog W base sp hd n 23 (fun l:List Nat=>[.sat (bL l)]) (fun _=>True):=
 iU.all (fun n=>iU.imp (amj (enc':=u64C) underlying23 z6 (as6 underlying34)) (fun l=>l.map Int.toNat) (fun _ _=>trivial) (fun l cs hl hall=>by
  match cs,hall with
  |[v],⟨h1,_⟩=>
   refine⟨?_,trivial⟩;have hb:∀z∈l,0<=z/\z<=18446744073709551615:=fun z hz=>bounds_u64 (hl.2 z hz)
   refine nC.2 ⟨?_,?_⟩
   ·intro x hx;obtain⟨z,hz,rfl⟩:=zqg.1 hx;have:=hb z hz;rw[dn];omega
   ·have e:(l.map Int.toNat).map (fun x:Nat=>CA.val (.int .u64 (x:Int)))=l.flatMap u64C:=by
     clear h1 hall hl
     induction l with
     |nil=>rfl
     |cons z l ih=>
      have:=hb z zp
      rw[zy6,zy6,zq7,ih (fun y hy=>hb y (by simp[hy]))]
      show _::_=CA.val (.int .u64 z)::_;rw[show ((z.toNat:Nat):Int)=z by omega];rfl
    rw[e,zq5];exact h1)) n
end
end
section
open Go.RowKit QM SX LA
open Go.ChangeShapes Go.WideShapes Go.ChangeAt Go.Joins
section
variable{H:Type}{enc:TypeId×Value->H}{W:World}{base:Nat}{sp:Nat->Bool}{hd:Bool}
theorem sm_of{l:List Nat}:∀{cs:List Value},aK (CA.has none' W) [.sat (bL l)] cs->Sm WB l
 |[v],h=>(nC.1 h.1).1
theorem asl(n:Nat):iU enc prog W base sp hd n 23 (fun l:List Nat=>[.sat (bL l)]) (fun l=>Sm WB l):=
 fun cs x hx=>let⟨l,_,h2⟩:=decNat n cs x hx;⟨l,sm_of h2,h2⟩
theorem atw(n:Nat):iU enc prog W base sp hd n 25 (fun p:Bool×List Nat=>[.val (.bool p.1),.sat (bL p.2)]) (fun p=>Sm WB p.2):=
 iU.all (fun n=>iU.conv (yX underlying25 rfl z6 z6 (anA underlying4) (asl n)) id (fun _ h=>h.2) (fun _=>rfl)) n
def rqC(p:jD):List CA:=q4C (rq p)
theorem decRatS(n:Nat):iU enc prog W base sp hd n 27 rqC (fun p=>Sm WB p.2.1/\Sm WB p.2.2.2):=
 iU.all (fun n=>iU.conv (yX underlying27 rfl z6 z6 (atw n) (atw n)) (fun p=>(p.1.1,p.1.2,p.2.1,p.2.2)) (fun _ h=>h) (fun _=>rfl)) n
end
attribute [local irreducible] IntKind.wrap Go1 Reg WP aJ aN bF bD aM aA ak aj aT Sat
attribute [local irreducible] bK bO bM bS bN qv bZ mf
theorem Ra.mono{l:List Atom}{v:Rat}{K L:Nat}(h:Ra l v K)(hK:K<=L):Ra l v L:=by
 obtain⟨x0,x1,x2,x3,p,q,k,m,h1,h2,h3,h4,h5,h6,h7,h8⟩:=h.h;exact⟨x0,x1,x2,x3,p,q,k,m,h1,h2,h3,zE,zE,h6,h7,h8⟩
end
section
open Go.RowKit QM SX LA
attribute [local irreducible] IntKind.wrap Go1 Reg WP aJ aN bF bD aM aA ak aj aT Sat
attribute [local irreducible] bK bO bM bS bN qv bZ mf
def q0:Q4:=q4v 0
def qat(l:List Q4)(c i k:Nat):Q4:=l.getD (i*c+k) q0
theorem aoa{l:List Q4}{r c i k:Nat}(hl:l.length=r*c)(hi:i < r)(hk:k < c):l[i*c+k]? =some (qat l c i k):=by
 have h:=aaT hi hk;unfold qat;rw[zx7,zyh zE];rfl
theorem MV.qat{r c i k K:Nat}{l:List Q4}{vs:List Rat}(hM:MV l vs K)(hl:l.length=r*c)(hi:i < r)(hk:k < c):Ra (q4A (qat l c i k)) (vat vs c i k) K:=
 hM.ra _ _ _ (aoa hl hi hk) (apd (by rw[<-hM.len];exact hl) hi hk)
theorem akB{r c r' c':Nat}{l l':List Q4}(hl:l.length=r*c)(hl':l'.length=r'*c')(hr:r<=64)(hc:c<=64)(hr':r'<=64)(hc':c'<=64)(goal:Bool)(hg:goal=true↔r=r'/\c=c'):
  ah prog 271 [.agg (wY r c l),.agg (wY r' c' l')] (.v (.bool goal)):=by
 have cF:=zY (cells:=l.flatMap q4C) hl hr hc;have cF':=zY (cells:=l'.flatMap q4C) hl' hr' hc';refine ah.fq func271 results271 ntmps271 fun _ _ _ _ _=>?_
 by_cases h1:(r:Int)=(r':Int)
 ·refine zg ?_;refine bf ?_;rw[zyc,hg,decide_eq_true_iff];omega
 ·refine zg ?_;refine bf ?_;exact(Bool.eq_false_iff.2 fun ht=>h1 (by have:=(hg.1 ht).1;omega)).symm
theorem arb{vs:List Rat}{r c:Nat}(hl:vs.length=r*c):lZ c (vat vs c) r=vs:=by
 apply zyb
 intro n;rcases zyd n (r*c)with h|h
 ·have hc:0 < c:=by
   rcases zye c with h0|h0
   ·subst h0;omega
   ·exact h0
  have h1:n / c < r:=by rw[Nat.div_lt_iff_lt_mul hc];exact h
  have h2:=zyi n hc;have h3:n / c*c+n % c=n:=by rw[zxj];exact Nat.div_add_mod n c
  have a1:=aed (val:=vat vs c) h2 h1;have a2:=apd hl h1 h2;rw[h3]at a1 a2;rw[a1,a2]
 ·rw[zqe (by rw[ny];exact h),zqe zE]
end
section
open Go.RowKit QM SX LA
open Go.ChangeShapes Go.WideShapes Go.ChangeAt Go.Joins
abbrev qx:=Bool×List Nat
abbrev rz(x:qx):Z2:=(x.1,bL x.2)
def rzv(x:qx):Int:=sgn x.1 (nval WB x.2)
section
variable{H:Type}{enc:TypeId×Value->H}{W:World}{base:Nat}{sp:Nat->Bool}{hd:Bool}
end
attribute [local irreducible] IntKind.wrap Go1 Reg WP aJ aN bF bD aM aA ak aj aT Sat
attribute [local irreducible] bK bO bM bS bN qv bZ mf
theorem MZ.raw{l:List qx}{K:Nat}(hs:∀a∈l,Sm WB a.2)(hl:∀a∈l,a.2.length<=K):MZ (l.map rz) (l.map rzv) K:=by
 refine⟨by rw[zq5,zq5],fun i q z hq hz=>?_⟩
 rw[zqa]at hq hz
 cases hx:l[i]? with
 |none=>rw[hx]at hq;cases hq
 |some x=>
  rw[hx]at hq hz;cases hq;cases hz;exact ZQ.raw (hs x (zq4 hx)) (hl x (zq4 hx))
end
section
open Go.RowKit QM SX LA
def akA:List Rat->Nat
 |[]=>1
 |v::l=>Nat.lcm (akA l) v.den
theorem aa7:∀l,0 < akA l
 |[]=>zc
 |v::l=>Nat.lcm_pos (aa7 l) (Nat.pos_of_ne_zero v.den_nz)
theorem afu:∀{l:List Rat} {v:Rat},v∈l->v.den ∣ akA l
 |w::l,v,h=>by
  rcases zy3.1 h with rfl|h
  ·exact Nat.dvd_lcm_right _ _
  ·exact Nat.dvd_trans (afu h) (Nat.dvd_lcm_left _ _)
theorem aa2:∀{l:List Rat} {n:Nat},(∀v∈l,v.den ∣ n)->akA l ∣ n
 |[],n,_=>Nat.one_dvd n
 |v::l,n,h=>Nat.lcm_dvd (aa2 fun w hw=>h w (by simp[hw])) (h v zp)
theorem ai6{K:Nat}:∀{l:List Rat},(∀v∈l,RB v K)->akA l < WB ^ (1+l.length*K)
 |[],_=>by
  have:=dn;show 1 < WB ^ (1+0*K);rw[zw3,zvi,zxh];omega
 |v::l,h=>by
  have h1:=ai6 (l:=l) fun w hw=>h w (by simp[hw])
  have h2:=(h v zp).d
  refine zxb (Nat.le_of_dvd (Nat.mul_pos (aa7 l) (Nat.pos_of_ne_zero v.den_nz)) (Nat.lcm_dvd (Nat.dvd_mul_right _ _) (Nat.dvd_mul_left _ _))) ?_;have h3:=gV h1 h2;rw[zx6,zv8,<-Nat.add_assoc];exact h3
def jl(l:List Rat):Nat:=akA l.reverse
theorem ala{l:List Rat}{v:Rat}:jl (l++[v])=Nat.lcm (jl l) v.den:=by
 unfold jl;rw[List.reverse_append];rfl
def qj(z:Int):Rat:=qv z 1
theorem aki(z:Int):qj z=(z:Rat):=by unfold qj qv;grind
theorem acA{v:Rat}{D:Nat}(h:v.den ∣ D)(hD:0 < D):(v*qj D).den=1/\qv (v*qj D).num D=v/\(v*qj D).num.natAbs<=v.num.natAbs*D:=by
 obtain⟨c,rfl⟩:=h;have hd:=v.den_nz;have hq:=c0 (pR v);have hc:(c:Rat)≠0:=fun e=>by
  have:c=0:=by exact_mod_cast e
  subst this;simp at hD
 have e:v*qj ((v.den*c:Nat):Int)=((v.num*c:Int):Rat):=by
  rw[aki,Int.natCast_mul,Rat.intCast_mul,Rat.intCast_mul];have hv:=jq v;unfold qv at hv;generalize ((v.den:Int):Rat)=d at*;generalize ((v.num:Int):Rat)=n at*;rw[<-hv];grind
 rw[e];refine⟨Rat.den_intCast _,?_,?_⟩
 ·rw[Rat.num_intCast];refine(aqz zE (pR v) ?_).trans (jq v)
  rw[Int.natCast_mul];grind
 ·rw[Rat.num_intCast,zve,zxa];exact zx8 _ (Nat.le_mul_of_pos_left c (Nat.pos_of_ne_zero hd))
def oK(vs:List Rat):List Int:=vs.map fun v=>(v*qj (jl vs)).num
theorem vR(l:List Rat):0 < jl l:=aa7 _
theorem agh{l:List Rat}{v:Rat}(h:v∈l):v.den ∣ jl l:=afu (List.mem_reverse.2 h)
theorem aiq{l:List Rat}{n:Nat}(h:∀v∈l,v.den ∣ n):jl l ∣ n:=aa2 fun v hv=>h v (List.mem_reverse.1 hv)
end
section
open Go.RowKit QM SX LA
attribute [local irreducible] IntKind.wrap Go1 Reg WP aJ aN bF bD aM aA ak aj aT Sat
attribute [local irreducible] bK bO bM bS bN qv bZ mf
theorem wds_0:(wds 0).length=0:=by
 have:=mJ (n:=0) (k:=0) (by rw[Nat.pow_zero];decide)
 omega
theorem agE{a b:CA}{x y k m:Nat}[ha:NI a x k][hb:NI b y m](hd:y ∣ x)(hy:y≠0)(hk:k+m<=1099511627770):ah prog 426 [.it (.one (.c a)),.it (.one (.c b))] (.tup [.one (.c (.sat (bU (x / y)))),.one (.c (.val (.bool true)))]):=by
 have cD:=aef (ha:=ha) (hb:=hb) hk;rw[if_neg hy,Nat.mod_eq_zero_of_dvd hd,decide_eq_true hy]at cD;have hw:=wds_0;refine ah.fq func426 results426 ntmps426 fun _ _ _ _ _=>?_
 refine zg ?_;exact .ok (aA.mk2 (ak.tmp rfl) (ak.tmp rfl))
theorem anI{a b:CA}{x y k m:Nat}[ha:NI a x k][hb:NI b y m](hx:x≠0)(hy:y≠0)(hbx:x < WB ^ k)(hby:y < WB ^ m)(hk:k+m<=1000000):ah prog 352 [.it (.one (.c a)),.it (.one (.c b))] (.r (bU (Nat.lcm x y))):=by
 have hg0:Nat.gcd x y≠0:=fun e=>hx (Nat.eq_zero_of_gcd_eq_zero_left e)
 have hgx:Nat.gcd x y<=x:=Nat.le_of_dvd zE (Nat.gcd_dvd_left x y)
 haveI iG:NI (.sat (bU (Nat.gcd x y))) (Nat.gcd x y) k:=NI.adu (zxb hgx hbx)
 have hqx:x / Nat.gcd x y<=x:=Nat.div_le_self _ _
 haveI iQ:NI (.sat (bU (x / Nat.gcd x y))) (x / Nat.gcd x y) k:=NI.adu (zxb hqx hbx)
 have cG:=dGcd (ha:=ha) (hb:=hb) zE
 have b1:=agf (ha:=ha) zE
 have b2:=agf (ha:=hb) zE
 have h1:bitLen x≠0:=fun e=>hx (nQ.1 e)
 have h2:bitLen y≠0:=fun e=>hy (nQ.1 e)
 have cE:=agE (ha:=ha) (hb:=iG) (Nat.gcd_dvd_left x y) hg0 zE
 have cM:=mMul (ha:=iQ) (hb:=hb) zE
 have e:x / Nat.gcd x y*y=Nat.lcm x y:=by
  unfold Nat.lcm;rw[Nat.div_mul_right_comm (Nat.gcd_dvd_left x y)]
 rw[e]at cM;generalize bitLen x=p at*;generalize bitLen y=q at*;refine ah.fq func352 results352 ntmps352 fun _ _ _ _ _=>?_
 refine zg ?_;exact ret1 rfl
theorem asx{v:Rat}{K:Nat}(hv:RB v K)(hd:v.den=1)(hK:K<=100000):ah prog 227 [.agg (qA v)] (.tup [.agg (zN v.num),.one (.c (.val (.bool true)))]):=by
 haveI b1:Bd v.num K:=⟨hv.n⟩
 haveI b2:Bd (v.den:Int) K:=⟨by rw[zxa];exact hv.d⟩
 have h1:ZI [.c (.val (.bool (decide (v.num < 0)))),.c (.sat (bU v.num.natAbs))] v.num K:=inferInstance;have h2:ZI [.c (.val (.bool (decide ((v.den:Int) < 0)))),.c (.sat (bU (v.den:Int).natAbs))] (v.den:Int) K:=inferInstance;have c:=(uM (h:=h1) (h':=h2)).h zE
 have e:rmk v.num (v.den:Int)=(v.num,(v.den:Int)):=(Rd.rmk b1 b2 (jq v) (zq6 _)).nf;have e2:rX v.num (v.den:Int)=v.num:=by
  unfold rX;rw[e,hd];rfl
 rw[e2,e,decide_eq_true (show (v.num,(v.den:Int)).2=1 by rw[hd];rfl)]at c
 exact c
theorem lI{α:Type}{l:List α}{k:Nat}{a:α}(h:l[k]? =some a):l.take (k+1)=l.take k++[a]:=by
 rw[zw7,h];rfl
theorem acR{vs:List Rat}{k:Nat}{v:Rat}(h:vs[k]? =some v):jl (vs.take (k+1))=Nat.lcm (jl (vs.take k)) v.den:=by
 rw[lI h,ala]
theorem wJ{vs:List Rat}{K:Nat}(h:∀v∈vs,RB v K)(k:Nat):jl (vs.take k) < WB ^ (1+vs.length*K):=by
 have h1:=ai6 (l:=(vs.take k).reverse) (K:=K) fun v hv=>h v (zv3 (List.mem_reverse.1 hv))
 refine zqf h1 (zx2 aZ ?_);rw[List.length_reverse,zx3];have:=zx1 K (Nat.min_le_right k vs.length);omega
theorem alR{r c:Nat}{l:List Q4}{vs:List Rat}{K:Nat}(hM:MV l vs K)(hl:l.length=r*c)(hr:r<=64)(hc:c<=64)(hK1:1<=K)(hB0:1+(r*c+1)*K<=50000):
  ah prog 232 [.agg (wY r c l)] (.tup [.agg (aay r c (oK vs)),.agg (zN ((jl vs:Nat):Int)),eNo 0]):=by
 have hvl:vs.length=r*c:=by rw[<-hM.len];exact hl
 have hrc:=zxd hr hc;have hKn:K<=50000:=by
  have:=zx1 K (show 1<=r*c+1 by omega)
  omega
 have hKm:1+vs.length*K<=50000:=by
  rw[hvl];have:=zx1 K (show r*c<=r*c+1 by omega)
  omega
 have cF:=zY (cells:=l.flatMap q4C) hl hr hc;have cM:=aga r c (.sat (cloA 231 [.val (.int .i64 (r:Int)),.val (.int .i64 (c:Int)),.sat (aB 4 q4C l)])) (fun i k=>qat l c i k) (vat vs c) K zE zE zE
  (fun i k hi hk=>FnV.bound (arM (aoa hl hi hk) zE zE zE)) (fun i k hi hk=>hM.qat hl hi hk) rfl
 rw[arb hvl,ac3]at cM;have hlen:(vs.map q4v).length=r*c:=by rw[zq5];exact hvl
 have hRB:=hM.rb hK1;have o1:=anb;have hms:(oK vs).length=vs.length:=zq5 _;refine ah.fq func232 results232 ntmps232 fun _ _ _ _ _=>?_
 refine zg ?_;refine WP.aG ?_;refine zg ?_;refine W.loop (fun k=>k<=vs.length) (fun k=>[(1,.ptr 1 0),(2,.ptr 2 0),(3,.ptr 3 0),(5,.ptr 5 0),(27,.r (aB 4 q4C (vs.map q4v))),(28,.v (.int .i64 ((vs.map q4v).length:Int))),(29,.v (.int .i64 (k:Int)))]) (fun k=>[(1,.box 31 (wY r c (vs.map q4v))),(2,.box 153 mat0),(3,.box 25 [.c (.val (.bool false)),.c (.val (.slice none 0 0))]),(5,.box 25 (zN ((jl (vs.take k):Nat):Int)))]) (fun k=>vs.length - k) 0 (zq8 _) (fun k hk=>?_)
  (by
   refine St.bV [] zt ?_ ?_ rfl
   ·exact ya
   ·exact⟨ay.same rfl rfl,ay.same rfl rfl,ay.same rfl rfl,ay.same rfl rfl,trivial⟩)
 by_cases hk2:k < vs.length
 ·obtain⟨v,hx⟩:∃v,vs[k]? =some v:=⟨_,zyh hk2⟩
  have hq:(vs.map q4v)[k]? =some (q4v v):=by rw[zqa,hx];rfl
  have hk3:k < (vs.map q4v).length:=qJ hq;have hvb:=hRB v (zq4 hx);have hlb:=wJ hRB k;have hlb2:=wJ hRB (k+1);rw[acR hx]at hlb2
  haveI n1:NI (.sat (bU (jl (vs.take k)))) (jl (vs.take k)) (1+vs.length*K):=NI.adu hlb
  haveI n2:NI (.sat (bU v.den)) v.den K:=NI.adu hvb.d
  haveI n3:NI (.sat (bU (Nat.lcm (jl (vs.take k)) v.den))) (Nat.lcm (jl (vs.take k)) v.den) (1+vs.length*K):=NI.adu hlb2
  have cL:ah prog 352 [.r (bU ((jl (vs.take k):Nat):Int).natAbs),.r (bU ((v.den:Nat):Int).natAbs)] (.r (bU (Nat.lcm (jl (vs.take k)) v.den))):=anI (ha:=n1) (hb:=n2) (by have:=vR (vs.take k);omega) v.den_nz hlb hvb.d zE
  have cR:ah prog 37 [.r (bU (Nat.lcm (jl (vs.take k)) v.den)),.v (.bool false)] (.agg (zN ((Nat.lcm (jl (vs.take k)) v.den:Nat):Int))):=(acX (h:=n3) false).h zE
  have e5:Ent.box 25 (zN ((Nat.lcm (jl (vs.take k)) v.den:Nat):Int))=Ent.box 25 (zN ((jl (vs.take (k+1)):Nat):Int)):=by rw[acR hx]
  refine zg ?_;refine W.next (k+1) hk2 zE (by
   refine St.bV [] zt ?_ ?_ rfl
   ·exact ya
   ·exact⟨ay.same rfl rfl,ay.same rfl rfl,ay.same rfl rfl,ay.eq rfl e5 rfl,trivial⟩)
 ·obtain rfl:k=vs.length:=zE
  have hk3:¬vs.length < (vs.map q4v).length:=by rw[zq5];omega
  rw[zy8];have hD:=wJ hRB vs.length;rw[zy8]at hD;have hDq:=ZQ.made (z:=((jl vs:Nat):Int)) (K:=1+vs.length*K) hD;have cO:=(tu (h:=hDq.zi)).h zE
  have rO:Ra (uQ (((jl vs:Nat):Int),1)) (qj ((jl vs:Nat):Int)) (1+vs.length*K):=Ra.mono (hDq.ra zq1) zE
  refine zg ?_;refine W.loop (fun k=>k<=vs.length) (fun k=>[(1,.ptr 1 0),(2,.ptr 2 0),(3,.ptr 3 0),(5,.ptr 5 0),(8,.ptr 8 0),(47,.r (aB 4 q4C (vs.map q4v))),(48,.v (.int .i64 ((vs.map q4v).length:Int))),(49,.v (.int .i64 (k:Int)))]) (fun k=>[(1,.box 31 (wY r c (vs.map q4v))),(2,.box 153 mat0),(3,.box 25 [.c (.val (.bool false)),.c (.val (.slice none 0 0))]),(5,.box 25 (zN ((jl vs:Nat):Int))),(8,.box 153 [.c (.val (.int .i64 (r:Int))),.c (.val (.int .i64 (c:Int))),.own 100]),(100,.row 25 2 k (((oK vs).take k).flatMap zC))]) (fun k=>vs.length - k) 0 (zq8 _) (fun k hk=>?_)
   (by
    refine St.bV [(100,none)] zt ?_ ?_ rfl
    ·exact ya
    ·exact⟨ay.same rfl rfl,ay.same rfl rfl,ay.same rfl rfl,ay.same rfl rfl,ay.nW rfl rfl ⟨aD.same rfl,aD.same rfl,aD.nil rfl,trivial⟩,ay.dZ rfl,trivial⟩)
  by_cases hk4:k < vs.length
  ·obtain⟨v,hx⟩:∃v,vs[k]? =some v:=⟨_,zyh hk4⟩
   have hq:(vs.map q4v)[k]? =some (q4v v):=by rw[zqa,hx];rfl
   have hk5:k < (vs.map q4v).length:=qJ hq;have hvb:=hRB v (zq4 hx);have rv:=hvb.ra;have hw:=acA (agh (zq4 hx)) (vR vs);have cMu:ah prog 353 [.agg (q4A (q4v v)),.agg (uQ (((jl vs:Nat):Int),1))] (.agg (qA (v*qj ((jl vs:Nat):Int)))):=(aq2 (a:=rv) (b:=rO)).h zE
   have hPB:RB (v*qj ((jl vs:Nat):Int)) (K+(1+vs.length*K)):=hvb.mul (Ra.rb rO zE)
   have cW:=asx hPB hw.1 zE
   have hm:(oK vs)[k]? =some (v*qj ((jl vs:Nat):Int)).num:=by unfold oK;rw[zqa,hx];rfl
   have e6:((oK vs).take k).flatMap zC++zC (v*qj ((jl vs:Nat):Int)).num=((oK vs).take (k+1)).flatMap zC:=by rw[lI hm,zvc];simp
   generalize (v*qj ((jl vs:Nat):Int)).num=z at*;refine zg ?_;refine W.next (k+1) hk4 zE (by
    refine St.bV [(100,some 65)] zt ?_ ?_ rfl
    ·exact ya
    ·exact⟨ay.same rfl rfl,ay.same rfl rfl,ay.same rfl rfl,ay.same rfl rfl,ay.nW rfl rfl ⟨aD.same rfl,aD.same rfl,aD.own rfl,trivial⟩,ay.row rfl rfl rfl e6,trivial⟩)
  ·obtain rfl:k=vs.length:=zE
   have hk6:¬vs.length < (vs.map q4v).length:=by rw[zq5];omega
   have e7:(oK vs).take vs.length=oK vs:=by rw[<-hms,zy8]
   rw[e7];refine zg ?_;have hm:aay r c (oK vs)=[.c (.val (.int .i64 (r:Int))),.c (.val (.int .i64 (c:Int))),.c (.sat (aQ 2 vs.length ((oK vs).flatMap zC)))]:=by
    show [_,_,Atom.c (.sat (aQ 2 (oK vs).length _))]=_;rw[hms]
   rw[hm];refine aM.frz 100 ?_;exact .ok (aA.mk3 ak.bQ ak.dP (ak.tmp rfl))
theorem arW{vs:List Rat}{K:Nat}(h:∀v∈vs,RB v K):∀z∈oK vs,z.natAbs < WB ^ (K+(1+vs.length*K)):=by
 intro z hz;obtain⟨v,hv,rfl⟩:=zqg.1 hz;have h1:=(acA (agh hv) (vR vs)).2.2;have h2:=wJ h vs.length;rw[zy8]at h2;exact zxb h1 (gV (h v hv).n h2)
end
section
open Go.RowKit QM SX LA
def wdC(w:Nat):List CA:=[.val (.int .u64 (w:Int))]
instance:eY wdC 1:=⟨fun _=>rfl⟩
structure Vl where
 k:Int
 q:jD
 r:Int
 c:Int
 a:List jD
 po:List qx
 p:Nat
 fr:Int
 fc:Int
 fa:List Nat
 ri:List Nat
 li:List Vl
mutual
def vlC:Vl->List CA
 |⟨k,q,r,c,a,po,p,fr,fc,fa,ri,li⟩=>[.val (.int .i64 k),.val (.bool q.1),.sat (bL q.2.1),.val (.bool q.2.2.1),.sat (bL q.2.2.2),.val (.int .i64 r),.val (.int .i64 c),.sat (aB 4 q4C (a.map rq)),.sat (aB 2 z2C (po.map rz)),.val (.int .u64 (p:Int)),.val (.int .i64 fr),.val (.int .i64 fc),.sat (aB 1 wdC fa),.sat (aB 1 wdC ri),.sat (aQ 15 li.length (vlL li))]
def vlL:List Vl->List CA
 |[]=>[]
 |k::ks=>vlC k++vlL ks
end
theorem aoC:∀ks:List Vl,vlL ks=ks.flatMap vlC
 |[]=>by rw[vlL];rfl
 |k::ks=>by rw[vlL,aoC ks,zq7]
def vlE(v:Vl):List CA:=[.val (.int .i64 v.k),.val (.bool v.q.1),.sat (bL v.q.2.1),.val (.bool v.q.2.2.1),.sat (bL v.q.2.2.2),.val (.int .i64 v.r),.val (.int .i64 v.c),.sat (aB 4 q4C (v.a.map rq)),.sat (aB 2 z2C (v.po.map rz)),.val (.int .u64 (v.p:Int)),.val (.int .i64 v.fr),.val (.int .i64 v.fc),.sat (aB 1 wdC v.fa),.sat (aB 1 wdC v.ri),.sat (aB 15 vlC v.li)]
theorem yH(v:Vl):vlC v=vlE v:=by
 cases v;rw[vlC,aoC];rfl
instance:eY vlE 15:=⟨fun v=>rfl⟩
theorem vT(l:List Vl):aB 15 vlC l=aB 15 vlE l:=by rw[show vlC=vlE from funext yH]
abbrev vlA(v:Vl):List Atom:=[.c (.val (.int .i64 v.k)),.c (.val (.bool v.q.1)),.c (.sat (bL v.q.2.1)),.c (.val (.bool v.q.2.2.1)),.c (.sat (bL v.q.2.2.2)),.c (.val (.int .i64 v.r)),.c (.val (.int .i64 v.c)),.c (.sat (aB 4 q4C (v.a.map rq))),.c (.sat (aB 2 z2C (v.po.map rz))),.c (.val (.int .u64 (v.p:Int))),.c (.val (.int .i64 v.fr)),.c (.val (.int .i64 v.fc)),.c (.sat (aB 1 wdC v.fa)),.c (.sat (aB 1 wdC v.ri)),.c (.sat (aB 15 vlC v.li))]
def cq(v:Rat):jD:=(decide (v.num < 0),wds v.num.natAbs,decide ((v.den:Int) < 0),wds (v.den:Int).natAbs)
def cz(z:Int):qx:=(decide (z < 0),wds z.natAbs)
abbrev rq0:jD:=(false,[],false,[])
abbrev v0:Vl:=⟨0,rq0,0,0,[],[],0,0,0,[],[],[]⟩
abbrev bW(v:Rat):Vl:=⟨1,cq v,0,0,[],[],0,0,0,[],[],[]⟩
abbrev iJ(r c:Nat)(vs:List Rat):Vl:=⟨2,rq0,r,c,vs.map cq,[],0,0,0,[],[],[]⟩
abbrev uS(zs:List Int):Vl:=⟨3,rq0,0,0,[],zs.map cz,0,0,0,[],[],[]⟩
abbrev uF(p r c:Nat)(l:List Nat):Vl:=⟨4,rq0,0,0,[],[],p,r,c,l,[],[]⟩
abbrev wM(p:Nat)(l:List Nat):Vl:=⟨5,rq0,0,0,[],[],p,0,0,[],l,[]⟩
abbrev dz(l:List Vl):Vl:=⟨6,rq0,0,0,[],[],0,0,0,[],[],l⟩
def aF(x y:Atom):Prop:=∀E S w v,x.has E S w v->y.has E S w v
theorem aF.refl(x:Atom):aF x x:=fun _ _ _ _ h=>h
theorem ao8{E:Env}{S:Nat->Prop}{w:World}:∀{l l':List Atom},aK aF l l'->∀us,aK (Atom.has E S w) l us->aK (Atom.has E S w) l' us
 |[],[],_,_,h2=>h2
 |x::l,y::l',h,u::us,h2=>⟨h.1 _ _ _ _ h2.1,ao8 h.2 us h2.2⟩
theorem jA{l l':List Atom}(h:aK aF l l'):AV0.imp (.agg l) (.agg l'):=fun E S w v ⟨us,hu,h2⟩=>⟨us,hu,ao8 h us h2⟩
theorem alX{size n:Nat}{cells cells':List CA}{S:Nat->Prop}{w:World}(hl:cells.length=cells'.length)(h:∀(i:Nat) (c c':CA),cells[i]? =some c->cells'[i]? =some c'->∀u,c.has S w u->c'.has S w u){v:Value}(hv:(aQ size n cells).has S w v):(aQ size n cells').has S w v:=by
 obtain⟨oa,cap,h1,h2,h3,h4,h5,h6⟩:=bY.1 hv;refine bY.2 ⟨oa,cap,h1,h2,h3,h4,zE,fun i c' hc'=>?_⟩
 have hi:=qJ hc';obtain⟨b,o,u,e1,e2,e3,e4⟩:=h6 i cells[i] (zyh zE)
 exact⟨b,o,u,e1,e2,e3,h i _ _ (zyh zE) hc' u e4⟩
theorem aF.slice{size n:Nat}{cells cells':List CA}(hl:cells.length=cells'.length)(h:∀(i:Nat) (c c':CA),cells[i]? =some c->cells'[i]? =some c'->∀S w u,c.has S w u->c'.has S w u):aF (.c (.sat (aQ size n cells))) (.c (.sat (aQ size n cells'))):=fun E S w v hv=>alX hl (fun i c c' h1 h2=>h i c c' h1 h2 S w) hv
def acP(x y:CA):Prop:=∀S w u,x.has S w u->y.has S w u
theorem acP.refl(x:CA):acP x x:=fun _ _ _ h=>h
theorem aK.len{α β:Type}{R:α->β->Prop}:∀{l:List α} {l':List β},aK R l l'->l.length=l'.length
 |[],[],_=>rfl
 |_::_,_::_,h=>by rw[zx6,zx6,aK.len h.2]
theorem aK.at{α β:Type}{R:α->β->Prop}:∀{l:List α} {l':List β},aK R l l'->∀(i:Nat) (a:α) (b:β),l[i]? =some a->l'[i]? =some b->R a b
 |_::_,_::_,h,0,a,b,ha,hb=>by cases ha;cases hb;exact h.1
 |_::_,_::_,h,i+1,a,b,ha,hb=>aK.at h.2 i a b ha hb
theorem aK.app{α β:Type}{R:α->β->Prop}:∀{l:List α} {l':List β} {m:List α} {m':List β},aK R l l'->aK R m m'->aK R (l++m) (l'++m')
 |[],[],_,_,_,h=>h
 |_::_,_::_,_,_,h,h2=>⟨h.1,aK.app h.2 h2⟩
theorem aK.flat{α β γ:Type}{R:CA->CA->Prop}{enc:α->List CA}{enc':β->List CA}{f:γ->α}{g:γ->β}:∀(l:List γ),(∀x∈l,aK R (enc (f x)) (enc' (g x)))->aK R ((l.map f).flatMap enc) ((l.map g).flatMap enc')
 |[],_=>trivial
 |x::l,h=>aK.app (h x (zq9 ..)) (aK.flat l fun y hy=>h y (zy2 _ hy))
theorem aF.row{α β γ:Type}{size:Nat}{enc:α->List CA}{enc':β->List CA}{f:γ->α}{g:γ->β}(l:List γ)(h:∀x∈l,aK acP (enc (f x)) (enc' (g x))):aF (.c (.sat (aB size enc (l.map f)))) (.c (.sat (aB size enc' (l.map g)))):=by
 have h2:=aK.flat l h;show aF (.c (.sat (aQ size (l.map f).length ((l.map f).flatMap enc)))) (.c (.sat (aQ size (l.map g).length ((l.map g).flatMap enc'))));rw[zq5,zq5];exact aF.slice (aK.len h2) (fun i c c' h3 h4=>aK.at h2 i c c' h3 h4)
theorem adn(n:Nat):acP (.sat (bU n)) (.sat (bL (wds n))):=fun S w v h=>by
 obtain⟨l,h1,h2,_,h4⟩:=aaH.1 h;have:=qX (nC.1 h4).1 h1;rw[h2]at this;rw[<-this];exact h4
theorem aF.nrm(n:Nat):aF (.c (.sat (bU n))) (.c (.sat (bL (wds n)))):=fun E S w v h=>adn n S w v h
theorem aF.nil{α:Type}{size:Nat}{enc:α->List CA}:aF (.c (.val (.slice none 0 0))) (.c (.sat (aB size enc []))):=fun E S w v h=>by
 rw[show v= .slice none 0 0 from h];exact akw
theorem aF.qU:aF (.c (.val (.slice none 0 0))) (.c (.sat (bL []))):=fun E S w v h=>by
 rw[show v= .slice none 0 0 from h]
 exact nC.2 ⟨Sm.nil,(akw (α:=Nat) (enc:=wdC) (size:=1):(aB 1 wdC []).has S w _)⟩
theorem aF.rats(vs:List Rat):aF (.c (.sat (aB 4 q4C (vs.map q4v)))) (.c (.sat (aB 4 q4C ((vs.map cq).map rq)))):=by
 rw[zv4];exact aF.row vs fun x _=>⟨acP.refl _,adn _,acP.refl _,adn _,trivial⟩
theorem ku(v:Rat):rqv (cq v)=v:=by
 show qv (sgn (decide (v.num < 0)) (nval WB (wds v.num.natAbs))) (sgn (decide ((v.den:Int) < 0)) (nval WB (wds (v.den:Int).natAbs)))=v;rw[nU,nU,aj6,aj6];exact jq v
theorem pW(z:Int):rzv (cz z)=z:=by
 show sgn (decide (z < 0)) (nval WB (wds z.natAbs))=z;rw[nU,aj6]
theorem aj3(v:Rat):Sm WB (cq v).2.1/\Sm WB (cq v).2.2.2:=⟨abg _,abg _⟩
theorem apk(z:Int):Sm WB (cz z).2:=abg _
theorem RSm.cq(vs:List Rat):RSm (vs.map cq):=fun x hx=>by obtain⟨v,_,rfl⟩:=zqg.1 hx;exact aj3 v
theorem RLen.cq{vs:List Rat}{K:Nat}(h:∀v∈vs,RB v K):RLen (vs.map cq) K:=fun x hx=>by
 obtain⟨v,hv,rfl⟩:=zqg.1 hx;exact⟨mJ (h v hv).n,mJ (by rw[zxa];exact(h v hv).d)⟩
theorem asA(vs:List Rat):(vs.map cq).map rqv=vs:=by
 rw[zv4,show rqv ∘ cq=id from funext ku,List.map_id]
theorem arS(zs:List Int):(zs.map cz).map rzv=zs:=by
 rw[zv4,show rzv ∘ cz=id from funext pW,List.map_id]
theorem MV.cq{vs:List Rat}{K:Nat}(h:∀v∈vs,RB v K):MV ((vs.map cq).map rq) vs K:=by
 have:=MV.raw (RSm.cq vs) (RLen.cq h)
 rwa [asA]at this
theorem Ra.cq{v:Rat}{K:Nat}(h:RB v K):Ra (q4A (rq (cq v))) v K:=by
 have:=(MV.cq (vs:=[v]) (K:=K) fun u hu=>by rw[zxi.1 hu];exact h).ra 0 _ _ rfl rfl
 exact this
end
section
open Go.RowKit QM SX LA
attribute [local irreducible] IntKind.wrap Go1 Reg WP aJ aN bF bD aM aA ak aj aT Sat
attribute [local irreducible] bK bO bM bS bN qv bZ mf
section
variable{P:Program}{C:Ctx}{st:St}
theorem u6{r:ResultVar}{x y:AV0}(h:ak P st r x)(e:x.imp y):aM C P [r] ⟨.it y,[]⟩ st:= .ok (aA.mk1 (h.imp e))
end
theorem ajU{v:Rat}:AV0.imp (.agg [.c (.val (.int .i64 1)),.c (.val (.bool (decide (v.num < 0)))),.c (.sat (bU v.num.natAbs)),.c (.val (.bool (decide ((v.den:Int) < 0)))),.c (.sat (bU (v.den:Int).natAbs)),.c (.val (.int .i64 0)),.c (.val (.int .i64 0)),.c (.val (.slice none 0 0)),.c (.val (.slice none 0 0)),.c (.val (.int .u64 0)),.c (.val (.int .i64 0)),.c (.val (.int .i64 0)),.c (.val (.slice none 0 0)),.c (.val (.slice none 0 0)),.c (.val (.slice none 0 0))]) (.agg (vlA (bW v))):=
 jA ⟨aF.refl _,aF.refl _,aF.nrm _,aF.refl _,aF.nrm _,aF.refl _,aF.refl _,aF.nil,aF.nil,aF.refl _,aF.refl _,aF.refl _,aF.nil,aF.nil,aF.nil,trivial⟩
theorem jJ{q:Q4}{v:Rat}{K:Nat}(h:Ra (q4A q) v K)(hK:K<=100000):ah prog 5 [.agg (q4A q)] (.agg (vlA (bW v))):=by
 have cO:ah prog 23 [.agg [.c (.val (.bool false)),.c (.val (.slice none 0 0))]] (.agg (qA 0)):=tu.h zc
 haveI:Ra (qA 0) 0 1:=(RB.zero (zq6 1)).ra
 obtain⟨X,cA,hX⟩:=eAdd (q4A q) (qA 0) (K:=K) (K':=1) zE
 rw[Rat.add_zero]at hX;have e:=hX.nf;subst e;refine ah.fq func5 results5 ntmps5 fun _ _ _ _ _=>?_
 refine zg ?_;refine u6 ak.gL ?_;exact ajU
theorem RB.ofI{z:Int}{K:Nat}(h:z.natAbs < WB ^ K)(h1:1<=K):RB (z:Rat) K:=RB.of (p:=z) (q:=1) zc (by unfold qv;grind) h (by
 rw[show (1:Int).natAbs=1 from rfl]
 exact(Bd.mono Bd.one.h h1:(1:Int).natAbs < WB ^ K))
theorem dY{q:Z2}{z:Int}{K:Nat}(h:ZQ q z K)(h1:1<=K)(hK:K<=100000):ah prog 6 [.agg (z2A q)] (.agg (vlA (bW (z:Rat)))):=by
 haveI:=h.zi
 have cO:ah prog 23 [.agg (z2A q)] (.agg (qA (z:Rat))):=tu.h zE
 have hR:RB (z:Rat) K:=RB.ofI h.b h1;have cN:ah prog 5 [.agg (qA (z:Rat))] (.agg (vlA (bW (z:Rat)))):=jJ (q:=q4v z) hR.ra hK;refine ah.fq func6 results6 ntmps6 fun _ _ _ _ _=>?_
 refine zg ?_;refine u6 ak.gL ?_;exact zv _
theorem apH{P:Program}{f:FuncId}{l l':List Atom}{r:AV}(h:ah P f [.agg l'] r)(hi:aK aF l l'):ah P f [.agg l] r:=
 h.args fun E S w vs hv=>by
  match vs,hv with
  |[u],⟨h1,_⟩=>exact⟨jA hi E S w u h1,trivial⟩
theorem ahI:ah prog 6 [.agg [.c (.val (.bool false)),.c (.val (.slice none 0 0))]] (.agg (vlA (bW 0))):=
 apH (dY (q:=(false,bL [])) (z:=0) (K:=1) (ZQ.raw (b:=false) (l:=[]) Sm.nil zc) zc zc) ⟨aF.refl _,aF.qU,trivial⟩
theorem tY(b:Bool):ah prog 19 [.v (.bool b)] (.agg (vlA (bW (if b then 1 else 0)))):=by
 have c0:ah prog 6 [.agg [.c (.val (.bool false)),.c (.val (.slice none 0 0))]] (.agg (vlA (bW 0))):=ahI;have c1:ah prog 6 [.agg (zN 1)] (.agg (vlA (bW 1))):=dY (K:=1) (z:=1) (ZQ.made (by rw[dn];decide)) zc zc
 have o1:=anb;cases b
 ·refine ah.fq func19 results19 ntmps19 fun w0 T B E0 hB=>?_
  refine zg ?_;refine u6 ak.gL ?_;exact zv _
 ·refine ah.fq func19 results19 ntmps19 fun w0 T B E0 hB=>?_
  refine zg ?_;refine u6 ak.gL ?_;exact zv _
theorem aF.rats2(vs:List Rat):aF (.c (.sat (aQ 4 vs.length (vs.flatMap qC)))) (.c (.sat (aB 4 q4C ((vs.map cq).map rq)))):=by
 have h:=aF.rats vs;rw[show aB 4 q4C (vs.map q4v)=aQ 4 vs.length (vs.flatMap qC)by
  show aQ 4 (vs.map q4v).length ((vs.map q4v).flatMap q4C)=_;rw[zq5,List.flatMap_map]]at h
 exact h
theorem aaS{r c:Nat}{l:List Q4}{vs:List Rat}{K:Nat}(hM:MV l vs K)(hl:l.length=r*c)(hr:r<=64)(hc:c<=64)(hK:K<=100000):ah prog 123 [.agg (wY r c l)] (.agg (vlA (iJ r c vs))):=by
 have hb:=zxd hr hc;have cF:=zY (cells:=l.flatMap q4C) hl hr hc;have cO:ah prog 23 [.agg [.c (.val (.bool false)),.c (.val (.slice none 0 0))]] (.agg (qA 0)):=tu.h zc
 haveI:Ra (qA 0) 0 1:=(RB.zero (zq6 1)).ra
 refine ah.fq func123 results123 ntmps123 fun _ _ _ _ _=>?_
 refine zg ?_;refine W.loop (fun k=>k<=l.length) (fun k=>[(2,.ptr 2 0),(3,.ptr 3 0),(16,.r (aB 4 q4C l)),(17,.v (.int .i64 (l.length:Int))),(18,.v (.int .i64 (k:Int)))]) (fun k=>[(2,.box 40 [.c (.val (.int .i64 0)),.c (.val (.bool false)),.c (.val (.slice none 0 0)),.c (.val (.bool false)),.c (.val (.slice none 0 0)),.c (.val (.int .i64 0)),.c (.val (.int .i64 0)),.c (.val (.slice none 0 0)),.c (.val (.slice none 0 0)),.c (.val (.int .u64 0)),.c (.val (.int .i64 0)),.c (.val (.int .i64 0)),.c (.val (.slice none 0 0)),.c (.val (.slice none 0 0)),.c (.val (.slice none 0 0))]),(3,.box 31 [.c (.val (.int .i64 (r:Int))),.c (.val (.int .i64 (c:Int))),.own 100]),(100,.row 27 4 k ((vs.take k).flatMap qC))]) (fun k=>l.length - k) 0 (zq8 _) (fun k hk=>?_)
  (by
   refine St.bV [(100,none)] zt ?_ ?_ rfl
   ·exact ya
   ·exact⟨ay.same rfl rfl,ay.nW rfl rfl ⟨aD.same rfl,aD.same rfl,aD.nil rfl,trivial⟩,ay.dZ rfl,trivial⟩)
 by_cases h:k < l.length
 ·obtain⟨q,hq⟩:∃q,l[k]? =some q:=⟨_,zyh h⟩
  obtain⟨v,hv⟩:∃v,vs[k]? =some v:=⟨_,zyh (by rw[<-hM.len];exact h)⟩
  haveI:=hM.ra k q v hq hv
  obtain⟨X,cA,hX⟩:=eAdd (q4A q) (qA 0) (K:=K) (K':=1) zE
  rw[Rat.add_zero]at hX;have e:=hX.nf;subst e;have e2:(vs.take k).flatMap qC++qC v=(vs.take (k+1)).flatMap qC:=by rw[zw7,hv];simp
  refine zg ?_;refine W.next (k+1) h zE (by
   refine St.bV [(100,some 29)] zt ?_ ?_ rfl
   ·exact yb
   ·exact⟨ay.same rfl rfl,ay.nW rfl rfl ⟨aD.same rfl,aD.same rfl,aD.own rfl,trivial⟩,ay.row rfl rfl rfl e2,trivial⟩)
 ·obtain rfl:k=l.length:=zE
  refine zg ?_;refine aM.frz 100 ?_;refine u6 ak.gL ?_;rw[hM.len,zy8];exact jA ⟨aF.refl _,aF.refl _,aF.qU,aF.refl _,aF.qU,aF.refl _,aF.refl _,aF.rats2 vs,aF.nil,aF.refl _,aF.refl _,aF.refl _,aF.nil,aF.nil,aF.nil,trivial⟩
end
section
open Go.RowKit QM SX LA
section
theorem W.asR{P:Program}{C:Ctx}{st:St}{Q:Exit->St->Prop}{x y:Code}(I:List (Nat×AV))(H:List (Nat×Ent))(h:WP P C x st (aJ (fun s=>St.le C s (fP I H)) Q))(k:WP P C y (fP I H) Q):WP P C x st (aJ (fun s=>WP P C y s Q) Q):=
 WP.mono h fun e s hq=>by
  cases e with
  |normal=>exact k.weaken hq
  |_=>exact hq
theorem W.meet2{P:Program}{C:Ctx}{st:St}{Q:Exit->St->Prop}{x y z:Code}(I:List (Nat×AV))(H:List (Nat×Ent))(h:WP P C x st (aJ (fun s=>WP P C y s (aJ (fun s=>St.le C s (fP I H)) Q)) Q))(k:WP P C z (fP I H) Q):WP P C (.seq x (.seq y z)) st Q:=by
 refine WP.seq (WP.mono h fun e s hq=>?_)
 cases e with
 |normal=>exact WP.seq (WP.mono hq fun e s hq=>by
   cases e with
   |normal=>exact k.weaken hq
   |_=>exact hq)
 |_=>exact hq
attribute [local irreducible] IntKind.wrap Go1 Reg WP aJ aN bF bD aM aA ak aj aT Sat
attribute [local irreducible] bK bO bM bS bN qv bZ mf
theorem aqG(q:jD):q=rq0↔q.2.1.length=0/\q.2.2.2.length=0/\q.1=false/\q.2.2.1=false:=by
 constructor
 ·rintro rfl;exact⟨rfl,rfl,rfl,rfl⟩
 ·obtain⟨b,l,b',l'⟩:=q;rintro⟨h1,h2,h3,h4⟩
  dsimp only at h1 h2 h3 h4
  rw[zx5 h1,zx5 h2,h3,h4]
def pt(p:Prop)[Decidable p]:Nat:=if p then 1 else 0
def vP(v:Vl):Nat:=pt (v.k≠1/\v.q≠rq0)+pt (v.k≠2/\¬(v.r=0/\v.c=0/\v.a.length=0))+pt (v.k≠3/\v.po.length≠0)+pt (v.k≠4/\¬(v.fr=0/\v.fc=0/\v.fa.length=0))+pt (v.k≠5/\v.ri.length≠0)+pt ((v.k≠4/\v.k≠5)/\v.p≠0)+pt (v.k≠6/\v.li.length≠0)
end
attribute [local irreducible] IntKind.wrap Go1 Reg WP aJ aN bF bD aM aA ak aj aT Sat
section
def zOk(x:qx):Bool:=if x.2.length=0 then !x.1 else decide (x.2.getD (x.2.length - 1) 0≠0)
theorem adL{x:qx}(hs:Sm WB x.2):zOk x=true↔x=cz (rzv x):=by
 constructor
 ·intro h;obtain⟨b,l⟩:=x;unfold zOk at h
  dsimp only at h hs
  have hn:Nrm l:=by
   split at h
   ·next h0=>exact .inl (zx5 h0)
   ·exact .inr (of_decide_eq_true h)
  have hw:=qX hs hn;have hna:(sgn b (nval WB l)).natAbs=nval WB l:=by unfold sgn;split <;> omega
  show (b,l)=(decide (sgn b (nval WB l) < 0),wds (sgn b (nval WB l)).natAbs);rw[hna,<-hw]
  congr 1
  split at h
  ·next h0=>
   have hb:b=false:=by simpa using h
   subst hb;exact(decide_eq_false (by unfold sgn;simp)).symm
  ·next h0=>
   have hne:nval WB l≠0:=fun e=>h0 (by rw[hw,e];exact(rE 0).2 rfl)
   cases b
   ·exact(decide_eq_false (by unfold sgn;simp)).symm
   ·exact(decide_eq_true (by unfold sgn;simp;omega)).symm
 ·intro h;rw[h];generalize rzv x=z;unfold zOk cz
  dsimp only
  split
  ·next h0=>
   have hz:=(rE z.natAbs).1 h0;rw[decide_eq_false zE];rfl
  ·next h0=>
   rcases zQ z.natAbs with h|h
   ·rw[h]at h0;exact absurd rfl h0
   ·exact decide_eq_true h
def qOk(q:jD):Bool:=zOk (q.1,q.2.1)&&zOk (q.2.2.1,q.2.2.2)&&decide (0 < rzv (q.2.2.1,q.2.2.2))&&decide (Int.gcd (rzv (q.1,q.2.1)) (rzv (q.2.2.1,q.2.2.2))=1)
theorem ajn{q:jD}(hs:Sm WB q.2.1/\Sm WB q.2.2.2):qOk q=true↔q=cq (rqv q):=by
 have e1:=adL (x:=(q.1,q.2.1)) hs.1;have e2:=adL (x:=(q.2.2.1,q.2.2.2)) hs.2;unfold qOk;rw[zx4,zx4,zx4,e1,e2,decide_eq_true_iff,decide_eq_true_iff];obtain⟨b,l,b',l'⟩:=q
 dsimp only
 constructor
 ·rintro⟨⟨⟨h1,h2⟩,h3⟩,h4⟩;have hr:rqv (b,l,b',l')=qv (rzv (b,l)) (rzv (b',l')):=rfl;have hX:Rd (rzv (b,l),rzv (b',l')) (rqv (b,l,b',l')) (l.length+l'.length+1):=⟨hr.symm,h3,h4,⟨zqf (ZQ.raw (b:=b) (l:=l) hs.1 (zq6 _)).b (zx2 aZ zE)⟩,⟨zqf (ZQ.raw (b:=b') (l:=l') hs.2 (zq6 _)).b (zx2 aZ zE)⟩⟩
  have hn:=hX.nf
  injection hn with n1 n2
  injection h1 with a1 a2
  injection h2 with a3 a4
  unfold cq;rw[<-n1,<-n2];exact Prod.ext a1 (Prod.ext a2 (Prod.ext a3 a4))
 ·intro h;generalize rqv (b,l,b',l')=v at h
  injection h with h1 h
  injection h with h2 h
  injection h with h3 h4
  have z1:rzv (b,l)=v.num:=by rw[h1,h2];exact pW v.num
  have z2:rzv (b',l')=(v.den:Int):=by rw[h3,h4];exact pW (v.den:Int)
  rw[z1,z2];refine⟨⟨⟨?_,?_⟩,?_⟩,?_⟩
  ·rw[h1,h2];rfl
  ·rw[h3,h4];rfl
  ·have:=v.den_nz;omega
  ·have h2:Nat.Coprime v.num.natAbs v.den:=v.reduced;unfold Int.gcd;rw[zxa];exact h2
theorem aeu{α:Type}{p:α->Bool}(l:List α):decide (¬fi p l 0 < 0)=l.any p:=by
 rw[zyc,decide_eq_true_iff,List.any_eq_true];constructor
 ·intro h;obtain⟨i,a,_,h2,h3⟩:=ajD l 0 h;exact⟨a,zq4 h2,h3⟩
 ·rintro⟨a,h1,h2⟩ h3;rw[ajb h3 a h1]at h2;cases h2
attribute [local irreducible] bK bO bM bS bN qv bZ mf
theorem uI(x:qx)(hl:x.2.length<=1000000000):ah prog 183 [.agg (z2A (rz x))] (.v (.bool (zOk x))):=by
 unfold zOk;refine ah.fq func183 results183 ntmps183 fun _ _ _ _ _=>?_
 by_cases h0:x.2.length=0
 ·rw[if_pos h0];cases h1:x.1
  ·refine zg ?_;refine bf ?_;rfl
  ·refine zg ?_;refine bf ?_;rfl
 ·rw[if_neg h0];obtain⟨w,hw⟩:∃w,x.2[x.2.length - 1]? =some w:=⟨_,zyh zE⟩
  have hg:x.2.getD (x.2.length - 1) 0=w:=by rw[zx7,hw];rfl
  rw[hg];refine zg ?_;refine bf ?_;rw[decide_eq_decide];omega
theorem gsame(q:jD)(hs:Sm WB q.2.1/\Sm WB q.2.2.2)(hl:q.2.1.length+q.2.2.2.length<=1000000):ah prog 58 [.agg (zN (Int.gcd (rzv (q.1,q.2.1)) (rzv (q.2.2.1,q.2.2.2)):Int)),.agg (zN 1)] (.v (.bool (decide (Int.gcd (rzv (q.1,q.2.1)) (rzv (q.2.2.1,q.2.2.2))=1)))):=by
 haveI b1:Bd (rzv (q.1,q.2.1)) q.2.1.length:=⟨(ZQ.raw (b:=q.1) hs.1 (zq6 _)).b⟩
 haveI b2:Bd (rzv (q.2.2.1,q.2.2.2)) q.2.2.2.length:=⟨(ZQ.raw (b:=q.2.2.1) hs.2 (zq6 _)).b⟩
 haveI b3:Bd (Int.gcd (rzv (q.1,q.2.1)) (rzv (q.2.2.1,q.2.2.2)):Int) (q.2.1.length+q.2.2.2.length):=⟨by rw[zxa];exact(BdN.igcd _ _ _ _).h⟩
 have h:=(akM (l:=zN (Int.gcd (rzv (q.1,q.2.1)) (rzv (q.2.2.1,q.2.2.2)):Int)) (l':=zN 1)).h (show q.2.1.length+q.2.2.2.length+1<=1099511627774 by omega)
 rw[show decide ((Int.gcd (rzv (q.1,q.2.1)) (rzv (q.2.2.1,q.2.2.2)):Int)=1)=decide (Int.gcd (rzv (q.1,q.2.1)) (rzv (q.2.2.1,q.2.2.2))=1)from decide_eq_decide.2 zE]at h
 exact h
theorem afS(q:jD)(hs:Sm WB q.2.1/\Sm WB q.2.2.2)(hl:q.2.1.length+q.2.2.2.length<=1000000):ah prog 177 [.agg (q4A (rq q))] (.v (.bool (qOk q))):=by
 have c1:=uI (q.1,q.2.1) (by dsimp only;omega)
 have c2:=uI (q.2.2.1,q.2.2.2) (by dsimp only;omega)
 have cS:=sU (h:=ZI.raw q.2.2.1 q.2.2.2).h (show q.2.2.2.length<=1099511627775 by omega)
 have cG:=(aoU (h:=ZI.raw q.1 q.2.1) (h':=ZI.raw q.2.2.1 q.2.2.2)).h (show q.2.1.length+q.2.2.2.length<=1099511627760 by omega)
 have o1:=anb;have cE:=gsame q hs hl;unfold qOk;have hsg:=auE (rzv (q.2.2.1,q.2.2.2));change ah _ _ _ (.v (.int .i64 (aS (rzv (q.2.2.1,q.2.2.2)))))at cS
 change ah _ _ _ (.agg (zN (Int.gcd (rzv (q.1,q.2.1)) (rzv (q.2.2.1,q.2.2.2)):Int)))at cG
 generalize rzv (q.2.2.1,q.2.2.2)=z at*;refine ah.fq func177 results177 ntmps177 fun _ _ _ _ _=>?_
 cases h1:zOk (q.1,q.2.1)
 ·rw[h1]at c1;refine zg ?_;exact bf rfl
 ·rw[h1]at c1;cases h2:zOk (q.2.2.1,q.2.2.2)
  ·rw[h2]at c2;refine zg ?_;exact bf rfl
  ·rw[h2]at c2;by_cases h3:0 < z
   ·refine zg ?_;refine bf ?_;rw[decide_eq_true h3];rfl
   ·refine zg ?_;refine bf ?_;rw[decide_eq_false h3];rfl
theorem ap0(l:List jD)(x:CA)(p:jD->Bool)(hx:∀v∈l,FnV prog x [.agg (q4A (rq v))] (.v (.bool (p v))))(hl:l.length<=100000)(hx1:x.eO=true):
  ah prog 306 [.r (aB 4 q4C (l.map rq)),.it (.one (.c x))] (.v (.int .i64 (fi p l 0))):=by
 have hlen:(l.map rq).length=l.length:=zq5 _;refine ah.fq func306 results306 ntmps306 fun _ _ _ _ _=>?_
 refine zg ?_;refine W.loop (fun k=>k<=l.length/\fi p (l.drop k) k=fi p l 0) (fun k=>[(0,.r (aB 4 q4C (l.map rq))),(1,.it (.one (.c x))),(7,.v (.int .i64 (l.length:Int))),(8,.v (.int .i64 (k:Int)))]) (fun _=>[]) (fun k=>l.length - k) 0 ⟨zq8 _,rfl⟩ (fun k ⟨hk,he⟩=>?_)
 by_cases h:k < l.length
 ·obtain⟨r,hr⟩:∃r,l[k]? =some r:=⟨_,zyh h⟩
  have hf:=hx r (zq4 hr);have hq:(l.map rq)[k]? =some (rq r):=by rw[zqa,hr];rfl
  have h':k < (l.map rq).length:=by rw[zq5];exact h
  rw[tK hr]at he;cases hp:p r with
  |true=>
   rw[hp]at hf he;refine zg ?_;refine iw ?_;rw[<-he];rfl
  |false=>
   rw[hp]at hf he;refine zg ?_;exact W.next (k+1) ⟨h,he⟩ zE
 ·obtain rfl:k=l.length:=zE
  rw[zvh]at he;have h':¬l.length < (l.map rq).length:=by rw[zq5];omega
  refine zg ?_;refine iw ?_;rw[<-he];rfl
theorem aoY(l:List jD)(x:CA)(p:jD->Bool)(hx:∀v∈l,FnV prog x [.agg (q4A (rq v))] (.v (.bool (p v))))(hl:l.length<=100000)(hx1:x.eO=true):
  ah prog 179 [.r (aB 4 q4C (l.map rq)),.it (.one (.c x))] (.v (.bool (l.any p))):=by
 have c:=ap0 l x p hx hl hx1;rw[<-aeu];refine ah.fq func179 results179 ntmps179 fun _ _ _ _ _=>?_
 refine zg ?_;refine bf ?_;rw[decide_eq_decide];omega
theorem al6(l:List jD)(f:FuncId)(p:jD->Bool)(hx:∀v∈l,ah prog f [.agg (q4A (rq v))] (.v (.bool (p v))))(hl:l.length<=100000):
  ah prog 179 [.r (aB 4 q4C (l.map rq)),.it (.one (.clo f []))] (.v (.bool (l.any p))):=
 weakArgs (aoY l (.sat (fD f [] [])) p (fun v h=>FnV.const (hx v h)) hl rfl) fun E S w vs hv=>by
  match vs,hv with
  |[u1,u2],⟨h1,h2,_⟩=>exact⟨h1,an8 h2,trivial⟩
theorem aq6(l:List qx)(x:CA)(p:qx->Bool)(hx:∀v∈l,FnV prog x [.agg (z2A (rz v))] (.v (.bool (p v))))(hl:l.length<=100000)(hx1:x.eO=true):
  ah prog 307 [.r (aB 2 z2C (l.map rz)),.it (.one (.c x))] (.v (.int .i64 (fi p l 0))):=by
 have hlen:(l.map rz).length=l.length:=zq5 _;refine ah.fq func307 results307 ntmps307 fun _ _ _ _ _=>?_
 refine zg ?_;refine W.loop (fun k=>k<=l.length/\fi p (l.drop k) k=fi p l 0) (fun k=>[(0,.r (aB 2 z2C (l.map rz))),(1,.it (.one (.c x))),(7,.v (.int .i64 (l.length:Int))),(8,.v (.int .i64 (k:Int)))]) (fun _=>[]) (fun k=>l.length - k) 0 ⟨zq8 _,rfl⟩ (fun k ⟨hk,he⟩=>?_)
 by_cases h:k < l.length
 ·obtain⟨r,hr⟩:∃r,l[k]? =some r:=⟨_,zyh h⟩
  have hf:=hx r (zq4 hr);have hq:(l.map rz)[k]? =some (rz r):=by rw[zqa,hr];rfl
  have h':k < (l.map rz).length:=by rw[zq5];exact h
  rw[tK hr]at he;cases hp:p r with
  |true=>
   rw[hp]at hf he;refine zg ?_;refine iw ?_;rw[<-he];rfl
  |false=>
   rw[hp]at hf he;refine zg ?_;exact W.next (k+1) ⟨h,he⟩ zE
 ·obtain rfl:k=l.length:=zE
  rw[zvh]at he;have h':¬l.length < (l.map rz).length:=by rw[zq5];omega
  refine zg ?_;refine iw ?_;rw[<-he];rfl
theorem aoi(l:List qx)(x:CA)(p:qx->Bool)(hx:∀v∈l,FnV prog x [.agg (z2A (rz v))] (.v (.bool (p v))))(hl:l.length<=100000)(hx1:x.eO=true):
  ah prog 181 [.r (aB 2 z2C (l.map rz)),.it (.one (.c x))] (.v (.bool (l.any p))):=by
 have c:=aq6 l x p hx hl hx1;rw[<-aeu];refine ah.fq func181 results181 ntmps181 fun _ _ _ _ _=>?_
 refine zg ?_;refine bf ?_;rw[decide_eq_decide];omega
theorem am3(l:List qx)(f:FuncId)(p:qx->Bool)(hx:∀v∈l,ah prog f [.agg (z2A (rz v))] (.v (.bool (p v))))(hl:l.length<=100000):
  ah prog 181 [.r (aB 2 z2C (l.map rz)),.it (.one (.clo f []))] (.v (.bool (l.any p))):=
 weakArgs (aoi l (.sat (fD f [] [])) p (fun v h=>FnV.const (hx v h)) hl rfl) fun E S w vs hv=>by
  match vs,hv with
  |[u1,u2],⟨h1,h2,_⟩=>exact⟨h1,an8 h2,trivial⟩
theorem amQ(l:List Nat)(x:CA)(p:Nat->Bool)(hx:∀v∈l,FnV prog x [.v (.int .u64 (v:Int))] (.v (.bool (p v))))(hl:l.length<=100000)(hx1:x.eO=true):
  ah prog 402 [.r (aB 1 wdC l),.it (.one (.c x))] (.v (.int .i64 (fi p l 0))):=by
 refine ah.fq func402 results402 ntmps402 fun _ _ _ _ _=>?_
 refine zg ?_;refine W.loop (fun k=>k<=l.length/\fi p (l.drop k) k=fi p l 0) (fun k=>[(0,.r (aB 1 wdC l)),(1,.it (.one (.c x))),(7,.v (.int .i64 (l.length:Int))),(8,.v (.int .i64 (k:Int)))]) (fun _=>[]) (fun k=>l.length - k) 0 ⟨zq8 _,rfl⟩ (fun k ⟨hk,he⟩=>?_)
 by_cases h:k < l.length
 ·obtain⟨r,hr⟩:∃r,l[k]? =some r:=⟨_,zyh h⟩
  have hf:=hx r (zq4 hr);rw[tK hr]at he;cases hp:p r with
  |true=>
   rw[hp]at hf he;refine zg ?_;refine iw ?_;rw[<-he];rfl
  |false=>
   rw[hp]at hf he;refine zg ?_;exact W.next (k+1) ⟨h,he⟩ zE
 ·obtain rfl:k=l.length:=zE
  rw[zvh]at he;refine zg ?_;refine iw ?_;rw[<-he];rfl
theorem anY(l:List Nat)(x:CA)(p:Nat->Bool)(hx:∀v∈l,FnV prog x [.v (.int .u64 (v:Int))] (.v (.bool (p v))))(hl:l.length<=100000)(hx1:x.eO=true):
  ah prog 309 [.r (aB 1 wdC l),.it (.one (.c x))] (.v (.bool (l.any p))):=by
 have c:=amQ l x p hx hl hx1;rw[<-aeu];refine ah.fq func309 results309 ntmps309 fun _ _ _ _ _=>?_
 refine zg ?_;refine bf ?_;rw[decide_eq_decide];omega
theorem apR(l:List Vl)(x:CA)(p:Vl->Bool)(hx:∀v∈l,FnV prog x [.agg (vlA v)] (.v (.bool (p v))))(hl:l.length<=100000)(hx1:x.eO=true):
  ah prog 311 [.r (aB 15 vlC l),.it (.one (.c x))] (.v (.int .i64 (fi p l 0))):=by
 rw[vT];refine ah.fq func311 results311 ntmps311 fun _ _ _ _ _=>?_
 refine zg ?_;refine W.loop (fun k=>k<=l.length/\fi p (l.drop k) k=fi p l 0) (fun k=>[(0,.r (aB 15 vlE l)),(1,.it (.one (.c x))),(7,.v (.int .i64 (l.length:Int))),(8,.v (.int .i64 (k:Int)))]) (fun _=>[]) (fun k=>l.length - k) 0 ⟨zq8 _,rfl⟩ (fun k ⟨hk,he⟩=>?_)
 by_cases h:k < l.length
 ·obtain⟨r,hr⟩:∃r,l[k]? =some r:=⟨_,zyh h⟩
  have hf:=hx r (zq4 hr);rw[tK hr]at he;cases hp:p r with
  |true=>
   rw[hp]at hf he;refine zg ?_;refine iw ?_;rw[<-he];rfl
  |false=>
   rw[hp]at hf he;refine zg ?_;exact W.next (k+1) ⟨h,he⟩ zE
 ·obtain rfl:k=l.length:=zE
  rw[zvh]at he;refine zg ?_;refine iw ?_;rw[<-he];rfl
theorem ao7(l:List Vl)(x:CA)(p:Vl->Bool)(hx:∀v∈l,FnV prog x [.agg (vlA v)] (.v (.bool (p v))))(hl:l.length<=100000)(hx1:x.eO=true):
  ah prog 186 [.r (aB 15 vlC l),.it (.one (.c x))] (.v (.bool (l.any p))):=by
 have c:=apR l x p hx hl hx1;rw[<-aeu];refine ah.fq func186 results186 ntmps186 fun _ _ _ _ _=>?_
 refine zg ?_;refine bf ?_;rw[decide_eq_decide];omega
end
section
theorem vP0(v:Vl):vP v=0↔(v.k=1\/(v.q.2.1.length=0/\v.q.2.2.2.length=0/\v.q.1=false/\v.q.2.2.1=false))/\(v.k=2\/(v.r=0/\v.c=0/\v.a.length=0))/\(v.k=3\/v.po.length=0)/\(v.k=4\/(v.fr=0/\v.fc=0/\v.fa.length=0))/\(v.k=5\/v.ri.length=0)/\(v.k=4\/v.k=5\/v.p=0)/\(v.k=6\/v.li.length=0):=by
 have e:∀(p:Prop) [Decidable p],pt p=0↔¬p:=fun p _=>by unfold pt;split <;> simp_all
 unfold vP;rw[Nat.add_eq_zero_iff,Nat.add_eq_zero_iff,Nat.add_eq_zero_iff,Nat.add_eq_zero_iff,Nat.add_eq_zero_iff,Nat.add_eq_zero_iff,e,e,e,e,e,e,e,<-aqG];constructor
 ·rintro⟨⟨⟨⟨⟨⟨h1,h2⟩,h3⟩,h4⟩,h5⟩,h6⟩,h7⟩;refine⟨?_,zE,zE,zE,zE,zE,zE⟩
  by_cases h:v.k=1
  ·exact .inl h
  ·exact .inr (Decidable.byContradiction fun h'=>h1 ⟨h,h'⟩)
 ·rintro⟨h1,h2,h3,h4,h5,h6,h7⟩;refine⟨⟨⟨⟨⟨⟨?_,zE⟩,zE⟩,zE⟩,zE⟩,zE⟩,zE⟩
  rintro⟨h,h'⟩;exact h1.elim h h'
theorem nV{b:Bool}{l:List Nat}(h:l.length=0):bitLen (sgn b (nval WB l)).natAbs=0:=by
 rw[zx5 h];cases b <;> rfl
def kiC(k:Int):List CA:=[.val (.int .i64 k)]
instance:eY kiC 1:=⟨fun _=>rfl⟩
attribute [local irreducible] bK bO bM bS bN qv bZ mf
theorem anj(l:List Int)(i:Int)(hl:l.length<=1000):ah prog 351 [.r (aB 1 kiC l),.v (.int .i64 i)] (.v (.int .i64 (fi (fun a=>decide (i=a)) l 0))):=by
 refine ah.fq func351 results351 ntmps351 fun _ _ _ _ _=>?_
 refine zg ?_;refine W.loop (fun k=>k<=l.length/\fi (fun a=>decide (i=a)) (l.drop k) k=fi (fun a=>decide (i=a)) l 0) (fun k=>[(0,.r (aB 1 kiC l)),(1,.v (.int .i64 i)),(7,.v (.int .i64 (l.length:Int))),(8,.v (.int .i64 (k:Int)))]) (fun _=>[]) (fun k=>l.length - k) 0 ⟨zq8 _,rfl⟩ (fun k ⟨hk,he⟩=>?_)
 by_cases h:k < l.length
 ·obtain⟨r,hr⟩:∃r,l[k]? =some r:=⟨_,zyh h⟩
  rw[tK hr]at he;by_cases hp:i=r
  ·rw[if_pos (decide_eq_true hp)]at he;refine zg ?_;exact iw he
  ·rw[if_neg (by rw[decide_eq_false hp];decide)]at he
   refine zg ?_;exact W.next (k+1) ⟨h,he⟩ zE
 ·obtain rfl:k=l.length:=zE
  rw[zvh]at he;refine zg ?_;refine iw ?_;rw[<-he];rfl
theorem amo(k i:Int):ah prog 304 [.r (aB 1 kiC [k]),.v (.int .i64 i)] (.v (.bool (decide (i=k)))):=by
 have c:=anj [k] i (by rw[zw1];decide)
 refine ah.fq func304 results304 ntmps304 fun _ _ _ _ _=>?_
 have e:fi (fun a=>decide (i=a)) [k] 0=if i=k then 0 else -1:=by
  unfold fi;by_cases h:i=k
  ·rw[if_pos (decide_eq_true h),if_pos h];rfl
  ·rw[if_neg (by rw[decide_eq_false h];decide),if_neg h];rfl
 rw[e]at c;by_cases h:i=k
 ·rw[if_pos h]at c;refine zg ?_;refine bf ?_;rw[decide_eq_true h];first|rfl|decide
 ·rw[if_neg h]at c;refine zg ?_;refine bf ?_;rw[decide_eq_false h];first|rfl|decide
theorem aR(k i:Int):ah prog 303 [.v (.int .i64 i),.r (dK [.sat (aB 1 kiC [k])])] (.v (.bool (!decide (i=k)))):=by
 have c:=amo k i;refine ah.fq func303 results303 ntmps303 fun _ _ _ _ _=>?_
 refine zg ?_;exact bf rfl
structure vZ0(v:Vl):Prop where
 q:(Sm WB v.q.2.1/\Sm WB v.q.2.2.2)/\v.q.2.1.length<=100000/\v.q.2.2.2.length<=100000
 a:∀x∈v.a,(Sm WB x.2.1/\Sm WB x.2.2.2)/\x.2.1.length<=100000/\x.2.2.2.length<=100000
 al:v.a.length<=100000
 po:∀x∈v.po,Sm WB x.2/\x.2.length<=100000
 pol:v.po.length<=100000
 p:v.p < WB
 fa:∀x∈v.fa,x < WB
 fal:v.fa.length<=100000
 ri:∀x∈v.ri,x < WB
 ril:v.ri.length<=100000
 lil:v.li.length<=100000
theorem aeB(v:Vl)(hz:vZ0 v)(hk:v.k=1):ah prog 176 [.agg (vlA v),.r (aB 1 kiC [v.k])] (.v (.bool (decide (vP v=0)))):=by
 have c1:FnV prog (.sat (fD 303 [] [.sat (dK [.sat (aB 1 kiC [v.k])])])) [.v (.int .i64 1)] (.v (.bool (!decide (1=v.k)))):=FnV.clo (aR v.k 1);have c2:FnV prog (.sat (fD 303 [] [.sat (dK [.sat (aB 1 kiC [v.k])])])) [.v (.int .i64 2)] (.v (.bool (!decide (2=v.k)))):=FnV.clo (aR v.k 2);have c3:FnV prog (.sat (fD 303 [] [.sat (dK [.sat (aB 1 kiC [v.k])])])) [.v (.int .i64 3)] (.v (.bool (!decide (3=v.k)))):=FnV.clo (aR v.k 3);have c4:FnV prog (.sat (fD 303 [] [.sat (dK [.sat (aB 1 kiC [v.k])])])) [.v (.int .i64 4)] (.v (.bool (!decide (4=v.k)))):=FnV.clo (aR v.k 4);have c5:FnV prog (.sat (fD 303 [] [.sat (dK [.sat (aB 1 kiC [v.k])])])) [.v (.int .i64 5)] (.v (.bool (!decide (5=v.k)))):=FnV.clo (aR v.k 5);have c6:FnV prog (.sat (fD 303 [] [.sat (dK [.sat (aB 1 kiC [v.k])])])) [.v (.int .i64 6)] (.v (.bool (!decide (6=v.k)))):=FnV.clo (aR v.k 6);have cb1:=(fF (h:=ZI.raw v.q.1 v.q.2.1)).h (show v.q.2.1.length<=1099511627775 by have:=hz.q.2.1;omega)
 have cb2:=(fF (h:=ZI.raw v.q.2.2.1 v.q.2.2.2)).h (show v.q.2.2.2.length<=1099511627775 by have:=hz.q.2.2;omega)
 have hP:=vP0 v;have f1:=nV (b:=v.q.1) (l:=v.q.2.1);have f2:=nV (b:=v.q.2.2.1) (l:=v.q.2.2.2);have b1:=hz.q.2.1;have b2:=hz.q.2.2;have b3:=hz.al;have b4:=hz.pol;have b5:=hz.fal;have b6:=hz.ril;have b7:=hz.lil;have l1:(v.a.map rq).length=v.a.length:=zq5 _;have l2:(v.po.map rz).length=v.po.length:=zq5 _;refine ah.fq func176 results176 ntmps176 fun _ _ _ _ hB=>?_
 refine zg ?_;refine WP.jo 3 hB rfl rfl ?_;refine WP.aG ?_;have k0:v.k=1:=hk;have e1:(!decide ((1:Int)=v.k))=false:=by rw[k0];rfl
 have e2:(!decide ((2:Int)=v.k))=true:=by rw[k0];rfl
 have e3:(!decide ((3:Int)=v.k))=true:=by rw[k0];rfl
 have e4:(!decide ((4:Int)=v.k))=true:=by rw[k0];rfl
 have e5:(!decide ((5:Int)=v.k))=true:=by rw[k0];rfl
 have e6:(!decide ((6:Int)=v.k))=true:=by rw[k0];rfl
 rw[e1]at c1;rw[e2]at c2;rw[e3]at c3;rw[e4]at c4;rw[e5]at c5;rw[e6]at c6;clear e1 e2 e3 e4 e5 e6
 repeat'(first|refine zg ?_|refine SX.W.ite (fun h=>?_) (fun h=>?_)|refine SX.W.iteN (fun h=>?_) (fun h=>?_)|refine SX.W.gq (fun h=>?_) (fun h=>?_)|refine SX.R.ite (fun h=>?_) (fun h=>?_)|refine SX.R.iteN (fun h=>?_) (fun h=>?_)|refine SX.R.gq (fun h=>?_) (fun h=>?_))
 all_goals
  refine bf ?_;refine zyc.2 (Iff.trans ?_ decide_eq_true_iff.symm);rw[hP];constructor
  ·intro hh;first
    |(cases hh;done)
    |(try rw[decide_eq_true_iff]at hh
      refine⟨?_,?_,?_,?_,?_,?_,?_⟩ <;> first|omega|(refine .inr ⟨?_,?_,?_,?_⟩ <;> first|omega|assumption))
  ·rintro⟨h1,h2,h3,h4,h5,h6,h7⟩;first
    |rfl
    |(rw[decide_eq_true_iff];omega)
    |(exfalso;first|omega|(rcases h1 with h1|⟨g1,g2,g3,g4⟩ <;> first|omega|(clear c1 c2 c3 c4 c5 c6 f1 f2 hP;simp_all;done)))
theorem agj(v:Vl)(hz:vZ0 v)(hk:v.k=2):ah prog 176 [.agg (vlA v),.r (aB 1 kiC [v.k])] (.v (.bool (decide (vP v=0)))):=by
 have c1:FnV prog (.sat (fD 303 [] [.sat (dK [.sat (aB 1 kiC [v.k])])])) [.v (.int .i64 1)] (.v (.bool (!decide (1=v.k)))):=FnV.clo (aR v.k 1);have c2:FnV prog (.sat (fD 303 [] [.sat (dK [.sat (aB 1 kiC [v.k])])])) [.v (.int .i64 2)] (.v (.bool (!decide (2=v.k)))):=FnV.clo (aR v.k 2);have c3:FnV prog (.sat (fD 303 [] [.sat (dK [.sat (aB 1 kiC [v.k])])])) [.v (.int .i64 3)] (.v (.bool (!decide (3=v.k)))):=FnV.clo (aR v.k 3);have c4:FnV prog (.sat (fD 303 [] [.sat (dK [.sat (aB 1 kiC [v.k])])])) [.v (.int .i64 4)] (.v (.bool (!decide (4=v.k)))):=FnV.clo (aR v.k 4);have c5:FnV prog (.sat (fD 303 [] [.sat (dK [.sat (aB 1 kiC [v.k])])])) [.v (.int .i64 5)] (.v (.bool (!decide (5=v.k)))):=FnV.clo (aR v.k 5);have c6:FnV prog (.sat (fD 303 [] [.sat (dK [.sat (aB 1 kiC [v.k])])])) [.v (.int .i64 6)] (.v (.bool (!decide (6=v.k)))):=FnV.clo (aR v.k 6);have cb1:=(fF (h:=ZI.raw v.q.1 v.q.2.1)).h (show v.q.2.1.length<=1099511627775 by have:=hz.q.2.1;omega)
 have cb2:=(fF (h:=ZI.raw v.q.2.2.1 v.q.2.2.2)).h (show v.q.2.2.2.length<=1099511627775 by have:=hz.q.2.2;omega)
 have hP:=vP0 v;have f1:=nV (b:=v.q.1) (l:=v.q.2.1);have f2:=nV (b:=v.q.2.2.1) (l:=v.q.2.2.2);have b1:=hz.q.2.1;have b2:=hz.q.2.2;have b3:=hz.al;have b4:=hz.pol;have b5:=hz.fal;have b6:=hz.ril;have b7:=hz.lil;have l1:(v.a.map rq).length=v.a.length:=zq5 _;have l2:(v.po.map rz).length=v.po.length:=zq5 _;refine ah.fq func176 results176 ntmps176 fun _ _ _ _ hB=>?_
 refine zg ?_;refine WP.jo 3 hB rfl rfl ?_;refine WP.aG ?_;have k0:v.k=2:=hk;have e1:(!decide ((1:Int)=v.k))=true:=by rw[k0];rfl
 have e2:(!decide ((2:Int)=v.k))=false:=by rw[k0];rfl
 have e3:(!decide ((3:Int)=v.k))=true:=by rw[k0];rfl
 have e4:(!decide ((4:Int)=v.k))=true:=by rw[k0];rfl
 have e5:(!decide ((5:Int)=v.k))=true:=by rw[k0];rfl
 have e6:(!decide ((6:Int)=v.k))=true:=by rw[k0];rfl
 rw[e1]at c1;rw[e2]at c2;rw[e3]at c3;rw[e4]at c4;rw[e5]at c5;rw[e6]at c6;clear e1 e2 e3 e4 e5 e6
 repeat'(first|refine zg ?_|refine SX.W.ite (fun h=>?_) (fun h=>?_)|refine SX.W.iteN (fun h=>?_) (fun h=>?_)|refine SX.W.gq (fun h=>?_) (fun h=>?_)|refine SX.R.ite (fun h=>?_) (fun h=>?_)|refine SX.R.iteN (fun h=>?_) (fun h=>?_)|refine SX.R.gq (fun h=>?_) (fun h=>?_))
 all_goals
  refine bf ?_;refine zyc.2 (Iff.trans ?_ decide_eq_true_iff.symm);rw[hP];constructor
  ·intro hh;first
    |(cases hh;done)
    |(try rw[decide_eq_true_iff]at hh
      refine⟨?_,?_,?_,?_,?_,?_,?_⟩ <;> first|omega|(refine .inr ⟨?_,?_,?_,?_⟩ <;> first|omega|assumption))
  ·rintro⟨h1,h2,h3,h4,h5,h6,h7⟩;first
    |rfl
    |(rw[decide_eq_true_iff];omega)
    |(exfalso;first|omega|(rcases h1 with h1|⟨g1,g2,g3,g4⟩ <;> first|omega|(clear c1 c2 c3 c4 c5 c6 f1 f2 hP;simp_all;done)))
theorem afi(v:Vl)(hz:vZ0 v)(hk:v.k=3):ah prog 176 [.agg (vlA v),.r (aB 1 kiC [v.k])] (.v (.bool (decide (vP v=0)))):=by
 have c1:FnV prog (.sat (fD 303 [] [.sat (dK [.sat (aB 1 kiC [v.k])])])) [.v (.int .i64 1)] (.v (.bool (!decide (1=v.k)))):=FnV.clo (aR v.k 1);have c2:FnV prog (.sat (fD 303 [] [.sat (dK [.sat (aB 1 kiC [v.k])])])) [.v (.int .i64 2)] (.v (.bool (!decide (2=v.k)))):=FnV.clo (aR v.k 2);have c3:FnV prog (.sat (fD 303 [] [.sat (dK [.sat (aB 1 kiC [v.k])])])) [.v (.int .i64 3)] (.v (.bool (!decide (3=v.k)))):=FnV.clo (aR v.k 3);have c4:FnV prog (.sat (fD 303 [] [.sat (dK [.sat (aB 1 kiC [v.k])])])) [.v (.int .i64 4)] (.v (.bool (!decide (4=v.k)))):=FnV.clo (aR v.k 4);have c5:FnV prog (.sat (fD 303 [] [.sat (dK [.sat (aB 1 kiC [v.k])])])) [.v (.int .i64 5)] (.v (.bool (!decide (5=v.k)))):=FnV.clo (aR v.k 5);have c6:FnV prog (.sat (fD 303 [] [.sat (dK [.sat (aB 1 kiC [v.k])])])) [.v (.int .i64 6)] (.v (.bool (!decide (6=v.k)))):=FnV.clo (aR v.k 6);have cb1:=(fF (h:=ZI.raw v.q.1 v.q.2.1)).h (show v.q.2.1.length<=1099511627775 by have:=hz.q.2.1;omega)
 have cb2:=(fF (h:=ZI.raw v.q.2.2.1 v.q.2.2.2)).h (show v.q.2.2.2.length<=1099511627775 by have:=hz.q.2.2;omega)
 have hP:=vP0 v;have f1:=nV (b:=v.q.1) (l:=v.q.2.1);have f2:=nV (b:=v.q.2.2.1) (l:=v.q.2.2.2);have b1:=hz.q.2.1;have b2:=hz.q.2.2;have b3:=hz.al;have b4:=hz.pol;have b5:=hz.fal;have b6:=hz.ril;have b7:=hz.lil;have l1:(v.a.map rq).length=v.a.length:=zq5 _;have l2:(v.po.map rz).length=v.po.length:=zq5 _;refine ah.fq func176 results176 ntmps176 fun _ _ _ _ hB=>?_
 refine zg ?_;refine WP.jo 3 hB rfl rfl ?_;refine WP.aG ?_;have k0:v.k=3:=hk;have e1:(!decide ((1:Int)=v.k))=true:=by rw[k0];rfl
 have e2:(!decide ((2:Int)=v.k))=true:=by rw[k0];rfl
 have e3:(!decide ((3:Int)=v.k))=false:=by rw[k0];rfl
 have e4:(!decide ((4:Int)=v.k))=true:=by rw[k0];rfl
 have e5:(!decide ((5:Int)=v.k))=true:=by rw[k0];rfl
 have e6:(!decide ((6:Int)=v.k))=true:=by rw[k0];rfl
 rw[e1]at c1;rw[e2]at c2;rw[e3]at c3;rw[e4]at c4;rw[e5]at c5;rw[e6]at c6;clear e1 e2 e3 e4 e5 e6
 repeat'(first|refine zg ?_|refine SX.W.ite (fun h=>?_) (fun h=>?_)|refine SX.W.iteN (fun h=>?_) (fun h=>?_)|refine SX.W.gq (fun h=>?_) (fun h=>?_)|refine SX.R.ite (fun h=>?_) (fun h=>?_)|refine SX.R.iteN (fun h=>?_) (fun h=>?_)|refine SX.R.gq (fun h=>?_) (fun h=>?_))
 all_goals
  refine bf ?_;refine zyc.2 (Iff.trans ?_ decide_eq_true_iff.symm);rw[hP];constructor
  ·intro hh;first
    |(cases hh;done)
    |(try rw[decide_eq_true_iff]at hh
      refine⟨?_,?_,?_,?_,?_,?_,?_⟩ <;> first|omega|(refine .inr ⟨?_,?_,?_,?_⟩ <;> first|omega|assumption))
  ·rintro⟨h1,h2,h3,h4,h5,h6,h7⟩;first
    |rfl
    |(rw[decide_eq_true_iff];omega)
    |(exfalso;first|omega|(rcases h1 with h1|⟨g1,g2,g3,g4⟩ <;> first|omega|(clear c1 c2 c3 c4 c5 c6 f1 f2 hP;simp_all;done)))
theorem afs(v:Vl)(hz:vZ0 v)(hk:v.k=4):ah prog 176 [.agg (vlA v),.r (aB 1 kiC [v.k])] (.v (.bool (decide (vP v=0)))):=by
 have c1:FnV prog (.sat (fD 303 [] [.sat (dK [.sat (aB 1 kiC [v.k])])])) [.v (.int .i64 1)] (.v (.bool (!decide (1=v.k)))):=FnV.clo (aR v.k 1);have c2:FnV prog (.sat (fD 303 [] [.sat (dK [.sat (aB 1 kiC [v.k])])])) [.v (.int .i64 2)] (.v (.bool (!decide (2=v.k)))):=FnV.clo (aR v.k 2);have c3:FnV prog (.sat (fD 303 [] [.sat (dK [.sat (aB 1 kiC [v.k])])])) [.v (.int .i64 3)] (.v (.bool (!decide (3=v.k)))):=FnV.clo (aR v.k 3);have c4:FnV prog (.sat (fD 303 [] [.sat (dK [.sat (aB 1 kiC [v.k])])])) [.v (.int .i64 4)] (.v (.bool (!decide (4=v.k)))):=FnV.clo (aR v.k 4);have c5:FnV prog (.sat (fD 303 [] [.sat (dK [.sat (aB 1 kiC [v.k])])])) [.v (.int .i64 5)] (.v (.bool (!decide (5=v.k)))):=FnV.clo (aR v.k 5);have c6:FnV prog (.sat (fD 303 [] [.sat (dK [.sat (aB 1 kiC [v.k])])])) [.v (.int .i64 6)] (.v (.bool (!decide (6=v.k)))):=FnV.clo (aR v.k 6);have cb1:=(fF (h:=ZI.raw v.q.1 v.q.2.1)).h (show v.q.2.1.length<=1099511627775 by have:=hz.q.2.1;omega)
 have cb2:=(fF (h:=ZI.raw v.q.2.2.1 v.q.2.2.2)).h (show v.q.2.2.2.length<=1099511627775 by have:=hz.q.2.2;omega)
 have hP:=vP0 v;have f1:=nV (b:=v.q.1) (l:=v.q.2.1);have f2:=nV (b:=v.q.2.2.1) (l:=v.q.2.2.2);have b1:=hz.q.2.1;have b2:=hz.q.2.2;have b3:=hz.al;have b4:=hz.pol;have b5:=hz.fal;have b6:=hz.ril;have b7:=hz.lil;have l1:(v.a.map rq).length=v.a.length:=zq5 _;have l2:(v.po.map rz).length=v.po.length:=zq5 _;refine ah.fq func176 results176 ntmps176 fun _ _ _ _ hB=>?_
 refine zg ?_;refine WP.jo 3 hB rfl rfl ?_;refine WP.aG ?_;have k0:v.k=4:=hk;have e1:(!decide ((1:Int)=v.k))=true:=by rw[k0];rfl
 have e2:(!decide ((2:Int)=v.k))=true:=by rw[k0];rfl
 have e3:(!decide ((3:Int)=v.k))=true:=by rw[k0];rfl
 have e4:(!decide ((4:Int)=v.k))=false:=by rw[k0];rfl
 have e5:(!decide ((5:Int)=v.k))=true:=by rw[k0];rfl
 have e6:(!decide ((6:Int)=v.k))=true:=by rw[k0];rfl
 rw[e1]at c1;rw[e2]at c2;rw[e3]at c3;rw[e4]at c4;rw[e5]at c5;rw[e6]at c6;clear e1 e2 e3 e4 e5 e6
 repeat'(first|refine zg ?_|refine SX.W.ite (fun h=>?_) (fun h=>?_)|refine SX.W.iteN (fun h=>?_) (fun h=>?_)|refine SX.W.gq (fun h=>?_) (fun h=>?_)|refine SX.R.ite (fun h=>?_) (fun h=>?_)|refine SX.R.iteN (fun h=>?_) (fun h=>?_)|refine SX.R.gq (fun h=>?_) (fun h=>?_))
 all_goals
  refine bf ?_;refine zyc.2 (Iff.trans ?_ decide_eq_true_iff.symm);rw[hP];constructor
  ·intro hh;first
    |(cases hh;done)
    |(try rw[decide_eq_true_iff]at hh
      refine⟨?_,?_,?_,?_,?_,?_,?_⟩ <;> first|omega|(refine .inr ⟨?_,?_,?_,?_⟩ <;> first|omega|assumption))
  ·rintro⟨h1,h2,h3,h4,h5,h6,h7⟩;first
    |rfl
    |(rw[decide_eq_true_iff];omega)
    |(exfalso;first|omega|(rcases h1 with h1|⟨g1,g2,g3,g4⟩ <;> first|omega|(clear c1 c2 c3 c4 c5 c6 f1 f2 hP;simp_all;done)))
theorem aeC(v:Vl)(hz:vZ0 v)(hk:v.k=5):ah prog 176 [.agg (vlA v),.r (aB 1 kiC [v.k])] (.v (.bool (decide (vP v=0)))):=by
 have c1:FnV prog (.sat (fD 303 [] [.sat (dK [.sat (aB 1 kiC [v.k])])])) [.v (.int .i64 1)] (.v (.bool (!decide (1=v.k)))):=FnV.clo (aR v.k 1);have c2:FnV prog (.sat (fD 303 [] [.sat (dK [.sat (aB 1 kiC [v.k])])])) [.v (.int .i64 2)] (.v (.bool (!decide (2=v.k)))):=FnV.clo (aR v.k 2);have c3:FnV prog (.sat (fD 303 [] [.sat (dK [.sat (aB 1 kiC [v.k])])])) [.v (.int .i64 3)] (.v (.bool (!decide (3=v.k)))):=FnV.clo (aR v.k 3);have c4:FnV prog (.sat (fD 303 [] [.sat (dK [.sat (aB 1 kiC [v.k])])])) [.v (.int .i64 4)] (.v (.bool (!decide (4=v.k)))):=FnV.clo (aR v.k 4);have c5:FnV prog (.sat (fD 303 [] [.sat (dK [.sat (aB 1 kiC [v.k])])])) [.v (.int .i64 5)] (.v (.bool (!decide (5=v.k)))):=FnV.clo (aR v.k 5);have c6:FnV prog (.sat (fD 303 [] [.sat (dK [.sat (aB 1 kiC [v.k])])])) [.v (.int .i64 6)] (.v (.bool (!decide (6=v.k)))):=FnV.clo (aR v.k 6);have cb1:=(fF (h:=ZI.raw v.q.1 v.q.2.1)).h (show v.q.2.1.length<=1099511627775 by have:=hz.q.2.1;omega)
 have cb2:=(fF (h:=ZI.raw v.q.2.2.1 v.q.2.2.2)).h (show v.q.2.2.2.length<=1099511627775 by have:=hz.q.2.2;omega)
 have hP:=vP0 v;have f1:=nV (b:=v.q.1) (l:=v.q.2.1);have f2:=nV (b:=v.q.2.2.1) (l:=v.q.2.2.2);have b1:=hz.q.2.1;have b2:=hz.q.2.2;have b3:=hz.al;have b4:=hz.pol;have b5:=hz.fal;have b6:=hz.ril;have b7:=hz.lil;have l1:(v.a.map rq).length=v.a.length:=zq5 _;have l2:(v.po.map rz).length=v.po.length:=zq5 _;refine ah.fq func176 results176 ntmps176 fun _ _ _ _ hB=>?_
 refine zg ?_;refine WP.jo 3 hB rfl rfl ?_;refine WP.aG ?_;have k0:v.k=5:=hk;have e1:(!decide ((1:Int)=v.k))=true:=by rw[k0];rfl
 have e2:(!decide ((2:Int)=v.k))=true:=by rw[k0];rfl
 have e3:(!decide ((3:Int)=v.k))=true:=by rw[k0];rfl
 have e4:(!decide ((4:Int)=v.k))=true:=by rw[k0];rfl
 have e5:(!decide ((5:Int)=v.k))=false:=by rw[k0];rfl
 have e6:(!decide ((6:Int)=v.k))=true:=by rw[k0];rfl
 rw[e1]at c1;rw[e2]at c2;rw[e3]at c3;rw[e4]at c4;rw[e5]at c5;rw[e6]at c6;clear e1 e2 e3 e4 e5 e6
 repeat'(first|refine zg ?_|refine SX.W.ite (fun h=>?_) (fun h=>?_)|refine SX.W.iteN (fun h=>?_) (fun h=>?_)|refine SX.W.gq (fun h=>?_) (fun h=>?_)|refine SX.R.ite (fun h=>?_) (fun h=>?_)|refine SX.R.iteN (fun h=>?_) (fun h=>?_)|refine SX.R.gq (fun h=>?_) (fun h=>?_))
 all_goals
  refine bf ?_;refine zyc.2 (Iff.trans ?_ decide_eq_true_iff.symm);rw[hP];constructor
  ·intro hh;first
    |(cases hh;done)
    |(try rw[decide_eq_true_iff]at hh
      refine⟨?_,?_,?_,?_,?_,?_,?_⟩ <;> first|omega|(refine .inr ⟨?_,?_,?_,?_⟩ <;> first|omega|assumption))
  ·rintro⟨h1,h2,h3,h4,h5,h6,h7⟩;first
    |rfl
    |(rw[decide_eq_true_iff];omega)
    |(exfalso;first|omega|(rcases h1 with h1|⟨g1,g2,g3,g4⟩ <;> first|omega|(clear c1 c2 c3 c4 c5 c6 f1 f2 hP;simp_all;done)))
theorem agt(v:Vl)(hz:vZ0 v)(hk:v.k=6):ah prog 176 [.agg (vlA v),.r (aB 1 kiC [v.k])] (.v (.bool (decide (vP v=0)))):=by
 have c1:FnV prog (.sat (fD 303 [] [.sat (dK [.sat (aB 1 kiC [v.k])])])) [.v (.int .i64 1)] (.v (.bool (!decide (1=v.k)))):=FnV.clo (aR v.k 1);have c2:FnV prog (.sat (fD 303 [] [.sat (dK [.sat (aB 1 kiC [v.k])])])) [.v (.int .i64 2)] (.v (.bool (!decide (2=v.k)))):=FnV.clo (aR v.k 2);have c3:FnV prog (.sat (fD 303 [] [.sat (dK [.sat (aB 1 kiC [v.k])])])) [.v (.int .i64 3)] (.v (.bool (!decide (3=v.k)))):=FnV.clo (aR v.k 3);have c4:FnV prog (.sat (fD 303 [] [.sat (dK [.sat (aB 1 kiC [v.k])])])) [.v (.int .i64 4)] (.v (.bool (!decide (4=v.k)))):=FnV.clo (aR v.k 4);have c5:FnV prog (.sat (fD 303 [] [.sat (dK [.sat (aB 1 kiC [v.k])])])) [.v (.int .i64 5)] (.v (.bool (!decide (5=v.k)))):=FnV.clo (aR v.k 5);have c6:FnV prog (.sat (fD 303 [] [.sat (dK [.sat (aB 1 kiC [v.k])])])) [.v (.int .i64 6)] (.v (.bool (!decide (6=v.k)))):=FnV.clo (aR v.k 6);have cb1:=(fF (h:=ZI.raw v.q.1 v.q.2.1)).h (show v.q.2.1.length<=1099511627775 by have:=hz.q.2.1;omega)
 have cb2:=(fF (h:=ZI.raw v.q.2.2.1 v.q.2.2.2)).h (show v.q.2.2.2.length<=1099511627775 by have:=hz.q.2.2;omega)
 have hP:=vP0 v;have f1:=nV (b:=v.q.1) (l:=v.q.2.1);have f2:=nV (b:=v.q.2.2.1) (l:=v.q.2.2.2);have b1:=hz.q.2.1;have b2:=hz.q.2.2;have b3:=hz.al;have b4:=hz.pol;have b5:=hz.fal;have b6:=hz.ril;have b7:=hz.lil;have l1:(v.a.map rq).length=v.a.length:=zq5 _;have l2:(v.po.map rz).length=v.po.length:=zq5 _;refine ah.fq func176 results176 ntmps176 fun _ _ _ _ hB=>?_
 refine zg ?_;refine WP.jo 3 hB rfl rfl ?_;refine WP.aG ?_;have k0:v.k=6:=hk;have e1:(!decide ((1:Int)=v.k))=true:=by rw[k0];rfl
 have e2:(!decide ((2:Int)=v.k))=true:=by rw[k0];rfl
 have e3:(!decide ((3:Int)=v.k))=true:=by rw[k0];rfl
 have e4:(!decide ((4:Int)=v.k))=true:=by rw[k0];rfl
 have e5:(!decide ((5:Int)=v.k))=true:=by rw[k0];rfl
 have e6:(!decide ((6:Int)=v.k))=false:=by rw[k0];rfl
 rw[e1]at c1;rw[e2]at c2;rw[e3]at c3;rw[e4]at c4;rw[e5]at c5;rw[e6]at c6;clear e1 e2 e3 e4 e5 e6
 repeat'(first|refine zg ?_|refine SX.W.ite (fun h=>?_) (fun h=>?_)|refine SX.W.iteN (fun h=>?_) (fun h=>?_)|refine SX.W.gq (fun h=>?_) (fun h=>?_)|refine SX.R.ite (fun h=>?_) (fun h=>?_)|refine SX.R.iteN (fun h=>?_) (fun h=>?_)|refine SX.R.gq (fun h=>?_) (fun h=>?_))
 all_goals
  refine bf ?_;refine zyc.2 (Iff.trans ?_ decide_eq_true_iff.symm);rw[hP];constructor
  ·intro hh;first
    |(cases hh;done)
    |(try rw[decide_eq_true_iff]at hh
      refine⟨?_,?_,?_,?_,?_,?_,?_⟩ <;> first|omega|(refine .inr ⟨?_,?_,?_,?_⟩ <;> first|omega|assumption))
  ·rintro⟨h1,h2,h3,h4,h5,h6,h7⟩;first
    |rfl
    |(rw[decide_eq_true_iff];omega)
    |(exfalso;first|omega|(rcases h1 with h1|⟨g1,g2,g3,g4⟩ <;> first|omega|(clear c1 c2 c3 c4 c5 c6 f1 f2 hP;simp_all;done)))
theorem afa(v:Vl)(hz:vZ0 v)(hk:v.k≠1/\v.k≠2/\v.k≠3/\v.k≠4/\v.k≠5/\v.k≠6):ah prog 176 [.agg (vlA v),.r (aB 1 kiC [v.k])] (.v (.bool (decide (vP v=0)))):=by
 have c1:FnV prog (.sat (fD 303 [] [.sat (dK [.sat (aB 1 kiC [v.k])])])) [.v (.int .i64 1)] (.v (.bool (!decide (1=v.k)))):=FnV.clo (aR v.k 1);have c2:FnV prog (.sat (fD 303 [] [.sat (dK [.sat (aB 1 kiC [v.k])])])) [.v (.int .i64 2)] (.v (.bool (!decide (2=v.k)))):=FnV.clo (aR v.k 2);have c3:FnV prog (.sat (fD 303 [] [.sat (dK [.sat (aB 1 kiC [v.k])])])) [.v (.int .i64 3)] (.v (.bool (!decide (3=v.k)))):=FnV.clo (aR v.k 3);have c4:FnV prog (.sat (fD 303 [] [.sat (dK [.sat (aB 1 kiC [v.k])])])) [.v (.int .i64 4)] (.v (.bool (!decide (4=v.k)))):=FnV.clo (aR v.k 4);have c5:FnV prog (.sat (fD 303 [] [.sat (dK [.sat (aB 1 kiC [v.k])])])) [.v (.int .i64 5)] (.v (.bool (!decide (5=v.k)))):=FnV.clo (aR v.k 5);have c6:FnV prog (.sat (fD 303 [] [.sat (dK [.sat (aB 1 kiC [v.k])])])) [.v (.int .i64 6)] (.v (.bool (!decide (6=v.k)))):=FnV.clo (aR v.k 6);have cb1:=(fF (h:=ZI.raw v.q.1 v.q.2.1)).h (show v.q.2.1.length<=1099511627775 by have:=hz.q.2.1;omega)
 have cb2:=(fF (h:=ZI.raw v.q.2.2.1 v.q.2.2.2)).h (show v.q.2.2.2.length<=1099511627775 by have:=hz.q.2.2;omega)
 have hP:=vP0 v;have f1:=nV (b:=v.q.1) (l:=v.q.2.1);have f2:=nV (b:=v.q.2.2.1) (l:=v.q.2.2.2);have b1:=hz.q.2.1;have b2:=hz.q.2.2;have b3:=hz.al;have b4:=hz.pol;have b5:=hz.fal;have b6:=hz.ril;have b7:=hz.lil;have l1:(v.a.map rq).length=v.a.length:=zq5 _;have l2:(v.po.map rz).length=v.po.length:=zq5 _;refine ah.fq func176 results176 ntmps176 fun _ _ _ _ hB=>?_
 refine zg ?_;refine WP.jo 3 hB rfl rfl ?_;refine WP.aG ?_;have k0:=hk;have e1:(!decide ((1:Int)=v.k))=true:=by rw[decide_eq_false zE];rfl
 have e2:(!decide ((2:Int)=v.k))=true:=by rw[decide_eq_false zE];rfl
 have e3:(!decide ((3:Int)=v.k))=true:=by rw[decide_eq_false zE];rfl
 have e4:(!decide ((4:Int)=v.k))=true:=by rw[decide_eq_false zE];rfl
 have e5:(!decide ((5:Int)=v.k))=true:=by rw[decide_eq_false zE];rfl
 have e6:(!decide ((6:Int)=v.k))=true:=by rw[decide_eq_false zE];rfl
 rw[e1]at c1;rw[e2]at c2;rw[e3]at c3;rw[e4]at c4;rw[e5]at c5;rw[e6]at c6;clear e1 e2 e3 e4 e5 e6
 repeat'(first|refine zg ?_|refine SX.W.ite (fun h=>?_) (fun h=>?_)|refine SX.W.iteN (fun h=>?_) (fun h=>?_)|refine SX.W.gq (fun h=>?_) (fun h=>?_)|refine SX.R.ite (fun h=>?_) (fun h=>?_)|refine SX.R.iteN (fun h=>?_) (fun h=>?_)|refine SX.R.gq (fun h=>?_) (fun h=>?_))
 all_goals
  refine bf ?_;refine zyc.2 (Iff.trans ?_ decide_eq_true_iff.symm);rw[hP];constructor
  ·intro hh;first
    |(cases hh;done)
    |(try rw[decide_eq_true_iff]at hh
      refine⟨?_,?_,?_,?_,?_,?_,?_⟩ <;> first|omega|(refine .inr ⟨?_,?_,?_,?_⟩ <;> first|omega|assumption))
  ·rintro⟨h1,h2,h3,h4,h5,h6,h7⟩;first
    |rfl
    |(rw[decide_eq_true_iff];omega)
    |(exfalso;first|omega|(rcases h1 with h1|⟨g1,g2,g3,g4⟩ <;> first|omega|(clear c1 c2 c3 c4 c5 c6 f1 f2 hP;simp_all;done)))
theorem ak7(v:Vl)(hz:vZ0 v):ah prog 176 [.agg (vlA v),.r (aB 1 kiC [v.k])] (.v (.bool (decide (vP v=0)))):=by
 have hk:v.k=1\/v.k=2\/v.k=3\/v.k=4\/v.k=5\/v.k=6\/(v.k≠1/\v.k≠2/\v.k≠3/\v.k≠4/\v.k≠5/\v.k≠6):=zE
 rcases hk with hk|hk|hk|hk|hk|hk|hk
 ·exact aeB v hz hk
 ·exact agj v hz hk
 ·exact afi v hz hk
 ·exact afs v hz hk
 ·exact aeC v hz hk
 ·exact agt v hz hk
 ·exact afa v hz hk
end
section
def PrP(p:Nat):Prop:=2<=p/\p < 2147483648/\∀d,d < p->2<=d/\d*d<=p->p % d≠0
instance(p:Nat):Decidable (PrP p):=by unfold PrP;infer_instance
theorem abk(a b:Nat):(a:Int).tmod (b:Int)=((a % b:Nat):Int):=rfl
theorem wrapN{n:Nat}(h:n < 18446744073709551616):IntKind.u64.wrap (n:Int)=(n:Int):=lQ zE zE
theorem PrP.intro{p d:Nat}(h1:2<=p)(h2:p < 2147483648)(h3:p < d*d)(h:∀e,2<=e->e < d->p % e≠0):PrP p:=⟨h1,h2,fun e _ he=>h e he.1 (by
 rcases zyd e d with h'|h'
 ·exact h'
 ·have:=zxd h' h';omega)⟩
theorem PrP.not{p d:Nat}(h1:2<=d)(h2:d*d<=p)(h3:p % d=0):¬PrP p:=fun h=>h.2.2 d (by
 have:=zxd h1 (zq6 d);omega) ⟨h1,h2⟩ h3
attribute [local irreducible] bK bO bM bS bN qv bZ mf PrP
theorem pK(p:Nat)(hp:p < 18446744073709551616):ah prog 14 [.v (.int .u64 (p:Int))] (.v (.bool (decide (PrP p)))):=by
 have hr2:IntKind.u64.wrap ((p:Int).tmod 2)=((p % 2:Nat):Int):=by rw[show (2:Int)=((2:Nat):Int)from rfl,abk];exact wrapN (zxb (Nat.mod_le p 2) hp)
 refine ah.fq func14 results14 ntmps14 fun _ _ _ _ _=>?_
 by_cases h1:p < 2
 ·have h1':(p:Int) < 2:=zE
  refine zg ?_;refine bf ?_;rw[zyc,decide_eq_true_iff];refine Iff.trans ?_ decide_eq_true_iff.symm;exact⟨fun h=>zE,fun h=>by unfold PrP at h;omega⟩
 by_cases h2:2147483648<=p
 ·have h2':(p:Int)≥2147483648:=zE
  refine zg ?_;refine bf ?_;rw[zyc,decide_eq_true_iff];refine Iff.trans ?_ decide_eq_true_iff.symm;exact⟨fun h=>zE,fun h=>by unfold PrP at h;omega⟩
 by_cases h3:p % 2=0
 ·refine zg ?_;refine bf ?_;rw[zyc,decide_eq_true_iff];refine Iff.trans ?_ decide_eq_true_iff.symm;constructor
  ·intro h;obtain rfl:p=2:=zE
   exact PrP.intro (d:=2) zc zc zc (fun e h h'=>zE)
  ·intro h;rcases zyd p 4 with h4|h4
   ·omega
   ·exact absurd h (PrP.not (d:=2) zc zE h3)
 refine zg ?_;refine W.loop (fun d=>3<=d/\d<=50000/\d % 2=1/\∀e,2<=e->e < d->p % e≠0) (fun d=>[(0,.v (.int .u64 (p:Int))),(3,.v (.int .u64 (d:Int)))]) (fun _=>[]) (fun d=>50001 - d) 3 ⟨zE,zE,zE,fun e h h'=>(show e=2 by omega)▸h3⟩ (fun d ⟨hd,hd2,hodd,he⟩=>?_)
 have hmm:d*d<=50000*50000:=zxd hd2 hd2;have hq:IntKind.u64.wrap ((d:Int)*(d:Int))=((d*d:Nat):Int):=by rw[<-Int.natCast_mul];exact wrapN zE
 have hr:IntKind.u64.wrap ((p:Int).tmod (d:Int))=((p % d:Nat):Int):=by rw[abk];exact wrapN (zxb (Nat.mod_le p d) hp)
 have hdz:(d:Int)≠0:=zE
 by_cases h:d*d<=p
 ·by_cases h5:p % d=0
  ·refine zg ?_;refine bf ?_;exact(decide_eq_false (PrP.not zE h h5)).symm
  ·have hd3:d<=46340:=by
    rcases zyd 46340 d with h4|h4
    ·have:=zxd h4 h4;omega
    ·exact h4
   refine zg ?_;refine W.next (d+2) ⟨zE,zE,zE,fun e h h'=>?_⟩ zE
   by_cases h6:e < d
   ·exact he e h h6
   ·by_cases h7:e=d
    ·subst h7;exact h5
    ·obtain rfl:e=d+1:=zE
     intro h8;have h9:(d+1) % 2=0:=zE
     have:p % 2=0:=Nat.mod_eq_zero_of_dvd (Nat.dvd_trans (Nat.dvd_of_mod_eq_zero h9) (Nat.dvd_of_mod_eq_zero h8));exact h3 this
 ·refine zg ?_;refine bf ?_;exact(decide_eq_true (PrP.intro zE zE zE he)).symm
end
section
abbrev vlK(v:Vl):List CA:=[.val (.int .i64 v.k),.val (.bool v.q.1),.sat (bL v.q.2.1),.val (.bool v.q.2.2.1),.sat (bL v.q.2.2.2),.val (.int .i64 v.r),.val (.int .i64 v.c),.sat (aB 4 q4C (v.a.map rq)),.sat (aB 2 z2C (v.po.map rz)),.val (.int .u64 (v.p:Int)),.val (.int .i64 v.fr),.val (.int .i64 v.fc),.sat (aB 1 wdC v.fa),.sat (aB 1 wdC v.ri),.sat (aB 15 vlC v.li)]
def dx(r c:Int)(n:Nat):Bool:=decide (0<=r/\r<=64/\0<=c/\c<=64/\(n:Int)=r*c)
def mOk(r c:Int)(a:List jD):Bool:=a.all qOk&&dx r c a.length
def lz(po:List qx):Bool:=decide (po.length=0)||decide (rzv (po.getD (po.length - 1) (false,[]))≠0)
def pOk(po:List qx):Bool:=po.all zOk&&lz po
def ltp(p x:Nat):Bool:=decide (x < p)
def fOk(r c:Int)(fa:List Nat)(p:Nat):Bool:=fa.all (ltp p)&&dx r c fa.length
def lw(ri:List Nat):Bool:=decide (ri.length=0)||decide (ri.getD (ri.length - 1) 0≠0)
def rOk(p:Nat)(ri:List Nat):Bool:=ri.all (ltp p)&&lw ri
def vK(rec:Vl->Bool)(pos:Bool)(v:Vl):Bool:=decide (vP v=0)&&(if v.k=1 then qOk v.q else if v.k=2 then mOk v.r v.c v.a else if v.k=3 then pOk v.po else if v.k=4 then decide (PrP v.p)&&fOk v.fr v.fc v.fa v.p else if v.k=5 then decide (PrP v.p)&&rOk v.p v.ri else if v.k=6 then pos&&v.li.all rec else false)
def vF:Nat->Vl->Bool
 |0,v=>vK (fun _=>false) false v
 |d+1,v=>vK (vF d) true v
def vZ:Nat->Vl->Prop
 |0,v=>vZ0 v/\v.li=[]
 |n+1,v=>vZ0 v/\∀x∈v.li,vZ n x
theorem vZ.z{n:Nat}{v:Vl}(h:vZ n v):vZ0 v:=by cases n <;> exact h.1
theorem vF_P{d:Nat}{v:Vl}(h:vP v≠0):vF d v=false:=by
 cases d <;> (unfold vF vK;rw[decide_eq_false h];rfl)
theorem vF_1{d:Nat}{v:Vl}(h:vP v=0)(hk:v.k=1):vF d v=qOk v.q:=by
 cases d <;> (unfold vF vK;rw[decide_eq_true h,if_pos hk];rfl)
theorem vF_2{d:Nat}{v:Vl}(h:vP v=0)(hk:v.k=2):vF d v=mOk v.r v.c v.a:=by
 cases d <;> (unfold vF vK;rw[decide_eq_true h,if_neg zE,if_pos hk];rfl)
theorem vF_3{d:Nat}{v:Vl}(h:vP v=0)(hk:v.k=3):vF d v=pOk v.po:=by
 cases d <;> (unfold vF vK;rw[decide_eq_true h,if_neg zE,if_neg zE,if_pos hk];rfl)
theorem vF_4{d:Nat}{v:Vl}(h:vP v=0)(hk:v.k=4):vF d v=(decide (PrP v.p)&&fOk v.fr v.fc v.fa v.p):=by
 cases d <;> (unfold vF vK;rw[decide_eq_true h,if_neg zE,if_neg zE,if_neg zE,if_pos hk];rfl)
theorem vF_5{d:Nat}{v:Vl}(h:vP v=0)(hk:v.k=5):vF d v=(decide (PrP v.p)&&rOk v.p v.ri):=by
 cases d <;> (unfold vF vK;rw[decide_eq_true h,if_neg zE,if_neg zE,if_neg zE,if_neg zE,if_pos hk];rfl)
theorem vF_60{v:Vl}(hk:v.k=6):vF 0 v=false:=by
 unfold vF vK;rw[if_neg zE,if_neg zE,if_neg zE,if_neg zE,if_neg zE,if_pos hk];cases decide (vP v=0) <;> rfl
theorem vF_6{d:Nat}{v:Vl}(h:vP v=0)(hk:v.k=6):vF (d+1) v=v.li.all (vF d):=by
 unfold vF vK;rw[decide_eq_true h,if_neg zE,if_neg zE,if_neg zE,if_neg zE,if_neg zE,if_pos hk];rfl
theorem vF_7{d:Nat}{v:Vl}(hk:v.k≠1/\v.k≠2/\v.k≠3/\v.k≠4/\v.k≠5/\v.k≠6):vF d v=false:=by
 cases d <;> (unfold vF vK;rw[if_neg zE,if_neg zE,if_neg zE,if_neg zE,if_neg zE,if_neg zE];cases decide (vP v=0) <;> rfl)
theorem aag{α:Type}(l:List α)(p:α->Bool):(!l.any fun x=>!p x)=l.all p:=by
 induction l with
 |nil=>rfl
 |cons a l ih=>rw[List.any_cons,List.all_cons,<-ih];cases p a <;> simp
attribute [local irreducible] bK bO bM bS bN qv bZ mf PrP qOk zOk vP dx
theorem ahT(v:Vl)(x:Nat):ah prog 310 [.v (.int .u64 (x:Int)),.r (dK (vlK v))] (.v (.bool (!ltp v.p x))):=by
 refine ah.fq func310 results310 ntmps310 fun _ _ _ _ _=>?_
 refine zg ?_;refine bf ?_;unfold ltp;rw[<-decide_not,decide_eq_decide];omega
theorem ac4(v:Vl)(l:List Nat)(hp:v.p < WB)(hl:l.length<=100000):ah prog 185 [.agg (vlA v),.r (aB 1 wdC l)] (.v (.bool (decide (PrP v.p)&&l.all (ltp v.p)))):=by
 have cP:=pK v.p (by rw[dn]at hp;exact hp)
 have cA:=anY l (.sat (fD 310 [] [.sat (dK (vlK v))])) (fun x=>!ltp v.p x) (fun x _=>FnV.clo (ahT v x)) hl rfl
 rw[<-aag];refine ah.fq func185 results185 ntmps185 fun _ _ _ _ hB=>?_
 refine zg ?_;refine WP.jo 2 hB rfl rfl ?_;refine WP.aG ?_;by_cases h:PrP v.p
 ·rw[decide_eq_true h]at cP ⊢;refine zg ?_;exact bf rfl
 ·rw[decide_eq_false h]at cP ⊢;refine zg ?_;exact bf rfl
theorem afJ(n:Int):ah prog 308 [.v (.int .i64 n)] (.v (.bool (decide (0<=n/\n<=64)))):=by
 refine ah.fq func308 results308 ntmps308 fun _ _ _ _ _=>?_
 by_cases h:n≥0
 ·refine zg ?_;refine bf ?_;rw[decide_eq_decide];omega
 ·refine zg ?_;refine bf ?_;exact(decide_eq_false fun h'=>h h'.1).symm
theorem yR(r c:Int){n:Nat}{cells:List CA}:ah prog 184 [.agg [.c (.val (.int .i64 r)),.c (.val (.int .i64 c)),.c (.sat (aQ 1 n cells))]] (.v (.bool (dx r c n))):=by
 unfold dx;have s1:=afJ r;have s2:=afJ c;refine ah.fq func184 results184 ntmps184 fun _ _ _ _ _=>?_
 by_cases h1:0<=r/\r<=64
 ·rw[decide_eq_true h1]at s1;by_cases h2:0<=c/\c<=64
  ·rw[decide_eq_true h2]at s2;have hp:0<=r*c:=Int.mul_nonneg h1.1 h2.1;have hp2:r*c<=64*64:=Int.mul_le_mul h1.2 h2.2 h2.1 zc
   refine zg ?_;refine bf ?_;rw[decide_eq_decide];exact⟨fun h=>⟨h1.1,h1.2,h2.1,h2.2,h⟩,fun h=>h.2.2.2.2⟩
  ·rw[decide_eq_false h2]at s2;refine zg ?_;refine bf ?_;exact(decide_eq_false fun h=>h2 ⟨h.2.2.1,h.2.2.2.1⟩).symm
 ·rw[decide_eq_false h1]at s1;refine zg ?_;refine bf ?_;exact(decide_eq_false fun h=>h1 ⟨h.1,h.2.1⟩).symm
end
end
