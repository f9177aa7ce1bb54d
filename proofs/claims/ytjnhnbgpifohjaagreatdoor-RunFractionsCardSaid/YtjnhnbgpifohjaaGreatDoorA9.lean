import Derived.Test.YtjnhnbgpifohjaaGreatDoorA8
import Derived.Test.YtjnhnbgpifohjaaGreatDoorA5
set_option linter.unusedVariables false
set_option linter.unusedSimpArgs false
open Go.Proofs.Tryz
namespace Go.Proofs.YtjnhnbgpifohjaaGreatDoor
open Go.RowKit QM SX
section
attribute [local irreducible] bS dn cK dD dh
abbrev qC(v:Rat):List CA:=[.val (.bool (decide (v.num < 0))),.sat (bI v.num.natAbs),.val (.bool (decide ((v.den:Int) < 0))),.sat (bI (v.den:Int).natAbs)]
abbrev qA(v:Rat):List Atom:=[.c (.val (.bool (decide (v.num < 0)))),.c (.sat (bI v.num.natAbs)),.c (.val (.bool (decide ((v.den:Int) < 0)))),.c (.sat (bI (v.den:Int).natAbs))]
instance:dH qC 4:=⟨fun _=>rfl⟩
theorem kI(v:Rat):(v.den:Int)≠0:=by have:=v.den_nz;omega
theorem gL(v:Rat):qv v.num v.den=v:=by
 unfold qv;rw[←Rat.divInt_eq_div];exact Rat.num_divInt_den v
theorem anh{p q:Int}{v:Rat}(hq:q≠0)(h:qv p q=v):v.num*q=p*v.den:=by
 have h2:=gL v;have d1:=c0 hq;have d2:=c0 (kI v);unfold qv at h h2;apply Rat.intCast_inj.1
 rw[Rat.intCast_mul,Rat.intCast_mul];generalize ((v.den:Int):Rat)=d at*;generalize ((v.num:Int):Rat)=n at*;generalize (p:Rat)=a at*;generalize (q:Rat)=b at*;subst h2
 grind
theorem ael{p q:Int}{v:Rat}(hq:q≠0)(h:qv p q=v):∃c:Int,q=c*v.den∧p=c*v.num:=by
 have hx:=anh hq h;have hc:Nat.Coprime v.num.natAbs v.den:=v.reduced;have hd:(v.den:Int) ∣ v.num*q:=⟨p,by rw[hx];exact Int.mul_comm _ _⟩
 have hd2:v.den ∣ q.natAbs:=by
  have h1:v.den ∣ (v.num*q).natAbs:=Int.natAbs_natCast v.den▸(Int.natAbs_dvd_natAbs.2 hd);rw[Int.natAbs_mul]at h1;exact hc.symm.dvd_of_dvd_mul_left h1
 obtain⟨c,hcq⟩:(v.den:Int) ∣ q:=Int.natAbs_dvd_natAbs.1 (by rw[Int.natAbs_natCast];exact hd2)
 refine⟨c,by rw[hcq];exact Int.mul_comm _ _,?_⟩
 rw[hcq]at hx;have h0:=kI v;have:(v.den:Int)*(v.num*c)=(v.den:Int)*p:=by grind
 have:=Int.eq_of_mul_eq_mul_left h0 this
 grind
structure RB(v:Rat)(K:Nat):Prop where
 n:v.num.natAbs < WB ^ K
 d:v.den < WB ^ K
theorem RB.of{p q:Int}{v:Rat}{K:Nat}(hq:q≠0)(h:qv p q=v)(h1:p.natAbs < WB ^ K)(h2:q.natAbs < WB ^ K):RB v K:=by
 obtain⟨c,e1,e2⟩:=ael hq h;have hc:1≤c.natAbs:=by
  rcases Nat.eq_zero_or_pos c.natAbs with h|h
  ·have:c=0:=by omega
   subst this;rw[Int.zero_mul]at e1;exact absurd e1 hq
  ·exact h
 have a1:q.natAbs=c.natAbs*v.den:=by rw[e1,Int.natAbs_mul,Int.natAbs_natCast]
 have a2:p.natAbs=c.natAbs*v.num.natAbs:=by rw[e2,Int.natAbs_mul]
 have b1:=Nat.mul_le_mul_right v.den hc;have b2:=Nat.mul_le_mul_right v.num.natAbs hc;exact⟨by omega,by omega⟩
theorem RB.mono{v:Rat}{K L:Nat}(h:RB v K)(hK:K≤L):RB v L:=⟨Nat.lt_of_lt_of_le h.n (Nat.pow_le_pow_right aS hK),Nat.lt_of_lt_of_le h.d (Nat.pow_le_pow_right aS hK)⟩
theorem amw(K:Nat):1≤WB ^ K:=Nat.pow_pos aS
theorem eY{a b K L:Nat}(h1:a < WB ^ K)(h2:b < WB ^ L):a*b < WB ^ (K+L):=by
 rw[Nat.pow_add];have:=Nat.mul_le_mul (show a≤WB ^ K - 1 by omega) (show b≤WB ^ L - 1 by omega)
 have p1:=amw K;have p2:=amw L;refine Nat.lt_of_le_of_lt this ?_;have h3:(WB ^ K - 1)*(WB ^ L - 1)≤(WB ^ K - 1)*WB ^ L:=Nat.mul_le_mul_left _ (Nat.sub_le _ _);have h4:(WB ^ K - 1)*WB ^ L < WB ^ K*WB ^ L:=(Nat.mul_lt_mul_right (by omega)).2 (by omega)
 omega
theorem alR(K:Nat):2*WB ^ K≤WB ^ (K+1):=by
 rw[Nat.pow_succ,Nat.mul_comm];exact Nat.mul_le_mul_left _ (by rw[bV];decide)
theorem RB.add{u v:Rat}{K L:Nat}(h:RB u K)(k:RB v L):RB (u+v) (K+L+1):=by
 refine RB.of (p:=u.num*v.den+v.num*u.den) (q:=u.den*v.den) (Int.mul_ne_zero (kI u) (kI v)) ?_ ?_ ?_
 ·rw[amg (kI u) (kI v),gL,gL]
 ·have h1:(u.num*(v.den:Int)).natAbs < WB ^ (K+L):=by rw[Int.natAbs_mul,Int.natAbs_natCast];exact eY h.n k.d
  have h2:(v.num*(u.den:Int)).natAbs < WB ^ (K+L):=by rw[Int.natAbs_mul,Int.natAbs_natCast,Nat.add_comm];exact eY k.n h.d
  have h3:=alR (K+L);generalize u.num*(v.den:Int)=x at*;generalize v.num*(u.den:Int)=y at*;omega
 ·rw[Int.natAbs_mul,Int.natAbs_natCast,Int.natAbs_natCast];exact Nat.lt_of_lt_of_le (eY h.d k.d) (Nat.pow_le_pow_right aS (by omega))
theorem RB.mul{u v:Rat}{K L:Nat}(h:RB u K)(k:RB v L):RB (u*v) (K+L):=by
 refine RB.of (p:=u.num*v.num) (q:=u.den*v.den) (Int.mul_ne_zero (kI u) (kI v)) ?_ ?_ ?_
 ·rw[alq,gL,gL]
 ·rw[Int.natAbs_mul];exact eY h.n k.n
 ·rw[Int.natAbs_mul,Int.natAbs_natCast,Int.natAbs_natCast];exact eY h.d k.d
theorem RB.neg{v:Rat}{K:Nat}(h:RB v K):RB (-v) K:=by
 refine RB.of (p:= -v.num) (q:=v.den) (kI v) (by rw[agj,gL]) (by rw[Int.natAbs_neg];exact h.n) (by rw[Int.natAbs_natCast];exact h.d)
theorem RB.sub{u v:Rat}{K L:Nat}(h:RB u K)(k:RB v L):RB (u - v) (K+L+1):=by rw[Rat.sub_eq_add_neg];exact h.add k.neg
theorem RB.zero{K:Nat}(hK:1≤K):RB 0 K:=by
 have h:WB ^ 1≤WB ^ K:=Nat.pow_le_pow_right aS hK;rw[Nat.pow_one]at h;have:=bV;exact⟨by show (0:Nat) < _;omega,by show (1:Nat) < _;omega⟩
theorem RB.one{K:Nat}(hK:1≤K):RB 1 K:=by
 have h:WB ^ 1≤WB ^ K:=Nat.pow_le_pow_right aS hK;rw[Nat.pow_one]at h;have:=bV;exact⟨by show (1:Nat) < _;omega,by show (1:Nat) < _;omega⟩
theorem RB.div{u v:Rat}{K L:Nat}(h:RB u K)(k:RB v L)(hv:v≠0):RB (u / v) (K+L):=by
 have hn:v.num≠0:=fun e=>hv (Rat.num_eq_zero.1 e)
 refine RB.of (p:=u.num*v.den) (q:=u.den*v.num) (Int.mul_ne_zero (kI u) hn) ?_ ?_ ?_
 ·rw[am5,gL,gL]
 ·rw[Int.natAbs_mul,Int.natAbs_natCast];exact eY h.n k.d
 ·rw[Int.natAbs_mul,Int.natAbs_natCast];exact eY h.d k.n
theorem RB.ra{v:Rat}{K:Nat}(h:RB v K):Ra (qA v) v K:=
 ⟨_,_,_,_,v.num,(v.den:Int),K,K,rfl,(haveI:Bd v.num K:=⟨h.n⟩;inferInstance),(haveI:Bd (v.den:Int) K:=⟨by rw[Int.natAbs_natCast];exact h.d⟩;inferInstance),Nat.le_refl _,Nat.le_refl _,⟨h.n⟩,⟨by rw[Int.natAbs_natCast];exact h.d⟩,gL v⟩
theorem Rd.nf{X:Int×Int}{v:Rat}{K:Nat}(h:Rd X v K):X=(v.num,(v.den:Int)):=by
 obtain⟨p,q⟩:=X;have hq:q≠0:=by have:=h.d;dsimp only at this;omega
 obtain⟨c,e1,e2⟩:=ael hq (show qv p q=v from h.v)
 have hg:Int.gcd p q=1:=h.g;have hc1:c.natAbs ∣ Int.gcd p q:=Nat.dvd_gcd (by rw[e2,Int.natAbs_mul];exact Nat.dvd_mul_right _ _) (by rw[e1,Int.natAbs_mul];exact Nat.dvd_mul_right _ _)
 rw[hg]at hc1;have hca:c.natAbs=1:=Nat.dvd_one.1 hc1;have hpos:0 < q:=h.d;have hden:0 < (v.den:Int):=by have:=v.den_nz;omega
 have hc:c=1:=by
  rcases Int.natAbs_eq_iff.1 hca with h|h
  ·exact h
  ·subst h;rw[e1]at hpos;simp at hpos;omega
 subst hc;rw[Int.one_mul]at e1 e2;rw[e1,e2]
section
variable{l l':List Atom}{v v':Rat}{K K':Nat}
instance con_qAdd[a:Ra l v K][b:Ra l' v' K']:Con prog 40 [.agg l,.agg l'] (K+K'≤1000000) (.agg (qA (v+v'))):=⟨fun h=>by
 obtain⟨X,c,r⟩:=eAdd l l' h;rw[r.nf]at c;exact c⟩
instance con_qSub[a:Ra l v K][b:Ra l' v' K']:Con prog 295 [.agg l,.agg l'] (K+K'≤400000) (.agg (qA (v - v'))):=⟨fun h=>by
 obtain⟨X,c,r⟩:=eSub l l' h;rw[r.nf]at c;exact c⟩
instance anB[a:Ra l v K][b:Ra l' v' K']:Con prog 53 [.agg l,.agg l'] (K+K'≤1000000) (.agg (qA (v*v'))):=⟨fun h=>by
 obtain⟨X,c,r⟩:=eMul l l' h;rw[r.nf]at c;exact c⟩
instance uL[a:Ra l v K][b:Ra l' v' K']:Con prog 15 [.agg l,.agg l'] (K+K'≤1000000) (.tup [.agg (qA (v / v')),.one (.c (.val (.bool (decide (v'≠0)))))]):=⟨fun h=>by
 obtain⟨X,ok,c,r,ho⟩:=eQuo l l' h;have e:ok=decide (v'≠0):=by
  cases ok with
  |true=>exact(decide_eq_true (ho.1 rfl)).symm
  |false=>exact(decide_eq_false fun hn=>by have:=ho.2 hn;cases this).symm
 rw[r.nf,e]at c;exact c⟩
end
end
section
attribute [local irreducible] IntKind.wrap Go1 Reg WP aR aU bR bO aN aF ak aj aY Sat
attribute [local irreducible] bS dn cK dD dh qv
instance atJ:Con prog 47 [] True (.agg (qA 0)):=⟨fun _=>by
 refine ah.fnF func47 results47 ntmps47 rfl rfl rfl (by simp[AV.ids,AV0.ids,Atom.ids]) rfl (fun w0 T B E0 hB=>?_)
 refine SX.goM ?_;exact kR (ak.mZ rfl rfl rfl) rfl⟩
instance con_qOne:Con prog 46 [] True (.agg (qA 1)):=⟨fun _=>by
 refine ah.fnF func46 results46 ntmps46 rfl rfl rfl (by simp[AV.ids,AV0.ids,Atom.ids]) rfl (fun w0 T B E0 hB=>?_)
 refine SX.goM ?_;exact kR (ak.mZ rfl rfl rfl) rfl⟩
def tkL(r s:List Rat)(f:Rat)(k:Nat):List Rat:=(List.zipWith (fun a b=>a - f*b) (r.take k) (s.take k))++r.drop k
theorem yJ{r s:List Rat}{f:Rat}{k:Nat}(h:r.length=s.length)(hk:k≤r.length):(tkL r s f k).length=r.length:=by
 unfold tkL;simp;omega
theorem aq5{r s:List Rat}{f:Rat}{k:Nat}{a:Rat}(h:r.length=s.length)(ha:r[k]? =some a):(tkL r s f k)[k]? =some a:=by
 have hk:k < r.length:=by
  rcases Nat.lt_or_ge k r.length with h|h
  ·exact h
  ·rw[List.getElem?_eq_none h]at ha;cases ha
 unfold tkL;rw[List.getElem?_append_right (by simp;omega)]
 simp only[List.length_zipWith,List.length_take,List.getElem?_drop]
 rw[show min (min k r.length) (min k s.length)=k by omega,Nat.sub_self,Nat.add_zero];exact ha
theorem apy{r s:List Rat}{f:Rat}{k:Nat}{a b:Rat}(h:r.length=s.length)(ha:r[k]? =some a)(hb:s[k]? =some b):(tkL r s f k).set k (a - f*b)=tkL r s f (k+1):=by
 have hk:k < r.length:=by
  rcases Nat.lt_or_ge k r.length with h|h
  ·exact h
  ·rw[List.getElem?_eq_none h]at ha;cases ha
 apply List.ext_getElem?
 intro i;rw[List.getElem?_set]
 unfold tkL;by_cases hi:k=i
 ·subst hi;rw[if_pos rfl,if_pos (by simp;omega)]
  rw[List.getElem?_append_left (by simp;omega),List.getElem?_zipWith]
  simp[ha,hb]
 ·rw[if_neg hi];by_cases hlt:i < k
  ·rw[List.getElem?_append_left (by simp;omega),List.getElem?_append_left (by simp;omega),List.getElem?_zipWith,List.getElem?_zipWith]
   simp[List.getElem?_take,hlt,show i < k+1 by omega]
  ·rw[List.getElem?_append_right (by simp;omega),List.getElem?_append_right (by simp;omega)]
   simp only[List.length_zipWith,List.length_take,List.getElem?_drop]
   congr 1
   omega
theorem amR(r s:List Rat)(f:Rat)(K:Nat)(hrs:r.length=s.length)(hr:∀x∈r,RB x K)(hs:∀x∈s,RB x K)(hf:RB f K)(hK:K≤100000)(hl:r.length≤1000):
  aj prog 190 [.own 81,.own 82,.agg (qA f)] [(81,.row 33 4 r.length (r.flatMap qC)),(82,.row 33 4 s.length (s.flatMap qC))] ⟨.tup [],[(81,.ent (.row 33 4 r.length ((tkL r s f r.length).flatMap qC))),(82,.ent (.row 33 4 s.length (s.flatMap qC)))]⟩:=by
 refine aj.fnA func190 results190 ntmps190 rfl rfl rfl rfl rfl rfl rfl rfl (fun w0 T B E0 hB=>?_)
 refine SX.goM ?_;refine W.loop (fun k=>k≤r.length) (fun k=>[(0,.own 81),(1,.own 82),(5,.ptr 5 0),(8,.v (.int .i64 (r.length:Int))),(9,.v (.int .i64 (k:Int)))]) (fun k=>[(81,.row 33 4 r.length ((tkL r s f k).flatMap qC)),(82,.row 33 4 s.length (s.flatMap qC)),(5,.box 33 (qA f))]) (fun k=>r.length - k) 0 (Nat.zero_le _) (fun k hk=>?_)
 by_cases h:k < r.length
 ·obtain⟨a,ha⟩:∃a,r[k]? =some a:=⟨r[k],zq2 h⟩
  obtain⟨b,hb⟩:∃b,s[k]? =some b:=⟨s[k]'(by omega),zq2 _⟩
  have g1:=aq5 (f:=f) hrs ha;have b1:=hr a (zq4 ha);have b2:=hs b (zq4 hb);have ia:=b1.ra;have ib:=b2.ra;have jf:=hf.ra;have im:=(hf.mul b2).ra;have hn:=yJ (f:=f) hrs hk;have e1:Ent.row 33 4 r.length (((tkL r s f k).set k (a - f*b)).flatMap qC)=Ent.row 33 4 r.length ((tkL r s f (k+1)).flatMap qC):=by rw[apy hrs ha hb]
  refine SX.goM ?_;refine W.next (k+1) h (by omega) (by
   refine SX.St.aZ [] (by intro b h;exact SX.bU h rfl) ?_ ?_ rfl
   ·repeat(first|exact trivial|refine⟨⟨_,rfl,SX.aG.same rfl⟩,?_⟩)
   ·exact⟨SX.ay.eq rfl e1 rfl,SX.ay.same rfl rfl,SX.ay.same rfl rfl,trivial⟩)
 ·obtain rfl:k=r.length:=by omega
  refine SX.goM ?_;exact gI (xs:=[]) trivial ⟨rfl,rfl,trivial⟩
def fV(c:Nat)(val:Nat→Nat→Rat)(i:Nat):List Rat:=(List.range i).flatMap fun i=>(List.range c).map (val i)
theorem ajQ{c:Nat}{val:Nat→Nat→Rat}:fV c val 0=[]:=rfl
theorem xD{c i:Nat}{val:Nat→Nat→Rat}:fV c val (i+1)=fV c val i++(List.range c).map (val i):=by
 unfold fV;rw[List.range_succ,List.flatMap_append];simp
theorem iZ{c:Nat}{val:Nat→Nat→Rat}:∀i,(fV c val i).length=i*c
 |0=>by simp[ajQ]
 |i+1=>by rw[xD,List.length_append,iZ i];simp[Nat.succ_mul]
def iX(val:Nat→Nat→Rat)(i k:Nat):List Rat:=(List.range k).map (val i)
theorem vY{val:Nat→Nat→Rat}{i k:Nat}:iX val i (k+1)=iX val i k++[val i k]:=by
 unfold iX;rw[List.range_succ,List.map_append];rfl
theorem aoj{val:Nat→Nat→Rat}{i k:Nat}:(iX val i k).length=k:=by simp[iX]
abbrev Q4:=Bool×Rep×Bool×Rep
abbrev q4A(q:Q4):List Atom:=[.c (.val (.bool q.1)),.c (.sat q.2.1),.c (.val (.bool q.2.2.1)),.c (.sat q.2.2.2)]
abbrev pE(r c:Nat)(l:List Rat):List Atom:=[.c (.val (.int .i64 (r:Int))),.c (.val (.int .i64 (c:Int))),.c (.sat (aA 4 qC l))]
theorem nJ(r c:Nat)(x:CA)(L:Nat→Nat→Q4)(val:Nat→Nat→Rat)(K:Nat)(hr:r≤100)(hc:c≤100)(hK:K+1≤1000000)
  (hx:∀i k,i < r→k < c→FnV prog x [.v (.int .i64 (i:Int)),.v (.int .i64 (k:Int))] (.agg (q4A (L i k)))) (hL:∀i k,i < r→k < c→Ra (q4A (L i k)) (val i k) K) (hx1:x.dL=true):
  ah prog 41 [.v (.int .i64 (r:Int)),.v (.int .i64 (c:Int)),.it (.one (.c x))] (.agg (pE r c (fV c val r))):=by
 have iz:Ra (qA 0) 0 1:=(RB.zero (Nat.le_refl 1)).ra;refine ah.fnF func41 results41 ntmps41 rfl rfl rfl (by simp[AV.ids,AV0.ids,Atom.ids]) rfl (fun w0 T B E0 hB=>?_)
 refine SX.goM ?_;refine W.loop (fun i=>i≤r) (fun i=>[(1,.v (.int .i64 (c:Int))),(2,.it (.one (.c x))),(6,.ptr 6 0),(7,.ptr 7 0),(13,.v (.int .i64 (r:Int))),(14,.v (.int .i64 (i:Int)))]) (fun i=>[(6,.box 24 [.c (.val (.int .i64 0)),.c (.val (.int .i64 0)),.c (.val (.slice none 0 0))]),(7,.box 24 [.c (.val (.int .i64 (r:Int))),.c (.val (.int .i64 (c:Int))),.own 100]),(100,.row 33 4 (i*c) ((fV c val i).flatMap qC))]) (fun i=>r - i) 0 (Nat.zero_le _) (fun i hi=>?_)
  (by
   refine SX.St.aZ [(100,none)] (by intro b h;cases h) ?_ ?_ rfl
   ·repeat(first|exact trivial|refine⟨⟨_,rfl,SX.aG.same rfl⟩,?_⟩)
   ·exact⟨SX.ay.same rfl rfl,SX.ay.mo rfl rfl ⟨aB.same rfl,aB.same rfl,aB.nil rfl,trivial⟩,by rw[Nat.zero_mul];exact SX.ay.dF rfl,trivial⟩)
 by_cases h:i < r
 ·refine SX.goM ?_;refine W.loop (fun k=>k≤c) (fun k=>[(1,.v (.int .i64 (c:Int))),(2,.it (.one (.c x))),(6,.ptr 6 0),(7,.ptr 7 0),(8,.v (.int .i64 (i:Int))),(13,.v (.int .i64 (r:Int))),(14,.v (.int .i64 (i:Int))),(17,.v (.int .i64 (c:Int))),(18,.v (.int .i64 (k:Int)))]) (fun k=>[(6,.box 24 [.c (.val (.int .i64 0)),.c (.val (.int .i64 0)),.c (.val (.slice none 0 0))]),(7,.box 24 [.c (.val (.int .i64 (r:Int))),.c (.val (.int .i64 (c:Int))),.own 100]),(100,.row 33 4 (i*c+k) ((fV c val i++iX val i k).flatMap qC))]) (fun k=>c - k) 0 (Nat.zero_le _) (fun k hk=>?_)
   (by
    have e:Ent.row 33 4 (i*c) ((fV c val i).flatMap qC)=Ent.row 33 4 (i*c+0) ((fV c val i++iX val i 0).flatMap qC):=by simp[iX]
    refine SX.St.aZ [] (by intro b h;cases h) ?_ ?_ rfl
    ·repeat(first|exact trivial|refine⟨⟨_,rfl,SX.aG.same rfl⟩,?_⟩)
    ·exact⟨SX.ay.same rfl rfl,SX.ay.same rfl rfl,SX.ay.eq rfl e rfl,trivial⟩)
  by_cases h2:k < c
  ·have hf:=hx i k h h2;have ir:=hL i k h h2;have hlen:i*c+k≤20000:=by
    have:=Nat.mul_le_mul (show i≤100 by omega) hc
    omega
   refine SX.goM ?_;refine W.next (k+1) h2 (by omega) (by
    have e2:(fV c val i++iX val i k).flatMap qC++qC (val i k+0)=(fV c val i++iX val i (k+1)).flatMap qC:=by
     rw[Rat.add_zero,vY,←List.append_assoc,List.flatMap_append (xs:=fV c val i++iX val i k)];simp
    refine SX.St.aZ [(100,some 30)] (by intro b h;cases h) ?_ ?_ rfl
    ·repeat(first|exact trivial|refine⟨⟨_,rfl,SX.aG.same rfl⟩,?_⟩)
    ·exact⟨SX.ay.same rfl rfl,SX.ay.mo rfl rfl ⟨aB.same rfl,aB.same rfl,aB.own rfl,trivial⟩,SX.ay.row rfl rfl (by omega) e2,trivial⟩)
  ·obtain rfl:k=c:=by omega
   refine SX.goM ?_;refine W.next (i+1) h (by omega) (by
    have e2:Ent.row 33 4 (i*k+k) ((fV k val i++iX val i k).flatMap qC)=Ent.row 33 4 ((i+1)*k) ((fV k val (i+1)).flatMap qC):=by rw[Nat.succ_mul,xD];rfl
    refine SX.St.aZ [] (by intro b h;cases h) ?_ ?_ rfl
    ·repeat(first|exact trivial|refine⟨⟨_,rfl,SX.aG.same rfl⟩,?_⟩)
    ·exact⟨SX.ay.same rfl rfl,SX.ay.same rfl rfl,SX.ay.eq rfl e2 rfl,trivial⟩)
 ·obtain rfl:i=r:=by omega
  refine SX.goM ?_;have hm:pE i c (fV c val i)=[.c (.val (.int .i64 (i:Int))),.c (.val (.int .i64 (c:Int))),.c (.sat (aL 4 (i*c) ((fV c val i).flatMap qC)))]:=by
   show [_,_,Atom.c (.sat (aL 4 (fV c val i).length _))]=_;rw[iZ]
  rw[hm];refine aN.frz 100 ?_;exact kR (ak.aX rfl rfl rfl) rfl
abbrev q4C(q:Q4):List CA:=[.val (.bool q.1),.sat q.2.1,.val (.bool q.2.2.1),.sat q.2.2.2]
instance:dH q4C 4:=⟨fun _=>rfl⟩
abbrev iE(r c:Nat)(l:List Q4):List Atom:=[.c (.val (.int .i64 (r:Int))),.c (.val (.int .i64 (c:Int))),.c (.sat (aA 4 q4C l))]
structure MV(l:List Q4)(vs:List Rat)(K:Nat):Prop where
 len:l.length=vs.length
 ra:∀(i:Nat) q v,l[i]? =some q→vs[i]? =some v→Ra (q4A q) v K
instance lZ(r c:Int){n:Nat}{cells:List CA}:Con prog 39 [.agg [.c (.val (.int .i64 r)),.c (.val (.int .i64 c)),.c (.sat (aL 4 n cells))]] True (.v (.bool (decide (0≤r∧r≤64∧0≤c∧c≤64∧(n:Int)=r*c)))):=⟨fun _=>by
 refine ah.fnF func39 results39 ntmps39 rfl rfl rfl (by simp[AV.ids,AV0.ids,Atom.ids]) rfl (fun w0 T B E0 hB=>?_)
 by_cases h1:r≥0
 ·by_cases h2:r≤64
  ·by_cases h3:c≥0
   ·by_cases h4:c≤64
    ·have hp:0≤r*c:=Int.mul_nonneg h1 h3;have hp2:r*c≤64*64:=Int.mul_le_mul h2 h4 h3 (by decide)
     refine SX.goM ?_;refine aP ?_;rw[decide_eq_decide];exact⟨fun h=>⟨h1,h2,h3,h4,h⟩,fun h=>h.2.2.2.2⟩
    ·refine SX.goM ?_;refine aP ?_;exact(decide_eq_false fun h=>h4 h.2.2.2.1).symm
   ·refine SX.goM ?_;refine aP ?_;exact(decide_eq_false fun h=>h3 h.2.2.1).symm
  ·refine SX.goM ?_;refine aP ?_;exact(decide_eq_false fun h=>h2 h.2.1).symm
 ·refine SX.goM ?_;refine aP ?_;exact(decide_eq_false fun h=>h1 h.1).symm⟩
theorem ads{r c i k:Nat}{l:List Q4}{q:Q4}(hq:l[i*c+k]? =some q)(hi:i≤100)(hc:c≤100)(hk:k≤100):
  ah prog 43 [.agg (iE r c l),.v (.int .i64 (i:Int)),.v (.int .i64 (k:Int))] (.agg (q4A q)):=by
 have hb:=Nat.mul_le_mul hi hc;have hlt:i*c+k < l.length:=by
  rcases Nat.lt_or_ge (i*c+k) l.length with h|h
  ·exact h
  ·rw[List.getElem?_eq_none h]at hq;cases hq
 refine ah.fnF func43 results43 ntmps43 rfl rfl rfl (by simp[AV.ids,AV0.ids,Atom.ids]) rfl (fun w0 T B E0 hB=>?_)
 refine SX.goM ?_;exact kR (ak.mZ rfl rfl rfl) rfl
theorem asy{r c i k:Nat}{l:List Q4}{vs:List Rat}{K:Nat}{v:Rat}(hM:MV l vs K)(hl:l.length=r*c)(hr:r≤64)(hc:c≤64)(hi:i < r)(hk:k < c)(hv:vs[i*c+k]? =some v)(hK:K+1≤1000000):
  ah prog 187 [.agg (iE r c l),.v (.int .i64 (i:Int)),.v (.int .i64 (k:Int))] (.agg (qA v)):=by
 have hlt:i*c+k < l.length:=by
  rcases Nat.lt_or_ge (i*c+k) l.length with h|h
  ·exact h
  ·rw[hM.len]at h;rw[List.getElem?_eq_none h]at hv;cases hv
 obtain⟨q,hq⟩:∃q,l[i*c+k]? =some q:=⟨_,zq2 hlt⟩
 have hg:=ads (r:=r) hq (by omega) (by omega) (by omega)
 have ir:=hM.ra _ _ _ hq hv;have iz:Ra (qA 0) 0 1:=(RB.zero (Nat.le_refl 1)).ra;have hf:decide (0≤(r:Int)∧(r:Int)≤64∧0≤(c:Int)∧(c:Int)≤64∧(l.length:Int)=(r:Int)*(c:Int))=true:=decide_eq_true ⟨by omega,by omega,by omega,by omega,by rw[hl];rfl⟩
 have cF:ah prog 39 [.agg (iE r c l)] (.v (.bool true)):=by
  have h:=(lZ (r:Int) (c:Int) (n:=l.length) (cells:=l.flatMap q4C)).h trivial;rw[hf]at h;exact h
 refine ah.fnF func187 results187 ntmps187 rfl rfl rfl (by simp[AV.ids,AV0.ids,Atom.ids]) rfl (fun w0 T B E0 hB=>?_)
 refine SX.goM ?_;rw[Rat.add_zero];exact kR (ak.mZ rfl rfl rfl) rfl
def piC(n:Nat):List CA:=[.val (.int .i64 (n:Int))]
abbrev gF(js:List Nat)(c:List (List Rat)):jO:=eU 22 33 4 qC js c
abbrev sF(ps:List Nat):Ent:= .row 3 1 ps.length (ps.flatMap piC)
abbrev WkI:=List Nat×List (List Rat)
def wkE(M:List (List Rat))(cols:Nat)(ps:List Nat):jO:=
 mh 81 (fun p:WkI=>p.1.Nodup∧(∀j∈p.1,j < p.2.length)∧p.1.map (fun j=>p.2.getD j [])=M) 99 (fun _=>[jE 91 0,.c (.val (.int .i64 (cols:Int))),.own 92]) (fun p=>[(91,.abs (gF p.1 p.2)),(92,sF ps)])
def bgR(c d:Nat)(va vb:Nat→Nat→Rat)(i:Nat):List Rat:=iX va i c++iX vb i d
def bgM(c d:Nat)(va vb:Nat→Nat→Rat)(r:Nat):List (List Rat):=(List.range r).map (bgR c d va vb)
abbrev iT(r c:Nat)(x:Rep):List Atom:=[.c (.val (.int .i64 (r:Int))),.c (.val (.int .i64 (c:Int))),.c (.sat x)]
theorem apF{c d:Nat}{va vb:Nat→Nat→Rat}{r:Nat}:(List.range r).map (fun j=>(bgM c d va vb r).getD j [])=bgM c d va vb r:=by
 unfold bgM;refine List.map_congr_left fun j hj=>?_
 rw[zq3,List.getElem?_map,List.getElem?_range (List.mem_range.1 hj)];rfl
theorem nP{C:Ctx}{st:St}{M:List (List Rat)}{cols:Nat}{ps:List Nat}{cells0:List Atom}(js:List Nat)(c:List (List Rat))(ρ:List (Nat×Option Nat))(os:List Nat)(hnd:js.Nodup)(hlt:∀j∈js,j < c.length)(hM:js.map (fun j=>c.getD j [])=M)(hb:st.hp 81= .ent (.box 99 cells0))
  (hc:mG ρ cells0 [jE 91 0,.c (.val (.int .i64 (cols:Int))),.own 92]) (hR:aay st ρ [(91,.abs (gF js c)),(92,sF ps)])
  (hos:(([(91,.abs (gF js c)),(92,sF ps)]:List (Nat×Ent)).all fun q=>match SX.src ρ q.1 with|some o=>iR os o|none=>true)=true) (hbo:iR os 81=false) (hdi:(([(91,.abs (gF js c)),(92,sF ps)]:List (Nat×Ent)).all fun q=>([(91,.abs (gF js c)),(92,sF ps)]:List (Nat×Ent)).all fun q'=>Nat.beq q.1 q'.1||!(eqO (SX.src ρ q.1) (SX.src ρ q'.1)))=true) (hfb:lk ρ 81=none:=by rfl):
  St.le C st (oN st 81 (wkE M cols ps) os):=
 St.aa9 (ι:=WkI) (b:=81) (js,c) ρ os ⟨hnd,hlt,hM⟩ hb hc hR hos hbo hdi hfb
theorem ajO{c d:Nat}{va vb:Nat→Nat→Rat}{i:Nat}:gF (List.range i++[(bgM c d va vb i).length]) (bgM c d va vb i++[bgR c d va vb i])=gF (List.range (i+1)) (bgM c d va vb (i+1)):=by
 have e1:(bgM c d va vb i).length=i:=by simp[bgM]
 rw[e1,List.range_succ];unfold bgM;rw[List.range_succ,List.map_append];rfl
theorem ak2(r c rb d:Nat)(x y:Rep)(va vb:Nat→Nat→Rat)(hr:r≤100)(hc:c≤100)(hd:d≤100)
  (hA:∀i k,i < r→k < c→ah prog 187 [.agg (iT r c x),.v (.int .i64 (i:Int)),.v (.int .i64 (k:Int))] (.agg (qA (va i k))))
  (hBt:∀i k,i < r→k < d→ah prog 187 [.agg (iT rb d y),.v (.int .i64 (i:Int)),.v (.int .i64 (k:Int))] (.agg (qA (vb i k)))):
  aj prog 98 [.agg (iT r c x),.agg (iT rb d y)] [] ⟨.ptr 81 0,[(81,.ent (.abs (wkE (bgM c d va vb r) c [])))]⟩:=by
 have n81:Named 13 81:=⟨⟩;refine aj.fnA func98 results98 ntmps98 rfl rfl rfl rfl rfl rfl rfl rfl (fun w0 T B E0 hB=>?_)
 refine SX.goM ?_;refine W.loop (fun i=>i≤r) (fun i=>[(2,.ptr 2 0),(3,.ptr 3 0),(5,.ptr 81 0),(15,.v (.int .i64 (r:Int))),(16,.v (.int .i64 (i:Int)))]) (fun i=>[(2,.box 24 (iT r c x)),(3,.box 24 (iT rb d y)),(81,.box 99 [jE 91 0,.c (.val (.int .i64 (c:Int))),.c (.val (.slice none 0 0))]),(91,.abs (gF (List.range i) (bgM c d va vb i)))]) (fun i=>r - i) 0 (Nat.zero_le _) (fun i hi=>?_)
  (by
   refine SX.St.aZ [(91,none)] (by intro b h;cases h) ?_ ?_ rfl
   ·repeat(first|exact trivial|refine⟨⟨_,rfl,SX.aG.same rfl⟩,?_⟩)
   ·exact⟨SX.ay.same rfl rfl,SX.ay.same rfl rfl,SX.ay.mo rfl rfl ⟨aB.ao7 rfl,aB.same rfl,aB.same rfl,trivial⟩,SX.ay.aiX rfl,trivial⟩)
 by_cases h:i < r
 ·refine SX.goM ?_;refine W.loop (fun k=>k≤c) (fun k=>[(2,.ptr 2 0),(3,.ptr 3 0),(5,.ptr 81 0),(6,.v (.int .i64 (i:Int))),(7,.own 100),(15,.v (.int .i64 (r:Int))),(16,.v (.int .i64 (i:Int))),(20,.v (.int .i64 (c:Int))),(21,.v (.int .i64 (k:Int)))]) (fun k=>[(2,.box 24 (iT r c x)),(3,.box 24 (iT rb d y)),(81,.box 99 [jE 91 0,.c (.val (.int .i64 (c:Int))),.c (.val (.slice none 0 0))]),(91,.abs (gF (List.range i) (bgM c d va vb i))),(100,.row 33 4 k ((iX va i k).flatMap qC))]) (fun k=>c - k) 0 (Nat.zero_le _) (fun k hk=>?_)
   (by
    refine SX.St.aZ [(100,none)] (by intro b h;cases h) ?_ ?_ rfl
    ·repeat(first|exact trivial|refine⟨⟨_,rfl,SX.aG.same rfl⟩,?_⟩|refine⟨⟨_,rfl,SX.aG.nil rfl⟩,?_⟩)
    ·exact⟨SX.ay.same rfl rfl,SX.ay.same rfl rfl,SX.ay.same rfl rfl,SX.ay.same rfl rfl,SX.ay.dF rfl,trivial⟩)
  by_cases h2:k < c
  ·have hf:=hA i k h h2;refine SX.goM ?_;refine W.next (k+1) h2 (by omega) (by
    have e2:(iX va i k).flatMap qC++qC (va i k)=(iX va i (k+1)).flatMap qC:=by rw[vY,List.flatMap_append];simp
    refine SX.St.aZ [(100,some 30)] (by intro b h;cases h) ?_ ?_ rfl
    ·repeat(first|exact trivial|refine⟨⟨_,rfl,SX.aG.same rfl⟩,?_⟩|refine⟨⟨_,rfl,SX.aG.own rfl⟩,?_⟩)
    ·exact⟨SX.ay.same rfl rfl,SX.ay.same rfl rfl,SX.ay.same rfl rfl,SX.ay.same rfl rfl,SX.ay.row rfl rfl rfl e2,trivial⟩)
  ·obtain rfl:k=c:=by omega
   refine SX.goM ?_;refine W.loop (fun j=>j≤d) (fun j=>[(2,.ptr 2 0),(3,.ptr 3 0),(5,.ptr 81 0),(6,.v (.int .i64 (i:Int))),(7,.own 100),(15,.v (.int .i64 (r:Int))),(16,.v (.int .i64 (i:Int))),(33,.v (.int .i64 (d:Int))),(34,.v (.int .i64 (j:Int)))]) (fun j=>[(2,.box 24 (iT r k x)),(3,.box 24 (iT rb d y)),(81,.box 99 [jE 91 0,.c (.val (.int .i64 (k:Int))),.c (.val (.slice none 0 0))]),(91,.abs (gF (List.range i) (bgM k d va vb i))),(100,.row 33 4 (k+j) ((iX va i k++iX vb i j).flatMap qC))]) (fun j=>d - j) 0 (Nat.zero_le _) (fun j hj=>?_)
    (by
     have e:Ent.row 33 4 k ((iX va i k).flatMap qC)=Ent.row 33 4 (k+0) ((iX va i k++iX vb i 0).flatMap qC):=by simp[iX]
     refine SX.St.aZ [] (by intro b h;cases h) ?_ ?_ rfl
     ·repeat(first|exact trivial|refine⟨⟨_,rfl,SX.aG.same rfl⟩,?_⟩)
     ·exact⟨SX.ay.same rfl rfl,SX.ay.same rfl rfl,SX.ay.same rfl rfl,SX.ay.same rfl rfl,SX.ay.eq rfl e rfl,trivial⟩)
   by_cases h3:j < d
   ·have hf:=hBt i j h h3;refine SX.goM ?_;refine W.next (j+1) h3 (by omega) (by
     have e2:(iX va i k++iX vb i j).flatMap qC++qC (vb i j)=(iX va i k++iX vb i (j+1)).flatMap qC:=by rw[vY,←List.append_assoc,List.flatMap_append (xs:=iX va i k++iX vb i j)];simp
     refine SX.St.aZ [(100,some 43)] (by intro b h;cases h) ?_ ?_ rfl
     ·repeat(first|exact trivial|refine⟨⟨_,rfl,SX.aG.same rfl⟩,?_⟩|refine⟨⟨_,rfl,SX.aG.own rfl⟩,?_⟩)
     ·exact⟨SX.ay.same rfl rfl,SX.ay.same rfl rfl,SX.ay.same rfl rfl,SX.ay.same rfl rfl,SX.ay.row rfl rfl (by omega) e2,trivial⟩)
   ·obtain rfl:j=d:=by omega
    have hlen:k+j=(bgR k j va vb i).length:=by simp[bgR,aoj]
    have hcell:(iX va i k++iX vb i j).flatMap qC=(bgR k j va vb i).flatMap qC:=rfl;have hjs:(List.range i).length=i:=List.length_range;refine SX.goM ?_;refine SX.Go1.litH (l:=bgR k j va vb i) (enc:=qC) rfl rfl rfl rfl hlen hcell ?_;refine SX.goM ?_;refine W.next (i+1) h (by omega) (by
     refine SX.St.aZ [(91,some 52)] (by intro b h;cases h) ?_ ?_ rfl
     ·repeat(first|exact trivial|refine⟨⟨_,rfl,SX.aG.same rfl⟩,?_⟩)
     ·exact⟨SX.ay.same rfl rfl,SX.ay.same rfl rfl,SX.ay.mo rfl rfl ⟨aB.rel rfl,aB.same rfl,aB.same rfl,trivial⟩,SX.ay.abs rfl rfl ajO,trivial⟩)
 ·obtain rfl:i=r:=by omega
  refine SX.goM ?_;refine aN.le (nP (ps:=[]) (List.range i) (bgM c d va vb i) [(92,none)] [91] List.nodup_range (fun j hj=>by simpa[bgM]using hj) apF rfl ⟨aB.same rfl,aB.same rfl,aB.nil rfl,trivial⟩ ⟨SX.ay.same rfl rfl,SX.ay.dF rfl,trivial⟩ rfl rfl rfl) ?_
  exact gI (xs:=[.one (.ptr 81 0)]) ⟨ak.tmp rfl,trivial⟩ ⟨rfl,trivial⟩
def wS(r:List Rat):List CA:=[.sat (aA 4 qC r)]
instance:dH wS 1:=⟨fun _=>rfl⟩
def fi{α:Type}(p:α→Bool):List α→Nat→Int
 |[],_=> -1
 |a::l,k=>if p a then(k:Int)else fi p l (k+1)
theorem om{α:Type}{p:α→Bool}{l:List α}{k:Nat}{a:α}(h:l[k]? =some a):fi p (l.drop k) k=if p a then(k:Int)else fi p (l.drop (k+1)) (k+1):=by
 have hk:k < l.length:=by
  rcases Nat.lt_or_ge k l.length with h2|h2
  ·exact h2
  ·rw[List.getElem?_eq_none h2]at h;cases h
 rw[List.drop_eq_getElem_cons hk];rw[zq2 hk]at h
 rw[Option.some.inj h];rfl
theorem agW(M:List (List Rat))(x:CA)(p:List Rat→Bool)(hx:∀r∈M,FnV prog x [.r (aA 4 qC r)] (.v (.bool (p r))))(hl:M.length≤1000):
  ah prog 188 [.r (aA 1 wS M),.it (.one (.c x))] (.v (.int .i64 (fi p M 0))):=by
 refine ah.fnF func188 results188 ntmps188 rfl rfl rfl (by simp[AV.ids,AV0.ids,Atom.ids]) rfl (fun w0 T B E0 hB=>?_)
 refine SX.goM ?_;refine W.loop (fun k=>k≤M.length∧fi p (M.drop k) k=fi p M 0) (fun k=>[(0,.r (aA 1 wS M)),(1,.it (.one (.c x))),(7,.v (.int .i64 (M.length:Int))),(8,.v (.int .i64 (k:Int)))]) (fun _=>[]) (fun k=>M.length - k) 0 ⟨Nat.zero_le _,rfl⟩ (fun k ⟨hk,he⟩=>?_)
 by_cases h:k < M.length
 ·obtain⟨r,hr⟩:∃r,M[k]? =some r:=⟨_,zq2 h⟩
  have hf:=hx r (zq4 hr);rw[om hr]at he;cases hp:p r with
  |true=>
   rw[hp]at hf he;refine SX.goM ?_;refine gM ?_;rw[←he];rfl
  |false=>
   rw[hp]at hf he;refine SX.goM ?_;exact W.next (k+1) ⟨h,he⟩ (by omega)
 ·obtain rfl:k=M.length:=by omega
  rw[List.drop_length]at he;refine SX.goM ?_;refine gM ?_;rw[←he];rfl
def nz(col:Nat)(r:List Rat):Bool:=decide (r.getD col 0≠0)
theorem at0(col:Nat)(r:List Rat)(K:Nat)(hcol:col < r.length)(hr:∀v∈r,RB v K)(hK:K≤400000):ah prog 189 [.r (aA 4 qC r),.r (bJ [.val (.int .i64 (col:Int))])] (.v (.bool (nz col r))):=by
 obtain⟨v,hv⟩:∃v,r[col]? =some v:=⟨_,zq2 hcol⟩
 have iv:=(hr v (zq4 hv)).ra;obtain⟨z,cz,hz,_⟩:=eSign (qA v) hK;have e:nz col r=decide (z≠0):=by
  unfold nz;rw[zq3,hv];show decide (v≠0)=_
  rw[decide_eq_decide,Ne,Ne,hz]
 rw[e];refine ah.fnF func189 results189 ntmps189 rfl rfl rfl (by simp[AV.ids,AV0.ids,Atom.ids]) rfl (fun w0 T B E0 hB=>?_)
 refine SX.goM ?_;exact aP rfl
abbrev wkL(js:List Nat)(c:List (List Rat))(ps:List Nat):List (Nat×Ent):=[(91,.abs (gF js c)),(92,sF ps)]
theorem ahZ{P:Program}{C:Ctx}{st:St}{Q:Exit→St→Prop}{cd:Code}{M:List (List Rat)}{cols:Nat}{ps:List Nat}(hb:st.hp 81= .ent (.abs (wkE M cols ps)))(h1:st.hp 91= .free)(h2:st.hp 92= .free)(f1:C.fix 91=false)(f2:C.fix 92=false)
  (h:∀js c,js.Nodup→(∀j∈js,j < c.length)→js.map (fun j=>c.getD j [])=M→WP P C cd (sS st 81 99 [jE 91 0,.c (.val (.int .i64 (cols:Int))),.own 92] (wkL js c ps)) Q):WP P C cd st Q:=
 WP.afp (ι:=WkI) (b:=81) [91,92] hb (fun p=>rfl) (by intro i hi;simp at hi;rcases hi with rfl|rfl <;> assumption) (by intro i hi;simp at hi;rcases hi with rfl|rfl <;> assumption)
  (by intro p i hi;exact .inl (by simpa[Atom.ids]using hi)) (by intro p i e he;simp at he;rcases he with⟨rfl,rfl⟩|⟨rfl,rfl⟩ <;> rfl) (fun p hp=>h p.1 p.2 hp.1 hp.2.1 hp.2.2)
def mlL(s:List Rat)(f:Rat)(k:Nat):List Rat:=(s.take k).map (· *f)++s.drop k
theorem qV{s:List Rat}{f:Rat}{k:Nat}(hk:k≤s.length):(mlL s f k).length=s.length:=by unfold mlL;simp;omega
theorem apU{s:List Rat}{f:Rat}{k:Nat}{a:Rat}(ha:s[k]? =some a):(mlL s f k)[k]? =some a:=by
 have hk:k < s.length:=by
  rcases Nat.lt_or_ge k s.length with h|h
  ·exact h
  ·rw[List.getElem?_eq_none h]at ha;cases ha
 unfold mlL;rw[List.getElem?_append_right (by simp;omega)]
 simp only[zq5,List.length_take,List.getElem?_drop]
 rw[show min k s.length=k by omega,Nat.sub_self,Nat.add_zero];exact ha
theorem ap8{s:List Rat}{f:Rat}{k:Nat}{a:Rat}(ha:s[k]? =some a):(mlL s f k).set k (a*f)=mlL s f (k+1):=by
 have hk:k < s.length:=by
  rcases Nat.lt_or_ge k s.length with h|h
  ·exact h
  ·rw[List.getElem?_eq_none h]at ha;cases ha
 apply List.ext_getElem?
 intro i;rw[List.getElem?_set]
 unfold mlL;by_cases hi:k=i
 ·subst hi;rw[if_pos rfl,if_pos (by simp;omega)]
  rw[List.getElem?_append_left (by simp;omega)]
  simp[ha]
 ·rw[if_neg hi];by_cases hlt:i < k
  ·rw[List.getElem?_append_left (by simp;omega),List.getElem?_append_left (by simp;omega)]
   simp[List.getElem?_take,hlt,show i < k+1 by omega]
  ·rw[List.getElem?_append_right (by simp;omega),List.getElem?_append_right (by simp;omega)]
   simp only[zq5,List.length_take,List.getElem?_drop]
   congr 1
   omega
def uP(M:List (List Rat))(top col:Nat):Int:=fi (nz col) (M.drop top) 0
def sw{α:Type}(l:List α)(i j:Nat):List α:=match l[i]?,l[j]? with|some a,some b=>(l.set i b).set j a|_,_=>l
def kZ(M:List (List Rat))(top i col:Nat):List Rat:=let s:=(sw M top (top+i)).getD top [];mlL s (1 / s.getD col 0) s.length
def wH(by_:List Rat)(col:Nat)(r:List Rat):List Rat:=tkL r by_ (r.getD col 0) r.length
def lK(M:List (List Rat))(top col:Nat):List (List Rat):=if uP M top col < 0 then M else
 ((sw M top (top+(uP M top col).toNat)).map (wH (kZ M top (uP M top col).toNat col) col)).set top (kZ M top (uP M top col).toNat col)
def aaT(M:List (List Rat))(ps:List Nat)(col:Nat):List Nat:=if uP M ps.length col < 0 then ps else ps++[col]
theorem zl(M:List (List Rat)):M.flatMap wS=M.map fun r=>CA.sat (aA 4 qC r):=by
 induction M with
 |nil=>rfl
 |cons r M ih=>rw[List.flatMap_cons,ih];rfl
theorem am4{tO tI:TypeId}{js:List Nat}{c:List (List Rat)}{M:List (List Rat)}{top bk:Nat}{v u:Value}{X S S':Nat→Prop}{w:World}(hM:js.map (fun j=>c.getD j [])=M)(h:gK tO tI 4 qC js c v X S w)(hsub:∀k,S' k→S k)(hX:∀k,X k→¬S' k)(hu:amc top bk v u):(aA 1 wS (M.drop top)).has S' w u:=by
 have hf:=h.frz hsub hX;obtain⟨a,n,cap,hv,hle,rfl⟩:=hu;have hn:n=js.length:=by
  obtain⟨oa,cap',e,_⟩:=bB.1 hf;rw[hv]at e;cases e;rfl
 subst hn;rw[hv]at hf;have hp:=xU (l:=top) (h:=js.length) hf hle (Nat.le_refl _);have hlen:M.length=js.length:=by rw[←hM,zq5]
 have ec:js.map (fun j=>CA.sat (aA 4 qC (c.getD j [])))=M.flatMap wS:=by rw[zl,←hM,List.map_map];rfl
 rw[ec,List.take_of_length_le (by rw[List.length_drop,zl,zq5,hlen];omega)]at hp
 have e1:(M.flatMap wS).drop (top*1)=(M.drop top).flatMap wS:=abH M top;rw[e1]at hp;show (aL 1 (M.drop top).length _).has S' w _;rw[List.length_drop,hlen];exact hp
theorem yU{α:Type}{p:α→Bool}:∀(l:List α) (k:Nat),¬fi p l k < 0→∃i a,fi p l k=((k+i:Nat):Int)∧l[i]? =some a∧p a=true
 |[],k,h=>absurd (show (-1:Int) < 0 by decide) h
 |a::l,k,h=>by
  unfold fi at h ⊢;cases hp:p a with
  |true=>exact⟨0,a,by simp,rfl,hp⟩
  |false=>
   rw[hp]at h;obtain⟨i,b,h1,h2,h3⟩:=yU l (k+1) h;exact⟨i+1,b,by rw[if_neg (by decide),h1];congr 1;omega,h2,h3⟩
def kH(js:List Nat)(top col:Nat)(b:List Rat)(c:List (List Rat)):Nat→List (List Rat)
 |0=>c
 |r+1=>if r=top then kH js top col b c r else match js[r]? with
  |some j=>(kH js top col b c r).set j (wH b col ((kH js top col b c r).getD j []))
  |none=>kH js top col b c r
theorem uj{js:List Nat}{top col:Nat}{b:List Rat}{c:List (List Rat)}:∀r,(kH js top col b c r).length=c.length
 |0=>rfl
 |r+1=>by
  unfold kH
  split
  ·exact uj r
  ·split
   ·rw[List.length_set];exact uj r
   ·exact uj r
theorem aa4{js:List Nat}(h:js.Nodup){i k a b:Nat}(hi:js[i]? =some a)(hk:js[k]? =some b)(hne:i≠k):a≠b:=by
 rintro rfl;have hil:i < js.length:=by
  rcases Nat.lt_or_ge i js.length with h|h
  ·exact h
  ·rw[List.getElem?_eq_none h]at hi;cases hi
 exact hne ((List.getElem?_inj hil h).1 (hi.trans hk.symm))
theorem qp{js:List Nat}{top col:Nat}{b:List Rat}{c:List (List Rat)}(hnd:js.Nodup):∀(r:Nat) {k j:Nat},js[k]? =some j→(r≤k∨k=top)→(kH js top col b c r)[j]? =c[j]?
 |0,k,j,hk,_=>rfl
 |r+1,k,j,hk,h=>by
  have ih:=qp (top:=top) (col:=col) (b:=b) (c:=c) hnd r hk (by omega)
  unfold kH
  split
  ·exact ih
  ·rename_i hrt
   split
   ·rename_i j2 hj2;have hne:j2≠j:=aa4 hnd hj2 hk (by omega)
    rw[List.getElem?_set,if_neg hne];exact ih
   ·exact ih
theorem afa{js:List Nat}{top col:Nat}{b:List Rat}{c:List (List Rat)}(hnd:js.Nodup):∀(r:Nat) {k j:Nat} {x:List Rat},js[k]? =some j→k < r→k≠top→c[j]? =some x→(kH js top col b c r)[j]? =some (wH b col x)
 |0,k,j,x,hk,h,_,_=>absurd h (Nat.not_lt_zero _)
 |r+1,k,j,x,hk,h,ht,hx=>by
  have ih:k≠r→(kH js top col b c r)[j]? =some (wH b col x):=fun hn=>afa hnd r hk (by omega) ht hx
  unfold kH
  split
  ·exact ih (by omega)
  ·split
   ·rename_i j2 hj2;by_cases hkr:k=r
    ·subst hkr;rw[hk]at hj2;cases hj2;have ho:=qp (top:=top) (col:=col) (b:=b) (c:=c) hnd k hk (.inl (Nat.le_refl _));rw[hx]at ho;have hlt:j < (kH js top col b c k).length:=by
      rcases Nat.lt_or_ge j (kH js top col b c k).length with h|h
      ·exact h
      ·rw[List.getElem?_eq_none h]at ho;cases ho
     rw[List.getElem?_set,if_pos rfl,if_pos hlt,zq3,ho];rfl
    ·have hne:j2≠j:=aa4 hnd hj2 hk (fun e=>hkr e.symm)
     rw[List.getElem?_set,if_neg hne];exact ih hkr
   ·rename_i hj2;exact ih (fun e=>by subst e;rw[hk]at hj2;cases hj2)
theorem adR{α β:Type}(g:α→β)(l:List α)(i:Nat)(a:α):(l.map g).set i (g a)=(l.set i a).map g:=by rw[List.map_set]
theorem aoM{α β:Type}(g:α→β){l:List α}{i j:Nat}{a b:α}(ha:l[i]? =some a)(hb:l[j]? =some b):sw (l.map g) i j=((l.set i b).set j a).map g:=by
 unfold sw;rw[List.getElem?_map,List.getElem?_map,ha,hb]
 show ((l.map g).set i (g b)).set j (g a)=_;rw[adR,adR]
theorem apB{js c:_}{M:List (List Rat)}{t i col ja jb:Nat}{row:List Rat}{f v:Rat}(hjM:(js:List Nat).map (fun j=>(c:List (List Rat)).getD j [])=M)(hja:js[t]? =some ja)(hjb:js[t+i]? =some jb)(hlt:∀j∈(js.set t jb).set (t+i) ja,j < c.length)
  (hnd:((js.set t jb).set (t+i) ja).Nodup) (hjt:((js.set t jb).set (t+i) ja)[t]? =some jb) (hs:c[jb]? =some row) (hv:row[col]? =some v) (hf:f=1 / v) {n:Nat} (hn:n=((js.set t jb).set (t+i) ja).length):
  ((js.set t jb).set (t+i) ja).map (fun j=>(kH ((js.set t jb).set (t+i) ja) t col (mlL row f row.length) (c.set jb (mlL row f row.length)) n).getD j [])=((sw M t (t+i)).map (wH (kZ M t i col) col)).set t (kZ M t i col):=by
 have hsw:sw M t (t+i)=((js.set t jb).set (t+i) ja).map fun j=>c.getD j []:=by rw[←hjM];exact aoM _ hja hjb
 have hby:kZ M t i col=mlL row f row.length:=by
  unfold kZ;have e1:(sw M t (t+i)).getD t []=row:=by
   rw[hsw,zq3,List.getElem?_map,hjt]
   show (some (c.getD jb [])).getD []=row;rw[zq3,hs];rfl
  have e2:row.getD col 0=v:=by rw[zq3,hv];rfl
  rw[e1];show mlL row (1 / row.getD col 0) row.length=_;rw[e2,hf]
 rw[hby,hsw];generalize hJ:(js.set t jb).set (t+i) ja=J at*;apply List.ext_getElem?
 intro p;rw[List.getElem?_map,List.getElem?_set,zq5,zq5,List.getElem?_map,List.getElem?_map]
 have hjbl:jb < c.length:=hlt jb (zq4 hjt);have htl:t < J.length:=by
  rcases Nat.lt_or_ge t J.length with h|h
  ·exact h
  ·rw[List.getElem?_eq_none h]at hjt;cases hjt
 by_cases hp:t=p
 ·subst hp;rw[if_pos rfl,if_pos htl,hjt];show some ((kH J t col _ _ n).getD jb [])=_;rw[zq3,qp hnd n hjt (.inr rfl),List.getElem?_set,if_pos rfl,if_pos hjbl];rfl
 ·rw[if_neg hp];cases hjp:J[p]? with
  |none=>rfl
  |some j=>
   have hpl:p < n:=by
    rw[hn];rcases Nat.lt_or_ge p J.length with h|h
    ·exact h
    ·rw[List.getElem?_eq_none h]at hjp;cases hjp
   have hjl:=hlt j (zq4 hjp);have hne:j≠jb:=aa4 hnd hjp hjt (fun e=>hp e.symm)
   obtain⟨x,hx⟩:∃x,c[j]? =some x:=⟨_,zq2 hjl⟩
   have h1:=afa (top:=t) (col:=col) (b:=mlL row f row.length) (c:=c.set jb (mlL row f row.length)) hnd n hjp hpl (fun e=>hp e.symm) (x:=x) (by rw[List.getElem?_set,if_neg (fun e=>hne e.symm)];exact hx)
   show some ((kH J t col _ _ n).getD j [])=some (wH _ col (c.getD j []));rw[zq3,h1,zq3,hx];rfl
theorem aeS{js:List Nat}{t u ja jb:Nat}(hnd:js.Nodup)(ha:js[t]? =some ja)(hb:js[u]? =some jb):((js.set t jb).set u ja).Nodup:=by
 have htl:t < js.length:=by
  rcases Nat.lt_or_ge t js.length with h|h
  ·exact h
  ·rw[List.getElem?_eq_none h]at ha;cases ha
 have hul:u < js.length:=by
  rcases Nat.lt_or_ge u js.length with h|h
  ·exact h
  ·rw[List.getElem?_eq_none h]at hb;cases hb
 show List.Pairwise (· ≠ ·) _;rw[List.pairwise_iff_getElem];intro x y hx hy hxy e0;have e:=(zq2 hx).trans ((congrArg some e0).trans (zq2 hy).symm)
 rw[List.length_set,List.length_set]at hx hy;have key:∀z,z < js.length→((js.set t jb).set u ja)[z]? =js[if z=u then t else if z=t then u else z]? :=by
  intro z hz;rw[List.getElem?_set,List.getElem?_set]
  by_cases h1:u=z
  ·rw[if_pos h1,if_pos h1.symm,if_pos (by rw[List.length_set];exact hul),ha]
  ·have h1':¬z=u:=fun e=>h1 e.symm
   rw[if_neg h1,if_neg h1'];by_cases h2:t=z
   ·rw[if_pos h2,if_pos h2.symm,if_pos htl,hb]
   ·have h2':¬z=t:=fun e=>h2 e.symm
    rw[if_neg h2,if_neg h2']
 rw[key x (by omega),key y (by omega)]at e
 have hz:(if x=u then t else if x=t then u else x) < js.length:=by
  split
  ·exact htl
  ·split
   ·exact hul
   ·omega
 have:=(List.getElem?_inj hz hnd).1 e
 revert this
 repeat' split
 all_goals omega
theorem afY(M:List (List Rat))(cols:Nat)(ps:List Nat)(col w K:Nat)(hM:∀r∈M,r.length=w∧∀v∈r,RB v K)(hK:K≤49000)(hcol:col < w)(hw:w≤300)(hn:M.length≤300)(htop:ps.length < M.length):
  aj prog 99 [.ptr 81 0,.v (.int .i64 (col:Int))] [(81,.abs (wkE M cols ps))] ⟨.tup [],[(81,.ent (.abs (wkE (lK M ps.length col) cols (aaT M ps col))))]⟩:=by
 refine aj.fnA func99 results99 ntmps99 rfl rfl rfl rfl rfl rfl rfl rfl (fun w0 T B E0 hB=>?_)
 refine ahZ rfl rfl rfl rfl rfl (fun js c hnd hlt hjM=>?_)
 have hlen:js.length=M.length:=by rw[←hjM,zq5]
 refine SX.goM ?_
 try(refine SX.WP.aD ?_;refine SX.goM ?_)
 refine SX.Go1.aql (args':=[.r (aA 1 wS (M.drop ps.length)),.it (.one (.c (.sat (dO 189 [] [.sat (bJ [.val (.int .i64 (col:Int))])]))))]) (r:= .int .i64 (uP M ps.length col)) [(91,.abs (gF js c)),(3,.box 3 [.c (.val (.int .i64 (col:Int)))])] rfl rfl rfl (by intro b e h;simp at h;rcases h with⟨rfl,rfl⟩|⟨rfl,rfl⟩ <;> rfl) ?_
  (agW _ _ _ (fun r hr=>FnV.clo (at0 col r K (by rw[(hM r (List.mem_of_mem_drop hr)).1];exact hcol) (hM r (List.mem_of_mem_drop hr)).2 (by omega))) (by rw[List.length_drop];omega)) ?_
 ·intro E S w vs hents hall
  match vs,hall with
  |[u1,u2],⟨h1,h2,_⟩=>
   refine⟨?_,?_,trivial⟩
   ·exact am4 hjM (hents 91 (.abs (gF js c)) (by simp)) (fun k hk=>hk.1) (fun k hX hk=>hk.2 91 (.abs (gF js c)) (by simp) hX) h1.1
   ·refine⟨[],[.pointer (some ⟨E.blk 3,0,none⟩)],h2,trivial,?_,trivial⟩;obtain⟨cs,g1,g2⟩:=hents 3 (.box 3 [.c (.val (.int .i64 (col:Int)))]) (by simp)
    refine ni.2 ⟨E.blk 3,0,rfl,fun i cc hi=>?_⟩
    match cs,g2,i,hi with
    |[u],g2,0,hi=>
     cases hi;have hcell:=cells_of_block g1 0 0 u rfl;exact⟨u,fun h=>h.2 3 (.box 3 [.c (.val (.int .i64 (col:Int)))]) (by simp) rfl,by simpa[Addr.add_lit]using hcell,g2.1⟩
 by_cases hneg:uP M ps.length col < 0
 ·have e1:lK M ps.length col=M:=if_pos hneg;have e2:aaT M ps col=ps:=if_pos hneg;rw[e1,e2];refine SX.goM ?_
  try(refine SX.WP.aD ?_;refine SX.goM ?_)
  refine aN.le (nP js c [] [91,92] hnd hlt hjM rfl ⟨aB.same rfl,aB.same rfl,aB.same rfl,trivial⟩ ⟨SX.ay.same rfl rfl,SX.ay.same rfl rfl,trivial⟩ rfl rfl rfl) ?_;exact gI (xs:=[]) trivial ⟨rfl,trivial⟩
 ·obtain⟨i,row,hi,hrow,hnz⟩:=yU (M.drop ps.length) 0 hneg;have hi:uP M ps.length col=(i:Int):=by show fi _ _ 0=_;rw[hi,Nat.zero_add]
  have e1:lK M ps.length col=((sw M ps.length (ps.length+i)).map (wH (kZ M ps.length i col) col)).set ps.length (kZ M ps.length i col):=by unfold lK;rw[if_neg hneg,hi];rfl
  have e2:aaT M ps col=ps++[col]:=if_neg hneg;rw[e1,e2,hi];clear e1 e2;have hil:ps.length+i < js.length:=by
   rw[hlen];rcases Nat.lt_or_ge (ps.length+i) M.length with h|h
   ·exact h
   ·rw[List.getElem?_drop,List.getElem?_eq_none h]at hrow;cases hrow
  obtain⟨ja,hja⟩:∃j,js[ps.length]? =some j:=⟨_,zq2 (show ps.length < js.length by omega)⟩
  obtain⟨jb,hjb⟩:∃j,js[ps.length+i]? =some j:=⟨_,zq2 hil⟩
  have lja:=hlt ja (zq4 hja);have ljb:=hlt jb (zq4 hjb);have l1:(js.set ps.length jb).length=js.length:=List.length_set;have l2:((js.set ps.length jb).set (ps.length+i) ja).length=js.length:=by rw[List.length_set,List.length_set]
  have hjt:((js.set ps.length jb).set (ps.length+i) ja)[ps.length]? =some jb:=by
   rw[List.getElem?_set]
   by_cases h0:ps.length+i=ps.length
   ·rw[if_pos h0,if_pos (by rw[l1];omega)]
    rw[h0,hja]at hjb;exact hjb
   ·rw[if_neg h0,List.getElem?_set,if_pos rfl,if_pos (by omega)]
  obtain⟨s,hs⟩:∃s,c[jb]? =some s:=⟨_,zq2 ljb⟩
  have hsd:c.getD jb []=s:=by rw[zq3,hs];rfl
  have hMs:M[ps.length+i]? =some s:=by rw[←hjM,List.getElem?_map,hjb,←hsd];rfl
  have hrs:row=s:=by rw[List.getElem?_drop,hMs]at hrow;exact(Option.some.inj hrow).symm
  subst hrs;obtain⟨hsw,hsK⟩:=hM row (zq4 hMs);obtain⟨v,hv⟩:∃v,row[col]? =some v:=⟨_,zq2 (show col < row.length by omega)⟩
  have hv0:v≠0:=by
   have:=of_decide_eq_true hnz;rw[zq3,hv]at this;exact this
  have bv:=hsK v (zq4 hv);have iv:=bv.ra;have i1:Ra (qA 1) 1 1:=(RB.one (Nat.le_refl 1)).ra;obtain⟨f,hfd⟩:∃f,f=1 / v:=⟨_,rfl⟩;have bf:RB f (1+K):=by rw[hfd];exact(RB.one (Nat.le_refl 1)).div bv hv0
  have jf:=bf.ra;have cq:ah prog 15 [.agg (qA 1),.agg (qA v)] (.tup [.agg (qA f),.one (.c (.val (.bool (decide (v≠0)))))]):=by rw[hfd];exact uL.h (by omega)
  refine SX.goM ?_
  try(refine SX.WP.aD ?_;refine SX.goM ?_)
  have hl1:row.length=w:=hsw;refine W.loop (fun k=>k≤w) (fun k=>[(0,.ptr 81 0),(3,.ptr 3 0),(4,.v (.int .i64 (ps.length:Int))),(6,.it (.one (jE 91 (jb+1)))),(7,.ptr 7 0),(74,.v (.int .i64 (w:Int))),(75,.v (.int .i64 (k:Int)))]) (fun k=>[(81,.box 99 [jE 91 0,.c (.val (.int .i64 (cols:Int))),.own 92]),(91,.abs (gF ((js.set ps.length jb).set (ps.length+i) ja) (c.set jb (mlL row f k)))),(92,sF ps),(3,.box 3 [.c (.val (.int .i64 (col:Int)))]),(7,.box 33 (qA f))]) (fun k=>w - k) 0 (Nat.zero_le _) (fun k hk=>?_)
   (by
    have e:gF ((js.set ps.length jb).set (ps.length+i) ja) c=gF ((js.set ps.length jb).set (ps.length+i) ja) (c.set jb (mlL row f 0)):=by
     have:mlL row f 0=row:=by simp[mlL]
     rw[this]
     congr 1
     apply List.ext_getElem?
     intro n;rw[List.getElem?_set]
     by_cases hn:jb=n
     ·subst hn;rw[if_pos rfl,if_pos ljb,hs]
     ·rw[if_neg hn]
    subst hl1;refine SX.St.aZ [] (by intro b h;exact SX.bU h rfl) ?_ ?_ rfl
    ·repeat(first|exact trivial|refine⟨⟨_,rfl,SX.aG.same rfl⟩,?_⟩)
    ·exact⟨SX.ay.same rfl rfl,SX.ay.eq rfl (congrArg Ent.abs e) rfl,SX.ay.same rfl rfl,SX.ay.same rfl rfl,SX.ay.same rfl rfl,trivial⟩)
  by_cases hkw:k < w
  ·obtain⟨a,ha⟩:∃a,row[k]? =some a:=⟨_,zq2 (show k < row.length by omega)⟩
   have ga:=apU (f:=f) ha;have ba:=hsK a (zq4 ha);have ia:=ba.ra;have hcj:(c.set jb (mlL row f k))[jb]? =some (mlL row f k):=by rw[List.getElem?_set,if_pos rfl,if_pos ljb]
   have hml:=qV (f:=f) (show k≤row.length by omega)
   have e1:gF ((js.set ps.length jb).set (ps.length+i) ja) ((c.set jb (mlL row f k)).set jb ((mlL row f k).set k (a*f)))=gF ((js.set ps.length jb).set (ps.length+i) ja) (c.set jb (mlL row f (k+1))):=by rw[ap8 ha,List.set_set]
   refine SX.goM ?_
   try(refine SX.WP.aD ?_;refine SX.goM ?_)
   refine W.next (k+1) hkw (by omega) (by
    refine SX.St.aZ [] (by intro b h;exact SX.bU h rfl) ?_ ?_ rfl
    ·repeat(first|exact trivial|refine⟨⟨_,rfl,SX.aG.same rfl⟩,?_⟩)
    ·exact⟨SX.ay.same rfl rfl,SX.ay.eq rfl (congrArg Ent.abs e1) rfl,SX.ay.same rfl rfl,SX.ay.same rfl rfl,SX.ay.same rfl rfl,trivial⟩)
  ·obtain rfl:k=w:=by omega
   have hnd1:=aeS hnd hja hjb;have hl3:((js.set ps.length jb).set (ps.length+i) ja).length=M.length:=by omega
   refine SX.goM ?_
   try(refine SX.WP.aD ?_;refine SX.goM ?_)
   refine W.loop (fun r=>r≤M.length) (fun r=>[(0,.ptr 81 0),(3,.ptr 3 0),(4,.v (.int .i64 (ps.length:Int))),(6,.it (.one (jE 91 (jb+1)))),(91,.it (.one (jE 91 0))),(92,.v (.int .i64 (M.length:Int))),(93,.v (.int .i64 (r:Int)))]) (fun r=>[(81,.box 99 [jE 91 0,.c (.val (.int .i64 (cols:Int))),.own 92]),(91,.abs (gF ((js.set ps.length jb).set (ps.length+i) ja) (kH ((js.set ps.length jb).set (ps.length+i) ja) ps.length col (mlL row f k) (c.set jb (mlL row f k)) r))),(92,sF ps),(3,.box 3 [.c (.val (.int .i64 (col:Int)))])]) (fun r=>M.length - r) 0 (Nat.zero_le _) (fun r hr=>?_)
    (by
     rw[←hl3];refine SX.St.aZ [] (by intro b h;exact SX.bU h rfl) ?_ ?_ rfl
     ·repeat(first|exact trivial|refine⟨⟨_,rfl,SX.aG.same rfl⟩,?_⟩)
     ·exact⟨SX.ay.same rfl rfl,SX.ay.same rfl rfl,SX.ay.same rfl rfl,SX.ay.same rfl rfl,trivial⟩)
   have hbK:∀y∈mlL row f k,RB y (2*K+1):=by
    intro y hy;unfold mlL at hy;rw[List.drop_of_length_le (by omega),List.append_nil]at hy
    obtain⟨a,ha,rfl⟩:=List.mem_map.1 hy;exact((hsK a (List.mem_of_mem_take ha)).mul bf).mono (by omega)
   have hbl:(mlL row f k).length=k:=by rw[qV (by omega)];exact hl1
   by_cases hrl:r < M.length
   ·obtain⟨jr,hjr⟩:∃j,((js.set ps.length jb).set (ps.length+i) ja)[r]? =some j:=⟨_,zq2 (by omega)⟩
    have hjrm:jr∈js:=by
     rcases List.mem_or_eq_of_mem_set (zq4 hjr)with h|h
     ·rcases List.mem_or_eq_of_mem_set h with h|h
      ·exact h
      ·rw[h];exact zq4 hjb
     ·rw[h];exact zq4 hja
    have ljr:=hlt jr hjrm;by_cases hrt:r=ps.length
    ·have e1:gF ((js.set ps.length jb).set (ps.length+i) ja) (kH ((js.set ps.length jb).set (ps.length+i) ja) ps.length col (mlL row f k) (c.set jb (mlL row f k)) r)=gF ((js.set ps.length jb).set (ps.length+i) ja) (kH ((js.set ps.length jb).set (ps.length+i) ja) ps.length col (mlL row f k) (c.set jb (mlL row f k)) (r+1)):=by
      conv=>rhs;unfold kH;rw[if_pos hrt]
     refine SX.goM ?_
     try(refine SX.WP.aD ?_;refine SX.goM ?_)
     refine W.next (r+1) hrl (by omega) (by
      refine SX.St.aZ [] (by intro b h;exact SX.bU h rfl) ?_ ?_ rfl
      ·repeat(first|exact trivial|refine⟨⟨_,rfl,SX.aG.same rfl⟩,?_⟩)
      ·exact⟨SX.ay.same rfl rfl,SX.ay.eq rfl (congrArg Ent.abs e1) rfl,SX.ay.same rfl rfl,SX.ay.same rfl rfl,trivial⟩)
    ·have hne:jr≠jb:=aa4 hnd1 hjr hjt hrt;obtain⟨x,hx⟩:∃x,c[jr]? =some x:=⟨_,zq2 ljr⟩
     have hxM:x∈M:=by
      rw[←hjM];exact List.mem_map.2 ⟨jr,hjrm,by rw[zq3,hx];rfl⟩
     obtain⟨hxw,hxK⟩:=hM x hxM;obtain⟨u,hu⟩:∃u,x[col]? =some u:=⟨_,zq2 (by omega)⟩
     have hcx:(kH ((js.set ps.length jb).set (ps.length+i) ja) ps.length col (mlL row f k) (c.set jb (mlL row f k)) r)[jr]? =some x:=by
      rw[qp hnd1 r hjr (.inl (Nat.le_refl _)),List.getElem?_set,if_neg (fun e=>hne e.symm)];exact hx
     have hcb:(kH ((js.set ps.length jb).set (ps.length+i) ja) ps.length col (mlL row f k) (c.set jb (mlL row f k)) r)[jb]? =some (mlL row f k):=by
      rw[qp hnd1 r hjt (.inr rfl),List.getElem?_set,if_pos rfl,if_pos ljb]
     have hgx:(kH ((js.set ps.length jb).set (ps.length+i) ja) ps.length col (mlL row f k) (c.set jb (mlL row f k)) r).getD jr []=x:=by rw[zq3,hcx];rfl
     have hud:x.getD col 0=u:=by rw[zq3,hu];rfl
     have e1:gF ((js.set ps.length jb).set (ps.length+i) ja) ((kH ((js.set ps.length jb).set (ps.length+i) ja) ps.length col (mlL row f k) (c.set jb (mlL row f k)) r).set jr (tkL x (mlL row f k) u x.length))=gF ((js.set ps.length jb).set (ps.length+i) ja) (kH ((js.set ps.length jb).set (ps.length+i) ja) ps.length col (mlL row f k) (c.set jb (mlL row f k)) (r+1)):=by
      conv=>rhs;unfold kH;rw[if_neg hrt,hjr]
      dsimp only
      rw[hgx];unfold wH;rw[hud]
     have cT:=amR x (mlL row f k) u (2*K+1) (by omega) (fun y hy=>(hxK y hy).mono (by omega)) hbK ((hxK u (zq4 hu)).mono (by omega)) (by omega) (by omega)
     refine SX.goM ?_
     try(refine SX.WP.aD ?_;refine SX.goM ?_)
     refine SX.Go1.asw (jr:=jr) (jb:=jb) (r:=x) (r':=tkL x (mlL row f k) u x.length) (s:=mlL row f k) rfl rfl rfl rfl rfl hcx hcb hne (yJ (by omega) (Nat.le_refl _)) rfl cT ?_
     refine SX.goM ?_
     try(refine SX.WP.aD ?_;refine SX.goM ?_)
     refine W.next (r+1) hrl (by omega) (by
      refine SX.St.aZ [] (by intro b h;exact SX.bU h rfl) ?_ ?_ rfl
      ·repeat(first|exact trivial|refine⟨⟨_,rfl,SX.aG.same rfl⟩,?_⟩)
      ·exact⟨SX.ay.same rfl rfl,SX.ay.eq rfl (congrArg Ent.abs e1) rfl,SX.ay.same rfl rfl,SX.ay.same rfl rfl,trivial⟩)
   ·obtain rfl:r=M.length:=by omega
    refine SX.goM ?_
    try(refine SX.WP.aD ?_;refine SX.goM ?_)
    have hltJ:∀j∈(js.set ps.length jb).set (ps.length+i) ja,j < c.length:=by
     intro j hj;rcases List.mem_or_eq_of_mem_set hj with h|h
     ·rcases List.mem_or_eq_of_mem_set h with h|h
      ·exact hlt j h
      ·rw[h];exact ljb
     ·rw[h];exact lja
    have hlaw:=apB (f:=f) (n:=M.length) hjM hja hjb hltJ hnd1 hjt hs hv hfd hl3.symm;rw[hl1]at hlaw;refine aN.le (nP (ps:=ps++[col]) ((js.set ps.length jb).set (ps.length+i) ja) (kH ((js.set ps.length jb).set (ps.length+i) ja) ps.length col (mlL row f k) (c.set jb (mlL row f k)) M.length) [(92,some 116)] [91,116] hnd1 (fun j hj=>by rw[uj,List.length_set];exact hltJ j hj) hlaw rfl ⟨aB.same rfl,aB.same rfl,aB.own rfl,trivial⟩ ⟨SX.ay.same rfl rfl,SX.ay.row rfl rfl (by rw[List.length_append];rfl) (by rw[List.flatMap_append];rfl),trivial⟩ rfl rfl rfl) ?_
    exact gI (xs:=[]) trivial ⟨rfl,trivial⟩
def bW:Nat→Nat→List (List Rat)→List Nat→List (List Rat)×List Nat
 |0,_,M,ps=>(M,ps)
 |n+1,col,M,ps=>if ps.length < M.length then bW n (col+1) (lK M ps.length col) (aaT M ps col)else(M,ps)
def kb(K:Nat):Nat→Nat
 |0=>K
 |n+1=>kb (4*K+2) n
theorem aiE:∀(n K:Nat),K≤kb K n
 |0,K=>Nat.le_refl _
 |n+1,K=>by unfold kb;have:=aiE n (4*K+2);omega
theorem aaB{α:Type}{l:List α}{i j:Nat}{x:α}(h:x∈sw l i j):x∈l:=by
 unfold sw at h
 split at h
 ·rename_i a b ha hb;rcases List.mem_or_eq_of_mem_set h with h|h
  ·rcases List.mem_or_eq_of_mem_set h with h|h
   ·exact h
   ·rw[h];exact zq4 hb
  ·rw[h];exact zq4 ha
 ·exact h
theorem zu{α:Type}{l:List α}{i j:Nat}:(sw l i j).length=l.length:=by
 unfold sw
 split
 ·rw[List.length_set,List.length_set]
 ·rfl
theorem aeM{M:List (List Rat)}{top col:Nat}:(lK M top col).length=M.length:=by
 unfold lK
 split
 ·rfl
 ·rw[List.length_set,zq5,zu]
def RW(M:List (List Rat))(w K:Nat):Prop:=∀r∈M,r.length=w∧∀v∈r,RB v K
theorem RW.mono{M:List (List Rat)}{w K L:Nat}(h:RW M w K)(hK:K≤L):RW M w L:=fun r hr=>⟨(h r hr).1,fun v hv=>((h r hr).2 v hv).mono hK⟩
theorem asS{r s:List Rat}{f:Rat}{K:Nat}(hr:∀x∈r,RB x K)(hs:∀x∈s,RB x (2*K+1))(hf:RB f K):∀x∈tkL r s f r.length,RB x (4*K+2):=by
 intro x hx;unfold tkL at hx;rcases List.mem_append.1 hx with h|h
 ·obtain⟨i,hi⟩:=List.mem_iff_getElem?.1 h;rw[List.getElem?_zipWith]at hi
  cases h1:(r.take r.length)[i]? with
  |none=>rw[h1]at hi;cases hi
  |some a=>
   cases h2:(s.take r.length)[i]? with
   |none=>rw[h1,h2]at hi;cases hi
   |some b=>
    rw[h1,h2]at hi;cases hi;have ha:=hr a (List.mem_of_mem_take (zq4 h1));have hb:=hs b (List.mem_of_mem_take (zq4 h2));exact(ha.sub (hf.mul hb)).mono (by omega)
 ·exact(hr x (List.mem_of_mem_drop h)).mono (by omega)
theorem asq{s:List Rat}{f:Rat}{K:Nat}(hs:∀x∈s,RB x K)(hf:RB f (1+K)):∀x∈mlL s f s.length,RB x (2*K+1):=by
 intro x hx;unfold mlL at hx;rw[List.drop_length,List.append_nil]at hx;obtain⟨a,ha,rfl⟩:=List.mem_map.1 hx;exact((hs a (List.mem_of_mem_take ha)).mul hf).mono (by omega)
theorem kX{α:Type}{l:List α}{i:Nat}{d:α}(h:i < l.length):l.getD i d∈l:=by
 rw[zq3,zq2 h];exact List.getElem_mem h
theorem aiJ{M:List (List Rat)}{top col w K:Nat}(h:RW M w K)(htop:top < M.length)(hcol:col < w):RW (lK M top col) w (4*K+2):=by
 unfold lK
 split
 ·exact h.mono (by omega)
 ·generalize (uP M top col).toNat=i;have hs:=h ((sw M top (top+i)).getD top []) (aaB (kX (by rw[zu];exact htop)))
  have hby:kZ M top i col=mlL ((sw M top (top+i)).getD top []) (1 / ((sw M top (top+i)).getD top []).getD col 0) ((sw M top (top+i)).getD top []).length:=rfl;rw[hby];generalize (sw M top (top+i)).getD top []=s at*;obtain⟨hsw,hsK⟩:=hs;have bv:RB (s.getD col 0) K:=hsK _ (kX (by omega))
  have bf:RB (1 / s.getD col 0) (1+K):=by
   by_cases h0:s.getD col 0=0
   ·rw[h0,show (1:Rat) / 0=0 by grind];exact RB.zero (by omega)
   ·exact(RB.one (Nat.le_refl 1)).div bv h0
  have hb:=asq hsK bf;have hbl:(mlL s (1 / s.getD col 0) s.length).length=w:=by rw[qV (Nat.le_refl _)];exact hsw
  intro r hr;rcases List.mem_or_eq_of_mem_set hr with hr|hr
  ·obtain⟨x,hx,rfl⟩:=List.mem_map.1 hr;obtain⟨hxw,hxK⟩:=h x (aaB hx);unfold wH;exact⟨by rw[yJ (by omega) (Nat.le_refl _)];exact hxw,asS hxK hb (hxK _ (kX (by omega)))⟩
  ·rw[hr];exact⟨hbl,fun v hv=>(hb v hv).mono (by omega)⟩
theorem amt{M:List (List Rat)}{cols:Nat}{ps:List Nat}:∀bk v X S w,(wkE M cols ps).has bk v X S w→(∃(t:TypeId) (cs:List Value),w.heap[bk]? =some (.cells cs.toArray t (0,0))∧aI (CA.has (fun k=>S k∧¬X k) w) [.sat (aA 1 wS M),.val (.int .i64 (cols:Int)),.sat (aA 1 piC ps)] cs)∧X bk:=by
 rintro bk v X S w ⟨⟨js,c⟩,E,_,hB⟩;obtain⟨cs,g1,g2⟩:=hB.box;have hR:gK 22 33 4 qC js c (E.sl 91) (E.fp 91) S w:=hB.ents 91 (.abs (gF js c)) (by simp)
 obtain⟨vs,hp1,hp2⟩:(sF ps).has E S w 92:=hB.ents 92 (sF ps) (by simp)
 have hM:js.map (fun j=>c.getD j [])=M:=hB.φ.2.2
 refine⟨⟨_,cs,g1,?_⟩,(hB.X bk).2 (.inl rfl)⟩
 match cs,g2 with
 |[u1,u2,u3],⟨k1,k2,k3,_⟩=>
  refine⟨?_,k2,?_,trivial⟩
  ·have hf:=hR.frz (S':=fun k=>S k∧¬X k) (fun k hk=>hk.1) (fun k hX hk=>hk.2 ((hB.X k).2 (.inr ⟨91,.abs (gF js c),by simp,hX⟩)))
   have ec:js.map (fun j=>CA.sat (aA 4 qC (c.getD j [])))=M.flatMap wS:=by rw[zl,←hM,List.map_map];rfl
   rw[ec,show js.length=M.length by rw[←hM,zq5]]at hf
   rw[show u1=bC (E.sl 91) 0 from k1.1]
   exact hf
  ·rw[show u3=E.sl 92 from k3.1]
   exact acV hp1 (hp2.mono fun a u _ ha=>ha.step (Off.refl S w) (fun k hk=> .inl hk.1)) (fun k hk hS=>hS.2 ((hB.X k).2 (.inr ⟨92,sF ps,by simp,hk⟩)))
theorem aiB:∀(n K:Nat),kb K (n+1)=4*kb K n+2
 |0,K=>rfl
 |n+1,K=>by
  show kb (4*K+2) (n+1)=4*kb (4*K+2) n+2;exact aiB n (4*K+2)
theorem wL{n col:Nat}{M:List (List Rat)}{ps:List Nat}(h:n=0∨¬ps.length < M.length):bW n col M ps=(M,ps):=by
 cases n with
 |zero=>rfl
 |succ n=>exact if_neg (h.resolve_left (by omega))
structure RdS where
 col:Nat
 M:List (List Rat)
 ps:List Nat
theorem xG(r c rb d:Nat)(x y:Rep)(va vb:Nat→Nat→Rat)(K:Nat)(hr:r≤100)(hc:c≤100)(hd:d≤100)
  (hA:∀i k,i < r→k < c→ah prog 187 [.agg (iT r c x),.v (.int .i64 (i:Int)),.v (.int .i64 (k:Int))] (.agg (qA (va i k))))
  (hBt:∀i k,i < r→k < d→ah prog 187 [.agg (iT rb d y),.v (.int .i64 (i:Int)),.v (.int .i64 (k:Int))] (.agg (qA (vb i k))))
  (hRW:RW (bgM c d va vb r) (c+d) K) (hkb:∀n,n < c→kb K n≤49000):
  ah prog 44 [.agg (iT r c x),.agg (iT rb d y)] (.r (bJ [.sat (aA 1 wS (bW c 0 (bgM c d va vb r) []).1),.val (.int .i64 (c:Int)),.sat (aA 1 piC (bW c 0 (bgM c d va vb r) []).2)])):=by
 have cb:=ak2 r c rb d x y va vb hr hc hd hA hBt;refine ah.fnF func44 results44 ntmps44 rfl rfl rfl (by simp[AV.ids,AV0.ids,Atom.ids]) rfl (fun w0 T B E0 hB=>?_)
 refine SX.goM ?_;refine SX.Go1.aao (cap:=[]) (args:=[.agg (iT r c x),.agg (iT rb d y)]) (pre:=[]) (fp:=[81]) rfl rfl rfl cb (by intro b e h;cases h) (by intro b s h;simp at h;obtain⟨rfl,_⟩:=h;exact .inr rfl) (by intro b s h;simp at h;rw[h.2];rfl) (by intro b s h;simp at h;simp[h.1]) (by
  intro i h;rcases h with h|⟨b,e,hb,h⟩
  ·have:i=81:=by simpa[AV.ids,AV0.ids,Atom.ids]using h
   subst this;exact .inl ⟨_,List.mem_singleton.2 rfl⟩
  ·simp at hb;obtain⟨rfl,rfl⟩:=hb;cases h) ?_
 refine SX.goM ?_;have hM0:(bgM c d va vb r).length=r:=by simp[bgM]
 refine W.loop (fun q:RdS=>q.col≤c∧bW (c - q.col) q.col q.M q.ps=bW c 0 (bgM c d va vb r) []∧RW q.M (c+d) (kb K q.col)∧q.M.length=r) (fun q=>[(5,.ptr 81 0),(6,.v (.int .i64 (q.col:Int)))]) (fun q=>[(81,.abs (wkE q.M c q.ps))]) (fun q=>c - q.col) ⟨0,bgM c d va vb r,[]⟩ ⟨Nat.zero_le _,rfl,hRW,hM0⟩ (fun q hq=>?_)
  (by
   refine SX.St.aZ [] (by intro b h;cases h) ?_ ?_ rfl
   ·repeat(first|exact trivial|refine⟨⟨_,rfl,SX.aG.same rfl⟩,?_⟩)
   ·exact⟨SX.ay.same rfl rfl,trivial⟩)
 obtain⟨col,M,ps⟩:=q
 dsimp only at hq
 obtain⟨hq1,hq2,hq3,hq4⟩:=hq;show WP _ _ _ (fD [(5,.ptr 81 0),(6,.v (.int .i64 (col:Int)))] [(81,.abs (wkE M c ps))]) _;refine ahZ rfl rfl rfl rfl rfl (fun js cc hnd hlt hjM=>?_)
 have hlen:js.length=M.length:=by rw[←hjM,zq5]
 by_cases h1:col < c
 ·by_cases h2:ps.length < M.length
  ·have hh:=Hide.mk h2;clear h2;refine SX.goM ?_;refine SX.WP.weaken (nP js cc [] [91,92] hnd hlt hjM rfl ⟨aB.same rfl,aB.same rfl,aB.same rfl,trivial⟩ ⟨SX.ay.same rfl rfl,SX.ay.same rfl rfl,trivial⟩ rfl rfl rfl) ?_;have h2:=hh.out;have cC:=afY M c ps col (c+d) (kb K col) hq3 (hkb col h1) (by omega) (by omega) (by omega) h2
   refine SX.goM ?_;refine W.next ⟨col+1,lK M ps.length col,aaT M ps col⟩ ⟨h1,?_,?_,?_⟩ (by dsimp only;omega) (by
    refine SX.St.aZ [] (by intro b h;cases h) ?_ ?_ rfl
    ·repeat(first|exact trivial|refine⟨⟨_,rfl,SX.aG.same rfl⟩,?_⟩)
    ·exact⟨SX.ay.same rfl rfl,trivial⟩)
   ·rw[←hq2]
    dsimp only
    obtain⟨n,hn⟩:∃n,c - col=n+1:=⟨c - col - 1,by omega⟩
    rw[hn,show c - (col+1)=n by omega]
    conv=>rhs;unfold bW;rw[if_pos h2]
   ·dsimp only
    rw[aiB];exact aiJ hq3 h2 (by omega)
   ·dsimp only
    rw[aeM];exact hq4
  ·refine SX.goM ?_;refine aN.le (nP js cc [] [91,92] hnd hlt hjM rfl ⟨aB.same rfl,aB.same rfl,aB.same rfl,trivial⟩ ⟨SX.ay.same rfl rfl,SX.ay.same rfl rfl,trivial⟩ rfl rfl rfl) ?_;refine aN.le (St.ahC hB (b:=81) rfl amt) ?_;rw[←hq2,wL (.inr h2)];exact akO rfl
 ·refine SX.goM ?_;refine aN.le (nP js cc [] [91,92] hnd hlt hjM rfl ⟨aB.same rfl,aB.same rfl,aB.same rfl,trivial⟩ ⟨SX.ay.same rfl rfl,SX.ay.same rfl rfl,trivial⟩ rfl rfl rfl) ?_;refine aN.le (St.ahC hB (b:=81) rfl amt) ?_;rw[←hq2,wL (.inl (by omega))]
  exact akO rfl
end
section
theorem weakArgs{P:Program}{f:FuncId}{args args':List AV}{r:AV}(h:ah P f args' r)(hi:∀E S w vs,aI (AV.has E S w) args vs→aI (AV.has E S w) args' vs):ah P f args r:=
 ⟨h.1,fun E S w vs hl hg hv a b c=>h.2 E S w vs hl hg (hi E S w vs hv) a b c⟩
attribute [local irreducible] IntKind.wrap Go1 Reg WP aR aU bR bO aN aF ak aj aY Sat
attribute [local irreducible] bS dn cK dD dh qv
abbrev q4v(v:Rat):Q4:=(decide (v.num < 0),bI v.num.natAbs,decide ((v.den:Int) < 0),bI (v.den:Int).natAbs)
abbrev wkP(M:List (List Rat))(cols:Nat)(ps:List Nat):Rep:=bJ [.sat (aA 1 wS M),.val (.int .i64 (cols:Int)),.sat (aA 1 piC ps)]
theorem anJ{M:List (List Rat)}{cols:Nat}{ps:List Nat}{i k:Nat}{row:List Rat}{v:Rat}(hi:M[i]? =some row)(hk:row[k]? =some v):
  ah prog 49 [.v (.int .i64 (i:Int)),.v (.int .i64 (k:Int)),.r (bJ [.sat (wkP M cols ps)])] (.agg (q4A (q4v v))):=by
 have h1:i < M.length:=by
  rcases Nat.lt_or_ge i M.length with h|h
  ·exact h
  ·rw[List.getElem?_eq_none h]at hi;cases hi
 have h2:k < row.length:=by
  rcases Nat.lt_or_ge k row.length with h|h
  ·exact h
  ·rw[List.getElem?_eq_none h]at hk;cases hk
 refine ah.fnF func49 results49 ntmps49 rfl rfl rfl (by simp[AV.ids,AV0.ids,Atom.ids]) rfl (fun w0 T B E0 hB=>?_)
 refine SX.goM ?_;exact kR (ak.mZ rfl rfl rfl) rfl
theorem adO{α:Type}{enc:α→List CA}{size:Nat}{S:Nat→Prop}{w:World}:(aA size enc ([]:List α)).has S w (.slice none 0 0):=
 bB.2 ⟨none,0,rfl,Nat.le_refl _,Nat.zero_le _,fun _=>rfl,by simp,fun i c h=>by simp at h⟩
theorem adl(r c:Nat)(x:Rep)(va vb:Nat→Nat→Rat)(K:Nat)(hr:r≤100)(hc:c≤100)
  (hA:∀i k,i < r→k < c→ah prog 187 [.agg (iT r c x),.v (.int .i64 (i:Int)),.v (.int .i64 (k:Int))] (.agg (qA (va i k))))
  (hRW:RW (bgM c 0 va vb r) c K) (hkb:∀n,n < c→kb K n≤49000):
  ah prog 44 [.agg (iT r c x),.agg [.c (.val (.int .i64 (r:Int))),.c (.val (.int .i64 0)),.c (.val (.slice none 0 0))]] (.r (wkP (bW c 0 (bgM c 0 va vb r) []).1 c (bW c 0 (bgM c 0 va vb r) []).2)):=by
 refine weakArgs (xG r c r 0 x (aA 4 q4C []) va vb K hr hc (by decide) hA (fun i k _ h=>absurd h (Nat.not_lt_zero _)) hRW hkb) fun E S w vs h=>?_
 match vs,h with
 |[u1,u2],⟨h1,⟨us,hu,h2⟩,_⟩=>
  refine⟨h1,⟨us,hu,?_⟩,trivial⟩;clear hu
  match us,h2 with
  |[a,b,c],⟨k1,k2,k3,_⟩=>
   refine⟨k1,k2,?_,trivial⟩;rw[show c= .slice none 0 0 from k3]
   exact adO
end
end Go.Proofs.YtjnhnbgpifohjaaGreatDoor
namespace LA
def sm:Nat→(Nat→Rat)→Rat
 |0,_=>0
 |n+1,f=>sm n f+f n
theorem qd{f g:Nat→Rat}:∀{n:Nat},(∀i,i < n→f i=g i)→sm n f=sm n g
 |0,_=>rfl
 |n+1,h=>by
  show sm n f+f n=sm n g+g n;rw[qd (fun i hi=>h i (by omega)),h n (by omega)]
theorem ac9{f:Nat→Rat}:∀{n:Nat},(∀i,i < n→f i=0)→sm n f=0
 |0,_=>rfl
 |n+1,h=>by
  show sm n f+f n=0;rw[ac9 (fun i hi=>h i (by omega)),h n (by omega)];grind
theorem ahg{f g:Nat→Rat}:∀(n:Nat),sm n (fun i=>f i+g i)=sm n f+sm n g
 |0=>by show (0:Rat)=0+0;grind
 |n+1=>by
  show sm n _+_=(sm n f+f n)+(sm n g+g n);rw[ahg n];grind
theorem vT{f:Nat→Rat}{c:Rat}:∀(n:Nat),sm n (fun i=>c*f i)=c*sm n f
 |0=>by show (0:Rat)=c*0;grind
 |n+1=>by
  show sm n _+_=c*(sm n f+f n);rw[vT n];grind
theorem ap5{f:Nat→Rat}{c:Rat}(n:Nat):sm n (fun i=>f i*c)=sm n f*c:=by
 rw[show (fun i=>f i*c)=fun i=>c*f i from funext fun i=>by grind,vT];grind
theorem aiU{f:Nat→Nat→Rat}(m:Nat):∀(n:Nat),sm n (fun i=>sm m (f i))=sm m (fun j=>sm n (fun i=>f i j))
 |0=>by
  show (0:Rat)=_;exact(ac9 fun i _=>rfl).symm
 |n+1=>by
  show sm n _+sm m (f n)=sm m (fun j=>sm n (fun i=>f i j)+f n j)
  rw[aiU m n,ahg]
theorem alF{f:Nat→Rat}:∀{n k:Nat},k < n→(∀i,i < n→i≠k→f i=0)→sm n f=f k
 |0,k,h,_=>absurd h (Nat.not_lt_zero _)
 |n+1,k,h,hz=>by
  show sm n f+f n=f k;by_cases hk:k=n
  ·subst hk;rw[ac9 (fun i hi=>hz i (by omega) (by omega))];grind
  ·rw[alF (k:=k) (by omega) (fun i hi=>hz i (by omega)),hz n (by omega) (fun e=>hk e.symm)];grind
def Sp(n W:Nat)(m:Nat→Nat→Rat)(v:Nat→Rat):Prop:=∃c:Nat→Rat,∀k,k < W→v k=sm n (fun r=>c r*m r k)
theorem Sp.row{n W:Nat}{m:Nat→Nat→Rat}{r:Nat}(hr:r < n):Sp n W m (m r):=by
 refine⟨fun i=>if i=r then 1 else 0,fun k _=>?_⟩
 have h0:sm n (fun i=>(if i=r then(1:Rat)else 0)*m i k)=(if r=r then(1:Rat)else 0)*m r k:=alF hr (fun i _ hi=>by rw[if_neg hi];grind)
 show m r k=sm n (fun i=>(if i=r then(1:Rat)else 0)*m i k)
 rw[h0,if_pos rfl];grind
theorem Sp.congr{n W:Nat}{m:Nat→Nat→Rat}{u v:Nat→Rat}(h:Sp n W m u)(he:∀k,k < W→v k=u k):Sp n W m v:=by
 obtain⟨c,hc⟩:=h;exact⟨c,fun k hk=>(he k hk).trans (hc k hk)⟩
theorem Sp.add{n W:Nat}{m:Nat→Nat→Rat}{u v:Nat→Rat}(h:Sp n W m u)(h':Sp n W m v)(a b:Rat):Sp n W m (fun k=>a*u k+b*v k):=by
 obtain⟨c,hc⟩:=h;obtain⟨d,hd⟩:=h';refine⟨fun r=>a*c r+b*d r,fun k hk=>?_⟩
 show a*u k+b*v k=_;rw[hc k hk,hd k hk,←vT,←vT,←ahg];exact qd fun i _=>by grind
theorem Sp.all{n n' W:Nat}{m m':Nat→Nat→Rat}(h:∀r,r < n→Sp n' W m' (m r)):∃t:Nat→Nat→Rat,∀r,r < n→∀k,k < W→m r k=sm n' (fun j=>t r j*m' j k):=
by
 have h2:∀r,∃c:Nat→Rat,r < n→∀k,k < W→m r k=sm n' (fun j=>c j*m' j k):=fun r=>by
  by_cases hr:r < n
  ·obtain⟨c,hc⟩:=h r hr;exact⟨c,fun _=>hc⟩
  ·exact⟨fun _=>0,fun h=>absurd h hr⟩
 exact⟨fun r=>Classical.choose (h2 r),fun r hr k hk=>Classical.choose_spec (h2 r) hr k hk⟩
theorem Sp.trans{n n' W:Nat}{m m':Nat→Nat→Rat}{v:Nat→Rat}(h:∀r,r < n→Sp n' W m' (m r))(hv:Sp n W m v):Sp n' W m' v:=by
 obtain⟨t,ht⟩:=Sp.all h;obtain⟨c,hc⟩:=hv;refine⟨fun j=>sm n (fun r=>c r*t r j),fun k hk=>?_⟩
 rw[hc k hk];have e1:sm n (fun r=>c r*m r k)=sm n (fun r=>sm n' (fun j=>c r*(t r j*m' j k))):=qd fun r hr=>by rw[ht r hr k hk,←vT]
 rw[e1,aiU];refine qd fun j _=>?_
 rw[←ap5];exact qd fun r _=>by grind
structure Eqv(n n' W:Nat)(m m':Nat→Nat→Rat):Prop where
 fwd:∀r,r < n'→Sp n W m (m' r)
 back:∀r,r < n→Sp n' W m' (m r)
theorem Eqv.refl{n W:Nat}{m:Nat→Nat→Rat}:Eqv n n W m m:=⟨fun r hr=>Sp.row hr,fun r hr=>Sp.row hr⟩
theorem Eqv.trans{n n' n'' W:Nat}{m m' m'':Nat→Nat→Rat}(h:Eqv n n' W m m')(k:Eqv n' n'' W m' m''):Eqv n n'' W m m'':=
 ⟨fun r hr=>Sp.trans h.fwd (k.fwd r hr),fun r hr=>Sp.trans k.back (h.back r hr)⟩
structure y9(n w:Nat)(m:Nat→Nat→Rat)(ps:List Nat):Prop where
 len:ps.length≤n
 inc:ps.Pairwise (· < ·)
 lt:∀p∈ps,p < w
 one:∀i p,ps[i]? =some p→∀r,r < n→m r p=if r=i then 1 else 0
 low:∀i p,ps[i]? =some p→∀k,k < p→m i k=0
 zero:∀r,ps.length≤r→r < n→∀k,k < w→m r k=0
end LA
namespace Go.Proofs.YtjnhnbgpifohjaaGreatDoor
section
open LA
def mf(M:List (List Rat))(r k:Nat):Rat:=(M.getD r []).getD k 0
def Wd(M:List (List Rat))(w:Nat):Prop:=∀r∈M,r.length=w
theorem z8{α:Type}{l:List α}{i r:Nat}{a d:α}(hr:r < l.length):(l.set i a).getD r d=if r=i then a else l.getD r d:=by
 rw[zq3,zq3,List.getElem?_set]
 by_cases h:i=r
 ·subst h;rw[if_pos rfl,if_pos hr,if_pos rfl];rfl
 ·rw[if_neg h,if_neg (fun e=>h e.symm)]
theorem getD_map{α β:Type}{l:List α}{f:α→β}{r:Nat}{d:β}{e:α}(hr:r < l.length):(l.map f).getD r d=f (l.getD r e):=by
 rw[zq3,zq3,List.getElem?_map,zq2 hr];rfl
theorem ajn{α:Type}{l:List α}{i j r:Nat}{d:α}(hi:i < l.length)(hj:j < l.length)(hr:r < l.length):(sw l i j).getD r d=if r=j then l.getD i d else if r=i then l.getD j d else l.getD r d:=by
 unfold sw;rw[zq2 hi,zq2 hj]
 dsimp only
 have e1:l[i]=l.getD i d:=by rw[zq3,zq2 hi];rfl
 have e2:l[j]=l.getD j d:=by rw[zq3,zq2 hj];rfl
 rw[e1,e2,z8 (by rw[List.length_set];exact hr),z8 hr]
theorem ald{s:List Rat}{f:Rat}{k:Nat}(hk:k < s.length):(mlL s f s.length).getD k 0=s.getD k 0*f:=by
 unfold mlL;rw[List.drop_length,List.append_nil,List.take_length,getD_map (e:=0) hk]
theorem afx{r s:List Rat}{f:Rat}{k:Nat}(h:r.length=s.length)(hk:k < r.length):(tkL r s f r.length).getD k 0=r.getD k 0 - f*s.getD k 0:=by
 unfold tkL;rw[List.drop_length,List.append_nil,List.take_length,h,List.take_length];rw[zq3,List.getElem?_zipWith,zq2 hk,zq2 (h▸hk),zq3,zq3,zq2 hk,zq2 (h▸hk)]
 rfl
theorem ad7{α:Type}{p:α→Bool}:∀{l:List α} {k:Nat},fi p l k < 0→∀a∈l,p a=false
 |[],k,_,a,h=>by cases h
 |b::l,k,h,a,ha=>by
  unfold fi at h;cases hp:p b with
  |true=>rw[hp]at h;simp at h;omega
  |false=>
   rw[hp]at h;rcases List.mem_cons.1 ha with rfl|ha
   ·exact hp
   ·exact ad7 (k:=k+1) (by simpa using h) a ha
structure alE(n W:Nat)(m m':Nat→Nat→Rat)(top i col:Nat):Prop where
 hi:top≤i∧i < n
 ne:m i col≠0
 at_:∀r,r < n→∀k,k < W→m' r k=if r=top then m i k / m i col else(if r=i then m top k else m r k) - (if r=i then m top col else m r col)*(m i k / m i col)
theorem akW{M:List (List Rat)}{top col:Nat}(h:uP M top col < 0):lK M top col=M∧∀r,top≤r→r < M.length→mf M r col=0:=by
 refine⟨by unfold lK;rw[if_pos h],fun r h1 h2=>?_⟩
 have hm:M.getD r []∈M.drop top:=by
  rw[zq3,zq2 h2]
  refine List.mem_iff_getElem?.2 ⟨r - top,?_⟩;rw[List.getElem?_drop,show top+(r - top)=r by omega,zq2 h2];rfl
 have:=ad7 h _ hm;unfold nz at this;exact Decidable.byContradiction fun hn=>by rw[decide_eq_true (show (M.getD r []).getD col 0≠0 from hn)]at this;cases this
theorem akC{M:List (List Rat)}{top col W:Nat}(hw:Wd M W)(hcol:col < W)(htop:top < M.length)(h:¬uP M top col < 0):∃i,alE M.length W (mf M) (mf (lK M top col)) top i col:=by
 obtain⟨i0,a,h1,h2,h3⟩:=yU (M.drop top) 0 h;rw[Nat.zero_add]at h1;have h1':uP M top col=(i0:Int):=h1;have hi:top+i0 < M.length:=by
  rcases Nat.lt_or_ge (top+i0) M.length with h|h
  ·exact h
  ·rw[List.getElem?_drop,List.getElem?_eq_none h]at h2;cases h2
 have ea:a=M.getD (top+i0) []:=by
  rw[List.getElem?_drop,zq2 hi]at h2
  rw[zq3,zq2 hi];exact(Option.some.inj h2).symm
 have hne:mf M (top+i0) col≠0:=by
  unfold nz at h3;have:=of_decide_eq_true h3;rw[ea]at this;exact this
 refine⟨top+i0,⟨Nat.le_add_right _ _,hi⟩,hne,fun r hr k hk=>?_⟩
 have hcm:lK M top col=((sw M top (top+i0)).map (wH (kZ M top i0 col) col)).set top (kZ M top i0 col):=by
  unfold lK;rw[if_neg h,h1',Int.toNat_natCast]
 have wid:∀r,r < M.length→(M.getD r []).length=W:=fun r hr=>hw _ (kX hr)
 have hsT:(sw M top (top+i0)).getD top []=M.getD (top+i0) []:=by
  rw[ajn htop hi htop];by_cases h0:top=top+i0
  ·rw[if_pos h0,←h0]
  ·rw[if_neg h0,if_pos rfl]
 have hby:kZ M top i0 col=mlL (M.getD (top+i0) []) (1 / (M.getD (top+i0) []).getD col 0) (M.getD (top+i0) []).length:=by
  unfold kZ;rw[hsT]
 have hbyl:(kZ M top i0 col).length=W:=by rw[hby,qV (Nat.le_refl _)];exact wid _ hi
 have hbyk:∀k,k < W→(kZ M top i0 col).getD k 0=mf M (top+i0) k / mf M (top+i0) col:=fun k hk=>by
  rw[hby,ald (by rw[wid _ hi];exact hk)]
  show mf M (top+i0) k*(1 / mf M (top+i0) col)=_
  grind
 have hl:(sw M top (top+i0)).length=M.length:=zu;show ((lK M top col).getD r []).getD k 0=_;rw[hcm,z8 (by rw[zq5,hl];exact hr)]
 by_cases hrt:r=top
 ·rw[if_pos hrt,if_pos hrt];exact hbyk k hk
 ·rw[if_neg hrt,if_neg hrt,getD_map (e:=[]) (by rw[hl];exact hr),ajn htop hi hr,if_neg hrt]
  by_cases hri:r=top+i0
  ·rw[if_pos hri,if_pos hri,if_pos hri];unfold wH;rw[afx (by rw[wid _ htop,hbyl]) (by rw[wid _ htop];exact hk),hbyk k hk];rfl
  ·rw[if_neg hri,if_neg hri,if_neg hri];unfold wH;rw[afx (by rw[wid _ hr,hbyl]) (by rw[wid _ hr];exact hk),hbyk k hk];rfl
theorem alE.eqv{n W:Nat}{m m':Nat→Nat→Rat}{top i col:Nat}(h:alE n W m m' top i col)(hcol:col < W):Eqv n n W m m':=by
 obtain⟨h1,h2⟩:=h.hi;have hne:=h.ne;have htop:top < n:=by omega
 have hti:=h.at_ top htop;refine⟨fun r hr=>?_,fun r hr=>?_⟩
 ·-- new rows out of the old ones
  have ha:=h.at_ r hr;by_cases hrt:r=top
  ·subst hrt;refine(Sp.add (Sp.row (W:=W) (m:=m) h2) (Sp.row h2) (1 / m i col) 0).congr fun k hk=>?_
   rw[ha k hk,if_pos rfl];grind
  ·by_cases hri:r=i
   ·subst hri;refine(Sp.add (Sp.row (W:=W) (m:=m) htop) (Sp.row hr) 1 (-(m top col / m r col))).congr fun k hk=>?_
    rw[ha k hk,if_neg hrt,if_pos rfl,if_pos rfl];grind
   ·refine(Sp.add (Sp.row (W:=W) (m:=m) hr) (Sp.row h2) 1 (-(m r col / m i col))).congr fun k hk=>?_
    rw[ha k hk,if_neg hrt,if_neg hri,if_neg hri];grind
 ·-- the old rows out of the new ones
  by_cases hri:r=i
  ·subst hri;refine(Sp.add (Sp.row (W:=W) (m:=m') htop) (Sp.row htop) (m r col) 0).congr fun k hk=>?_
   rw[hti k hk,if_pos rfl];grind
  ·by_cases hrt:r=top
   ·subst hrt;have hai:=h.at_ i h2;refine(Sp.add (Sp.row (W:=W) (m:=m') h2) (Sp.row htop) 1 (m r col)).congr fun k hk=>?_
    rw[hai k hk,hti k hk,if_pos rfl,if_neg (fun e=>hri e.symm),if_pos rfl,if_pos rfl];grind
   ·have ha:=h.at_ r hr;refine(Sp.add (Sp.row (W:=W) (m:=m') hr) (Sp.row htop) 1 (m r col)).congr fun k hk=>?_
    rw[ha k hk,hti k hk,if_pos rfl,if_neg hrt,if_neg hri,if_neg hri];grind
theorem aqa{ps:List Nat}{col:Nat}(h:ps.Pairwise (· < ·))(hl:∀p∈ps,p < col):(ps++[col]).Pairwise (· < ·):=by
 rw[List.pairwise_append];refine⟨h,List.pairwise_singleton _ _,fun a ha b hb=>?_⟩
 rw[List.mem_singleton.1 hb];exact hl a ha
theorem aip{ps:List Nat}{col i p:Nat}(h:(ps++[col])[i]? =some p):ps[i]? =some p∧i < ps.length∨i=ps.length∧p=col:=by
 rcases Nat.lt_or_ge i ps.length with h1|h1
 ·rw[List.getElem?_append_left h1]at h;exact .inl ⟨h,h1⟩
 ·rw[List.getElem?_append_right h1]at h
  by_cases h2:i=ps.length
  ·subst h2;rw[Nat.sub_self]at h;exact .inr ⟨rfl,(Option.some.inj h).symm⟩
  ·rw[List.getElem?_eq_none (by simp;omega)]at h;cases h
theorem alE.rref{n W:Nat}{m m':Nat→Nat→Rat}{ps:List Nat}{i col:Nat}(h:alE n W m m' ps.length i col)(hcol:col < W)(hr:y9 n col m ps):y9 n (col+1) m' (ps++[col]):=by
 obtain⟨h1,h2⟩:=h.hi;have hne:=h.ne;have htop:ps.length < n:=by omega
 -- old columns stand as they stood
 have hold:∀r,r < n→∀k,k < col→m' r k=m r k:=fun r hrn k hk=>by
  have hik:m i k=0:=hr.zero i h1 h2 k hk;have htk:m ps.length k=0:=hr.zero _ (Nat.le_refl _) htop k hk;rw[h.at_ r hrn k (by omega),hik,show (0:Rat) / m i col=0 by grind]
  by_cases hrt:r=ps.length
  ·rw[if_pos hrt,hrt,htk]
  ·rw[if_neg hrt];by_cases hri:r=i
   ·rw[if_pos hri,if_pos hri,hri,htk,hik];grind
   ·rw[if_neg hri,if_neg hri];grind
 have hnew:∀r,r < n→m' r col=if r=ps.length then 1 else 0:=fun r hrn=>by
  rw[h.at_ r hrn col hcol,show m i col / m i col=1 by grind]
  by_cases hrt:r=ps.length
  ·rw[if_pos hrt,if_pos hrt]
  ·rw[if_neg hrt,if_neg hrt];grind
 refine⟨by simp;omega,aqa hr.inc hr.lt,fun p hp=>?_,fun j p hp r hrn=>?_,fun j p hp k hk=>?_,fun r h3 h4 k hk=>?_⟩
 ·rcases List.mem_append.1 hp with h|h
  ·have:=hr.lt p h;omega
  ·rw[List.mem_singleton.1 h];omega
 ·rcases aip hp with⟨h3,h4⟩|⟨rfl,rfl⟩
  ·rw[hold r hrn p (hr.lt p (zq4 h3))];exact hr.one j p h3 r hrn
  ·exact hnew r hrn
 ·rcases aip hp with⟨h3,h4⟩|⟨rfl,rfl⟩
  ·have:=hr.lt p (zq4 h3);rw[hold j (by omega) k (by omega)];exact hr.low j p h3 k hk
  ·rw[hold _ htop k hk];exact hr.zero _ (Nat.le_refl _) htop k hk
 ·rw[List.length_append,List.length_singleton]at h3;by_cases hk2:k=col
  ·subst hk2;rw[hnew r h4,if_neg (by omega)]
  ·rw[hold r h4 k (by omega)];exact hr.zero r (by omega) h4 k (by omega)
theorem akm{n:Nat}{m:Nat→Nat→Rat}{ps:List Nat}{col:Nat}(hz:∀r,ps.length≤r→r < n→m r col=0)(hr:y9 n col m ps):y9 n (col+1) m ps:=
 ⟨hr.len,hr.inc,fun p hp=>by have:=hr.lt p hp;omega,hr.one,hr.low,fun r h1 h2 k hk=>by
  by_cases hk2:k=col
  ·subst hk2;exact hz r h1 h2
  ·exact hr.zero r h1 h2 k (by omega)⟩
theorem ajP{n w w':Nat}{m:Nat→Nat→Rat}{ps:List Nat}(hr:y9 n w m ps)(hf:¬ps.length < n)(hw:w≤w'):y9 n w' m ps:=
 ⟨hr.len,hr.inc,fun p hp=>by have:=hr.lt p hp;omega,hr.one,hr.low,fun r h1 h2=>by omega⟩
theorem ap6{M:List (List Rat)}{top col W:Nat}(h:Wd M W)(htop:top < M.length):Wd (lK M top col) W:=by
 unfold lK
 split
 ·exact h
 ·generalize (uP M top col).toNat=i;have hs:=h ((sw M top (top+i)).getD top []) (aaB (kX (by rw[zu];exact htop)))
  have hby:kZ M top i col=mlL ((sw M top (top+i)).getD top []) (1 / ((sw M top (top+i)).getD top []).getD col 0) ((sw M top (top+i)).getD top []).length:=rfl;rw[hby];generalize (sw M top (top+i)).getD top []=s at*;intro r hr;rcases List.mem_or_eq_of_mem_set hr with hr|hr
  ·obtain⟨x,hx,rfl⟩:=List.mem_map.1 hr;have hxw:=h x (aaB hx);unfold wH;rw[yJ (by rw[qV (Nat.le_refl _)];omega) (Nat.le_refl _)];exact hxw
  ·rw[hr,qV (Nat.le_refl _)];exact hs
theorem abZ{W:Nat}:∀(n col:Nat) (M:List (List Rat)) (ps:List Nat),Wd M W→col+n≤W→y9 M.length col (mf M) ps→
  y9 M.length (col+n) (mf (bW n col M ps).1) (bW n col M ps).2∧Eqv M.length M.length W (mf M) (mf (bW n col M ps).1)∧(bW n col M ps).1.length=M.length∧Wd (bW n col M ps).1 W
 |0,col,M,ps,hw,hc,hr=>⟨hr,Eqv.refl,rfl,hw⟩
 |n+1,col,M,ps,hw,hc,hr=>by
  unfold bW;by_cases h:ps.length < M.length
  ·rw[if_pos h];have hl:(lK M ps.length col).length=M.length:=aeM;have key:y9 M.length (col+1) (mf (lK M ps.length col)) (aaT M ps col)∧Eqv M.length M.length W (mf M) (mf (lK M ps.length col)):=by
    by_cases hi:uP M ps.length col < 0
    ·obtain⟨e,hz⟩:=akW hi;unfold aaT;rw[if_pos hi,e];exact⟨akm hz hr,Eqv.refl⟩
    ·obtain⟨i,hS⟩:=akC hw (by omega) h hi
     unfold aaT;rw[if_neg hi];exact⟨hS.rref (by omega) hr,hS.eqv (by omega)⟩
   have ih:=abZ n (col+1) (lK M ps.length col) (aaT M ps col) (ap6 hw h) (by omega) (by rw[hl];exact key.1)
   rw[hl,show col+1+n=col+(n+1)by omega]at ih
   exact⟨ih.1,key.2.trans ih.2.1,ih.2.2⟩
  ·rw[if_neg h];exact⟨ajP hr h (by omega),Eqv.refl,rfl,hw⟩
theorem anY{n:Nat}{m:Nat→Nat→Rat}:y9 n 0 m []:=
 ⟨Nat.zero_le _,List.Pairwise.nil,fun p h=>(by cases h),fun i p h=>(by cases h),fun i p h=>(by cases h),fun r _ _ k hk=>absurd hk (Nat.not_lt_zero _)⟩
section
theorem ahJ{c d:Nat}{va vb:Nat→Nat→Rat}{r:Nat}:(bgM c d va vb r).length=r:=by simp[bgM]
theorem aqs{c d:Nat}{va vb:Nat→Nat→Rat}{i:Nat}:(bgR c d va vb i).length=c+d:=by simp[bgR,iX]
theorem alx{c d:Nat}{va vb:Nat→Nat→Rat}{r:Nat}:Wd (bgM c d va vb r) (c+d):=by
 intro x hx;obtain⟨i,_,rfl⟩:=List.mem_map.1 hx;exact aqs
abbrev red(r c d:Nat)(va vb:Nat→Nat→Rat):List (List Rat)×List Nat:=bW c 0 (bgM c d va vb r) []
abbrev rdM(r c d:Nat)(va vb:Nat→Nat→Rat):Nat→Nat→Rat:=mf (red r c d va vb).1
abbrev rdP(r c d:Nat)(va vb:Nat→Nat→Rat):List Nat:=(red r c d va vb).2
section
variable{r c d:Nat}{va vb:Nat→Nat→Rat}
theorem aa2:y9 r c (rdM r c d va vb) (rdP r c d va vb)∧Eqv r r (c+d) (mf (bgM c d va vb r)) (rdM r c d va vb)∧(red r c d va vb).1.length=r∧Wd (red r c d va vb).1 (c+d):=by
 have h:=abZ (W:=c+d) c 0 (bgM c d va vb r) [] alx (by omega) (by rw[ahJ];exact anY)
 rw[ahJ,Nat.zero_add]at h;exact h
theorem anC:y9 r c (rdM r c d va vb) (rdP r c d va vb):=aa2.1
theorem apM:(red r c d va vb).1.length=r:=aa2.2.2.1
theorem alV:Wd (red r c d va vb).1 (c+d):=aa2.2.2.2
theorem adh{i:Nat}(hi:i < r):∃row,(red r c d va vb).1[i]? =some row∧row.length=c+d∧∀k,k < c+d→row[k]? =some (rdM r c d va vb i k):=by
 have h1:i < (red r c d va vb).1.length:=by rw[apM];exact hi
 refine⟨_,zq2 h1,alV _ (List.getElem_mem h1),fun k hk=>?_⟩
 have h2:k < ((red r c d va vb).1[i]).length:=by rw[alV _ (List.getElem_mem h1)];exact hk
 rw[zq2 h2]
 have e1:(red r c d va vb).1.getD i []=(red r c d va vb).1[i]:=by rw[zq3,zq2 h1];rfl
 unfold rdM mf;rw[e1,zq3,zq2 h2];rfl
end
def idv(i k:Nat):Rat:=if i=k then 1 else 0
end
end
section
open Go.RowKit QM SX
attribute [local irreducible] IntKind.wrap Go1 Reg WP aR aU bR bO aN aF ak aj aY Sat
attribute [local irreducible] bS dn cK dD dh qv mf
theorem ai1{w:Nat}:∀(n col:Nat) (M:List (List Rat)) (ps:List Nat) (K:Nat),RW M w K→col+n≤w→RW (bW n col M ps).1 w (kb K n)
 |0,col,M,ps,K,h,_=>h
 |n+1,col,M,ps,K,h,hw=>by
  by_cases hl:ps.length < M.length
  ·rw[show bW (n+1) col M ps=bW n (col+1) (lK M ps.length col) (aaT M ps col)from if_pos hl]
   exact ai1 n (col+1) _ _ (4*K+2) (aiJ h hl (by omega)) (by omega)
  ·rw[wL (.inr hl)];exact h.mono (aiE _ _)
attribute [local irreducible] bW
theorem Ra.rb{l:List Atom}{v:Rat}{K:Nat}(h:Ra l v K)(hK:1≤K):RB v K:=by
 obtain⟨x0,x1,x2,x3,p,q,k,m,_,_,_,h1,h2,h3,h4,h5⟩:=h.h;by_cases hq:q=0
 ·subst hq;have:v=0:=by rw[←h5];unfold qv;grind
  rw[this];exact RB.zero hK
 ·exact RB.of hq h5 (Nat.lt_of_lt_of_le h3.h (Nat.pow_le_pow_right aS h1)) (Nat.lt_of_lt_of_le h4.h (Nat.pow_le_pow_right aS h2))
def vat(vs:List Rat)(c i k:Nat):Rat:=vs.getD (i*c+k) 0
theorem zA{r c i k:Nat}(hi:i < r)(hk:k < c):i*c+k < r*c:=by
 have:=Nat.mul_le_mul_right c (show i+1≤r from hi)
 rw[Nat.succ_mul]at this;omega
theorem afE{vs:List Rat}{r c i k:Nat}(hl:vs.length=r*c)(hi:i < r)(hk:k < c):vs[i*c+k]? =some (vat vs c i k):=by
 have h:=zA hi hk;unfold vat;rw[zq3,zq2 (by omega)];rfl
theorem MV.rb{l:List Q4}{vs:List Rat}{K:Nat}(h:MV l vs K)(hK:1≤K):∀v∈vs,RB v K:=by
 intro v hv;obtain⟨i,hi⟩:=List.mem_iff_getElem?.1 hv;have hlt:i < vs.length:=by
  rcases Nat.lt_or_ge i vs.length with h|h
  ·exact h
  ·rw[List.getElem?_eq_none h]at hi;cases hi
 exact Ra.rb (h.ra i _ v (zq2 (show i < l.length by rw[h.len];exact hlt)) hi) hK
theorem ahk{vs:List Rat}{K:Nat}(h:∀v∈vs,RB v K)(hK:1≤K)(c i k:Nat):RB (vat vs c i k) K:=by
 unfold vat;rw[zq3]
 cases e:vs[i*c+k]? with
 |none=>exact RB.zero hK
 |some v=>exact h v (zq4 e)
theorem afH{r c d:Nat}{va vb:Nat→Nat→Rat}{K:Nat}(ha:∀i k,i < r→k < c→RB (va i k) K)(hb:∀i k,i < r→k < d→RB (vb i k) K):RW (bgM c d va vb r) (c+d) K:=by
 intro x hx;refine⟨alx x hx,fun v hv=>?_⟩
 obtain⟨i,hi,rfl⟩:=List.mem_map.1 hx;have hi:=List.mem_range.1 hi;rcases List.mem_append.1 hv with h|h
 ·obtain⟨k,hk,rfl⟩:=List.mem_map.1 h;exact ha i k hi (List.mem_range.1 hk)
 ·obtain⟨k,hk,rfl⟩:=List.mem_map.1 h;exact hb i k hi (List.mem_range.1 hk)
theorem afQ{r c d K:Nat}{va vb:Nat→Nat→Rat}(h:RW (bgM c d va vb r) (c+d) K){i k:Nat}(hi:i < r)(hk:k < c+d):RB (rdM r c d va vb i k) (kb K c):=by
 have hR:=ai1 c 0 (bgM c d va vb r) [] K h (by omega)
 obtain⟨row,h1,h2,h3⟩:=adh (r:=r) (c:=c) (d:=d) (va:=va) (vb:=vb) hi;exact(hR row (zq4 h1)).2 _ (zq4 (h3 k hk))
theorem yP{c:Nat}{val:Nat→Nat→Rat}{k:Nat}(hk:k < c):∀{r i:Nat},i < r→(fV c val r)[i*c+k]? =some (val i k)
 |0,i,h=>absurd h (Nat.not_lt_zero _)
 |r+1,i,h=>by
  rw[xD];by_cases hi:i < r
  ·rw[List.getElem?_append_left (by rw[iZ];exact zA hi hk)]
   exact yP hk hi
  ·obtain rfl:i=r:=by omega
   rw[List.getElem?_append_right (by rw[iZ];omega),iZ,Nat.add_sub_cancel_left,List.getElem?_map,List.getElem?_range hk];rfl
theorem acX{c r K:Nat}{val:Nat→Nat→Rat}(h:∀i k,i < r→k < c→RB (val i k) K):∀v∈fV c val r,RB v K:=by
 intro v hv;unfold fV at hv;obtain⟨i,hi,hv⟩:=List.mem_flatMap.1 hv;obtain⟨k,hk,rfl⟩:=List.mem_map.1 hv;exact h i k (List.mem_range.1 hi) (List.mem_range.1 hk)
theorem MV.made{vs:List Rat}{K:Nat}(h:∀v∈vs,RB v K):MV (vs.map q4v) vs K:=by
 refine⟨zq5 _,fun i q v hq hv=>?_⟩
 rw[List.getElem?_map,hv]at hq
 cases hq;exact(h v (zq4 hv)).ra
theorem nA(r c:Nat)(l:List Rat):pE r c l=iE r c (l.map q4v):=by
 have e:aA 4 qC l=aA 4 q4C (l.map q4v):=by
  show aL 4 l.length (l.flatMap qC)=aL 4 (l.map q4v).length ((l.map q4v).flatMap q4C);rw[zq5,List.flatMap_map]
 unfold pE iE;rw[e]
theorem apo{r c i k:Nat}{val:Nat→Nat→Rat}(hi:i < r)(hk:k < c):vat (fV c val r) c i k=val i k:=by
 unfold vat;rw[zq3,yP hk hi];rfl
theorem oo{r c:Nat}{n:Nat}{cells:List CA}(hl:n=r*c)(hr:r≤64)(hc:c≤64):ah prog 39 [.agg [.c (.val (.int .i64 (r:Int))),.c (.val (.int .i64 (c:Int))),.c (.sat (aL 4 n cells))]] (.v (.bool true)):=by
 have h:=(lZ (r:Int) (c:Int) (n:=n) (cells:=cells)).h trivial;rw[decide_eq_true (show 0≤(r:Int)∧(r:Int)≤64∧0≤(c:Int)∧(c:Int)≤64∧(n:Int)=(r:Int)*(c:Int)from ⟨by omega,by omega,by omega,by omega,by rw[hl];simp⟩)]at h
 exact h
theorem amD{r c:Int}{n:Nat}{cells:List CA}(h:¬(0≤r∧r≤64∧0≤c∧c≤64∧(n:Int)=r*c)):ah prog 39 [.agg [.c (.val (.int .i64 r)),.c (.val (.int .i64 c)),.c (.sat (aL 4 n cells))]] (.v (.bool false)):=by
 have h2:=(lZ r c (n:=n) (cells:=cells)).h trivial;rw[decide_eq_false h]at h2;exact h2
abbrev agQ:List Atom:=[.c (.val (.int .i64 0)),.c (.val (.int .i64 0)),.c (.val (.slice none 0 0))]
abbrev ane(r c:Int)(l:List Q4):List Atom:=[.c (.val (.int .i64 r)),.c (.val (.int .i64 c)),.c (.sat (aA 4 q4C l))]
abbrev eNo(z:Int):AV0:= .one (.c (.val (.int .i64 z)))
def iO(r c:Int)(n:Nat):Prop:=0≤r∧r≤64∧0≤c∧c≤64∧(n:Int)=r*c
theorem amN{r c:Nat}{l:List Q4}{vs:List Rat}{K:Nat}(hM:MV l vs K)(hl:l.length=r*c)(hr:r≤64)(hc:c≤64)(hK:K+1≤1000000):∀i k,i < r→k < c→ah prog 187 [.agg (iT r c (aA 4 q4C l)),.v (.int .i64 (i:Int)),.v (.int .i64 (k:Int))] (.agg (qA (vat vs c i k))):=
 fun i k hi hk=>asy hM hl hr hc hi hk (afE (by rw[←hM.len];exact hl) hi hk) hK
theorem aaD{r c:Nat}{l:List Q4}{vs:List Rat}{K:Nat}(hM:MV l vs K)(hl:l.length=r*c)(hr:r≤64)(hc:c≤64)(hK1:1≤K)(hkb:∀n,n < c→kb K n≤49000)(hkc:kb K c≤400000):
  ah prog 11 [.agg (iE r c l)] (.tup [.agg (pE r c (fV c (rdM r c 0 (vat vs c) idv) r)),.one (.c (.sat (aA 1 piC (rdP r c 0 (vat vs c) idv)))),eNo 0]):=by
 have hK:K≤400000:=Nat.le_trans (aiE c K) hkc;have cF:=oo (cells:=l.flatMap q4C) hl hr hc;have hRB:=ahk (hM.rb hK1) hK1 c;have hRW:RW (bgM c 0 (vat vs c) idv r) (c+0) K:=afH (fun i k _ _=>hRB i k) (fun i k _ h=>absurd h (Nat.not_lt_zero _))
 have cR:=adl r c (aA 4 q4C l) (vat vs c) idv K (by omega) (by omega) (amN hM hl hr hc (by omega)) hRW hkb
 have cM:=nJ r c (.sat (dO 49 [] [.sat (bJ [.sat (wkP (red r c 0 (vat vs c) idv).1 c (rdP r c 0 (vat vs c) idv))])])) (fun i k=>q4v (rdM r c 0 (vat vs c) idv i k)) (rdM r c 0 (vat vs c) idv) (kb K c) (by omega) (by omega) (by omega)
  (fun i k hi hk=>by
   obtain⟨row,h1,_,h3⟩:=adh (r:=r) (c:=c) (d:=0) (va:=vat vs c) (vb:=idv) hi;exact FnV.clo (anJ h1 (h3 k (by omega)))) (fun i k hi hk=>(afQ hRW hi (by omega)).ra) rfl
 refine ah.fnF func11 results11 ntmps11 rfl rfl rfl (by simp[AV.ids,AV0.ids,Atom.ids]) rfl (fun w0 T B E0 hB=>?_)
 refine SX.goM ?_;refine SX.WP.fP 5 hB rfl rfl ?_;refine SX.WP.ae0 (by kernel_rfl) ?_
 refine SX.goM ?_;exact .ok (aF.mk3 (ak.aX rfl rfl rfl) (ak.tmp rfl) (ak.tmp rfl))
end
end Go.Proofs.YtjnhnbgpifohjaaGreatDoor