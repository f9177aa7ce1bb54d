import Derived.Test.YtegehclknhmkgaaGreatDoorS7
import Derived.Test.YtegehclknhmkgaaGreatDoorS5
set_option linter.unusedVariables false
set_option linter.unusedSimpArgs false
open Go.Proofs.Tryz
namespace Go.Proofs.YtegehclknhmkgaaGreatDoor
open Go.RowKit QM SX
section
attribute [local irreducible] IntKind.wrap Go1 Reg WP aS aT bR bO aQ aC ak aj aX Sat
attribute [local irreducible] bT bX bY dw bZ qv
section
instance aiG(b:Bool)(l:List Nat)(c:Bool)(m:List Nat)(z:Int):Con prog 23 [.agg (qW b l c m),.v (.int .i64 z)] True (.v (.bool (decide ((l.length:Int)≤z∧(m.length:Int)≤z)))):=⟨fun _=>by
 refine ah.fnF func23 results23 ntmps23 rfl rfl rfl (by simp[AV.ids,AV0.ids,Atom.ids]) rfl (fun w0 T B E0 hB=>?_)
 by_cases h1:(l.length:Int)≤z
 ·refine SX.goM ?_;refine aJ ?_;rw[decide_eq_decide];exact⟨fun h=>⟨h1,h⟩,fun h=>h.2⟩
 ·refine SX.goM ?_;refine aJ ?_;rw[eq_comm];exact decide_eq_false (fun h=>h1 h.1)⟩
instance Bd.ad7(x y:Int)(k m:Nat)[hx:Bd x k][hy:Bd y m]:Bd (ad7 x y) (k+k+1+m+1+1+1):=⟨by
 unfold Proofs.YtegehclknhmkgaaGreatDoor.ad7
 split
 ·exact(Bd.zfq (-x+ -x+ -y) (-y+ -y) _).h
 ·exact(Bd.zfq (x+x+y) (y+y) _).h⟩
attribute [local irreducible] ad7 zfq
end
section
theorem qv_lt{n d m e:Int}(hd:0 < d)(he:0 < e):(qv n d < qv m e↔n*e < m*d)∧(qv n d=qv m e↔n*e=m*d):=by
 have hd':(0:Rat) < d:=by rw[show (0:Rat)=((0:Int):Rat)from rfl];exact Rat.intCast_lt_intCast.2 hd
 have he':(0:Rat) < e:=by rw[show (0:Rat)=((0:Int):Rat)from rfl];exact Rat.intCast_lt_intCast.2 he
 have en:(n:Rat)=qv n d*d:=by unfold qv;grind
 have em:(m:Rat)=qv m e*e:=by unfold qv;grind
 have hde:=Rat.mul_pos hd' he';constructor
 ·rw[←Rat.intCast_lt_intCast (a:=n*e),Rat.intCast_mul,Rat.intCast_mul,en,em];generalize qv n d=v at*;generalize qv m e=u at*;constructor
  ·intro h;have:=Rat.mul_pos (show 0 < u - v by grind) hde
   grind
  ·intro h;exact Decidable.byContradiction fun hn=>by
    have:=Rat.mul_nonneg (show 0≤v - u by grind) (show (0:Rat)≤(d:Rat)*e by grind)
    grind
 ·rw[←Rat.intCast_inj (a:=n*e),Rat.intCast_mul,Rat.intCast_mul,en,em];generalize qv n d=v at*;generalize qv m e=u at*;constructor
  ·intro h;rw[h];grind
  ·intro h;have h0:(v - u)*((d:Rat)*e)=0:=by grind
   rcases Rat.mul_eq_zero.1 h0 with h1|h1
   ·grind
   ·rw[h1]at hde;grind
attribute [local irreducible] aV yA sgn
end
section
theorem Rd.uniq{p q r s:Int}(h1:0 < q)(g1:Int.gcd p q=1)(h2:0 < s)(g2:Int.gcd r s=1)(hv:qv p q=qv r s):p=r∧q=s:=by
 have he:=(qv_lt (n:=p) (m:=r) h1 h2).2.1 hv;have d1:q ∣ s:=by
  have:q ∣ p*s:=⟨r,by rw[he,Int.mul_comm]⟩
  exact Int.natAbs_dvd_natAbs.1 (Nat.Coprime.dvd_of_dvd_mul_left (show Nat.gcd q.natAbs p.natAbs=1 by rw[Nat.gcd_comm];exact g1) (by rw[←Int.natAbs_mul];exact Int.natAbs_dvd_natAbs.2 this))
 have d2:s ∣ q:=by
  have:s ∣ r*q:=⟨p,by rw[←he,Int.mul_comm]⟩
  exact Int.natAbs_dvd_natAbs.1 (Nat.Coprime.dvd_of_dvd_mul_left (show Nat.gcd s.natAbs r.natAbs=1 by rw[Nat.gcd_comm];exact g2) (by rw[←Int.natAbs_mul];exact Int.natAbs_dvd_natAbs.2 this))
 have e:q=s:=Int.dvd_antisymm (by omega) (by omega) d1 d2
 subst e;exact⟨Int.eq_of_mul_eq_mul_right (by omega) he,rfl⟩
attribute [local irreducible] abO ach sgn aV
section
variable{x0 x1 x2 x3:Atom}{p q:Int}{k m:Nat}
end
end
end
section
attribute [local irreducible] bT bX bY dw bZ
abbrev qC(v:Rat):List CA:=[.val (.bool (decide (v.num < 0))),.sat (bD v.num.natAbs),.val (.bool (decide ((v.den:Int) < 0))),.sat (bD (v.den:Int).natAbs)]
abbrev qA(v:Rat):List Atom:=[.c (.val (.bool (decide (v.num < 0)))),.c (.sat (bD v.num.natAbs)),.c (.val (.bool (decide ((v.den:Int) < 0)))),.c (.sat (bD (v.den:Int).natAbs))]
theorem pW(v:Rat):(v.den:Int)≠0:=by have:=v.den_nz;omega
theorem iW(v:Rat):qv v.num v.den=v:=by
 unfold qv;rw[←Rat.divInt_eq_div];exact Rat.num_divInt_den v
theorem ami{p q:Int}{v:Rat}(hq:q≠0)(h:qv p q=v):v.num*q=p*v.den:=by
 have h2:=iW v;have d1:=c0 hq;have d2:=c0 (pW v);unfold qv at h h2;apply Rat.intCast_inj.1
 rw[Rat.intCast_mul,Rat.intCast_mul];generalize ((v.den:Int):Rat)=d at*;generalize ((v.num:Int):Rat)=n at*;generalize (p:Rat)=a at*;generalize (q:Rat)=b at*;subst h2
 grind
theorem ae8{p q:Int}{v:Rat}(hq:q≠0)(h:qv p q=v):∃c:Int,q=c*v.den∧p=c*v.num:=by
 have hx:=ami hq h;have hc:Nat.Coprime v.num.natAbs v.den:=v.reduced;have hd:(v.den:Int) ∣ v.num*q:=⟨p,by rw[hx];exact Int.mul_comm _ _⟩
 have hd2:v.den ∣ q.natAbs:=by
  have h1:v.den ∣ (v.num*q).natAbs:=Int.natAbs_natCast v.den▸(Int.natAbs_dvd_natAbs.2 hd);rw[Int.natAbs_mul]at h1;exact hc.symm.dvd_of_dvd_mul_left h1
 obtain⟨c,hcq⟩:(v.den:Int) ∣ q:=Int.natAbs_dvd_natAbs.1 (by rw[Int.natAbs_natCast];exact hd2)
 refine⟨c,by rw[hcq];exact Int.mul_comm _ _,?_⟩
 rw[hcq]at hx;have h0:=pW v;have:(v.den:Int)*(v.num*c)=(v.den:Int)*p:=by grind
 have:=Int.eq_of_mul_eq_mul_left h0 this
 grind
structure RB(v:Rat)(K:Nat):Prop where
 n:v.num.natAbs < WB ^ K
 d:v.den < WB ^ K
theorem RB.of{p q:Int}{v:Rat}{K:Nat}(hq:q≠0)(h:qv p q=v)(h1:p.natAbs < WB ^ K)(h2:q.natAbs < WB ^ K):RB v K:=by
 obtain⟨c,e1,e2⟩:=ae8 hq h;have hc:1≤c.natAbs:=by
  rcases Nat.eq_zero_or_pos c.natAbs with h|h
  ·have:c=0:=by omega
   subst this;rw[Int.zero_mul]at e1;exact absurd e1 hq
  ·exact h
 have a1:q.natAbs=c.natAbs*v.den:=by rw[e1,Int.natAbs_mul,Int.natAbs_natCast]
 have a2:p.natAbs=c.natAbs*v.num.natAbs:=by rw[e2,Int.natAbs_mul]
 have b1:=Nat.mul_le_mul_right v.den hc;have b2:=Nat.mul_le_mul_right v.num.natAbs hc;exact⟨by omega,by omega⟩
theorem anw(K:Nat):1≤WB ^ K:=Nat.pow_pos aW
theorem gZ{a b K L:Nat}(h1:a < WB ^ K)(h2:b < WB ^ L):a*b < WB ^ (K+L):=by
 rw[Nat.pow_add];have:=Nat.mul_le_mul (show a≤WB ^ K - 1 by omega) (show b≤WB ^ L - 1 by omega)
 have p1:=anw K;have p2:=anw L;refine Nat.lt_of_le_of_lt this ?_;have h3:(WB ^ K - 1)*(WB ^ L - 1)≤(WB ^ K - 1)*WB ^ L:=Nat.mul_le_mul_left _ (Nat.sub_le _ _);have h4:(WB ^ K - 1)*WB ^ L < WB ^ K*WB ^ L:=(Nat.mul_lt_mul_right (by omega)).2 (by omega)
 omega
theorem atM(K:Nat):2*WB ^ K≤WB ^ (K+1):=by
 rw[Nat.pow_succ,Nat.mul_comm];exact Nat.mul_le_mul_left _ (by rw[bB];decide)
theorem RB.mul{u v:Rat}{K L:Nat}(h:RB u K)(k:RB v L):RB (u*v) (K+L):=by
 refine RB.of (p:=u.num*v.num) (q:=u.den*v.den) (Int.mul_ne_zero (pW u) (pW v)) ?_ ?_ ?_
 ·rw[apF,iW,iW]
 ·rw[Int.natAbs_mul];exact gZ h.n k.n
 ·rw[Int.natAbs_mul,Int.natAbs_natCast,Int.natAbs_natCast];exact gZ h.d k.d
theorem RB.zero{K:Nat}(hK:1≤K):RB 0 K:=by
 have h:WB ^ 1≤WB ^ K:=Nat.pow_le_pow_right aW hK;rw[Nat.pow_one]at h;have:=bB;exact⟨by show (0:Nat) < _;omega,by show (1:Nat) < _;omega⟩
theorem RB.div{u v:Rat}{K L:Nat}(h:RB u K)(k:RB v L)(hv:v≠0):RB (u / v) (K+L):=by
 have hn:v.num≠0:=fun e=>hv (Rat.num_eq_zero.1 e)
 refine RB.of (p:=u.num*v.den) (q:=u.den*v.num) (Int.mul_ne_zero (pW u) hn) ?_ ?_ ?_
 ·rw[apE,iW,iW]
 ·rw[Int.natAbs_mul,Int.natAbs_natCast];exact gZ h.n k.d
 ·rw[Int.natAbs_mul,Int.natAbs_natCast];exact gZ h.d k.n
theorem RB.ra{v:Rat}{K:Nat}(h:RB v K):Ra (qA v) v K:=
 ⟨_,_,_,_,v.num,(v.den:Int),K,K,rfl,(haveI:Bd v.num K:=⟨h.n⟩;inferInstance),(haveI:Bd (v.den:Int) K:=⟨by rw[Int.natAbs_natCast];exact h.d⟩;inferInstance),Nat.le_refl _,Nat.le_refl _,⟨h.n⟩,⟨by rw[Int.natAbs_natCast];exact h.d⟩,iW v⟩
theorem Rd.nf{X:Int×Int}{v:Rat}{K:Nat}(h:Rd X v K):X=(v.num,(v.den:Int)):=by
 obtain⟨p,q⟩:=X;have hq:q≠0:=by have:=h.d;dsimp only at this;omega
 obtain⟨c,e1,e2⟩:=ae8 hq (show qv p q=v from h.v)
 have hg:Int.gcd p q=1:=h.g;have hc1:c.natAbs ∣ Int.gcd p q:=Nat.dvd_gcd (by rw[e2,Int.natAbs_mul];exact Nat.dvd_mul_right _ _) (by rw[e1,Int.natAbs_mul];exact Nat.dvd_mul_right _ _)
 rw[hg]at hc1;have hca:c.natAbs=1:=Nat.dvd_one.1 hc1;have hpos:0 < q:=h.d;have hden:0 < (v.den:Int):=by have:=v.den_nz;omega
 have hc:c=1:=by
  rcases Int.natAbs_eq_iff.1 hca with h|h
  ·exact h
  ·subst h;rw[e1]at hpos;simp at hpos;omega
 subst hc;rw[Int.one_mul]at e1 e2;rw[e1,e2]
section
variable{l l':List Atom}{v v':Rat}{K K':Nat}
instance con_qAdd[a:Ra l v K][b:Ra l' v' K']:Con prog 158 [.agg l,.agg l'] (K+K'≤1000000) (.agg (qA (v+v'))):=⟨fun h=>by
 obtain⟨X,c,r⟩:=eAdd l l' h;rw[r.nf]at c;exact c⟩
instance aoH[a:Ra l v K][b:Ra l' v' K']:Con prog 353 [.agg l,.agg l'] (K+K'≤1000000) (.agg (qA (v*v'))):=⟨fun h=>by
 obtain⟨X,c,r⟩:=eMul l l' h;rw[r.nf]at c;exact c⟩
instance af7[a:Ra l v K][b:Ra l' v' K']:Con prog 340 [.agg l,.agg l'] (K+K'≤1000000) (.tup [.agg (qA (v / v')),.one (.c (.val (.bool (decide (v'≠0)))))]):=⟨fun h=>by
 obtain⟨X,ok,c,r,ho⟩:=eQuo l l' h;have e:ok=decide (v'≠0):=by
  cases ok with
  |true=>exact(decide_eq_true (ho.1 rfl)).symm
  |false=>exact(decide_eq_false fun hn=>by have:=ho.2 hn;cases this).symm
 rw[r.nf,e]at c;exact c⟩
end
end
section
attribute [local irreducible] IntKind.wrap Go1 Reg WP aS aT bR bO aQ aC ak aj aX Sat
attribute [local irreducible] bT bX bY dw bZ qv
instance au7:Con prog 333 [] True (.agg (qA 0)):=⟨fun _=>by
 refine ah.fnF func333 results333 ntmps333 rfl rfl rfl (by simp[AV.ids,AV0.ids,Atom.ids]) rfl (fun w0 T B E0 hB=>?_)
 refine SX.goM ?_;exact mE (ak.uD rfl rfl rfl) rfl⟩
def tkL(r s:List Rat)(f:Rat)(k:Nat):List Rat:=(List.zipWith (fun a b=>a - f*b) (r.take k) (s.take k))++r.drop k
def kE(c:Nat)(val:Nat→Nat→Rat)(i:Nat):List Rat:=(List.range i).flatMap fun i=>(List.range c).map (val i)
theorem akI{c:Nat}{val:Nat→Nat→Rat}:kE c val 0=[]:=rfl
theorem wH{c i:Nat}{val:Nat→Nat→Rat}:kE c val (i+1)=kE c val i++(List.range c).map (val i):=by
 unfold kE;rw[List.range_succ,List.flatMap_append];simp
theorem lN{c:Nat}{val:Nat→Nat→Rat}:∀i,(kE c val i).length=i*c
 |0=>by simp[akI]
 |i+1=>by rw[wH,List.length_append,lN i];simp[Nat.succ_mul]
def abz(val:Nat→Nat→Rat)(i k:Nat):List Rat:=(List.range k).map (val i)
theorem alv{val:Nat→Nat→Rat}{i k:Nat}:abz val i (k+1)=abz val i k++[val i k]:=by
 unfold abz;rw[List.range_succ,List.map_append];rfl
abbrev Q4:=Bool×Rep×Bool×Rep
abbrev q4A(q:Q4):List Atom:=[.c (.val (.bool q.1)),.c (.sat q.2.1),.c (.val (.bool q.2.2.1)),.c (.sat q.2.2.2)]
abbrev als(r c:Nat)(l:List Rat):List Atom:=[.c (.val (.int .i64 (r:Int))),.c (.val (.int .i64 (c:Int))),.c (.sat (aA 4 qC l))]
theorem ae1(r c:Nat)(x:CA)(L:Nat→Nat→Q4)(val:Nat→Nat→Rat)(K:Nat)(hr:r≤100)(hc:c≤100)(hK:K+1≤1000000)
  (hx:∀i k,i < r→k < c→FnV prog x [.v (.int .i64 (i:Int)),.v (.int .i64 (k:Int))] (.agg (q4A (L i k)))) (hL:∀i k,i < r→k < c→Ra (q4A (L i k)) (val i k) K) (hx1:x.dK=true):
  ah prog 351 [.v (.int .i64 (r:Int)),.v (.int .i64 (c:Int)),.it (.one (.c x))] (.agg (als r c (kE c val r))):=by
 have iz:Ra (qA 0) 0 1:=(RB.zero (Nat.le_refl 1)).ra;refine ah.fnF func351 results351 ntmps351 rfl rfl rfl (by simp[AV.ids,AV0.ids,Atom.ids]) rfl (fun w0 T B E0 hB=>?_)
 refine SX.goM ?_;refine W.loop (fun i=>i≤r) (fun i=>[(1,.v (.int .i64 (c:Int))),(2,.it (.one (.c x))),(6,.ptr 6 0),(7,.ptr 7 0),(13,.v (.int .i64 (r:Int))),(14,.v (.int .i64 (i:Int)))]) (fun i=>[(6,.box 41 [.c (.val (.int .i64 0)),.c (.val (.int .i64 0)),.c (.val (.slice none 0 0))]),(7,.box 41 [.c (.val (.int .i64 (r:Int))),.c (.val (.int .i64 (c:Int))),.own 100]),(100,.row 38 4 (i*c) ((kE c val i).flatMap qC))]) (fun i=>r - i) 0 (Nat.zero_le _) (fun i hi=>?_)
  (by
   refine SX.St.aY [(100,none)] (by intro b h;cases h) ?_ ?_ rfl
   ·repeat(first|exact trivial|refine⟨⟨_,rfl,SX.aG.same rfl⟩,?_⟩)
   ·exact⟨SX.ay.same rfl rfl,SX.ay.mh rfl rfl ⟨aD.same rfl,aD.same rfl,aD.nil rfl,trivial⟩,by rw[Nat.zero_mul];exact SX.ay.bV rfl,trivial⟩)
 by_cases h:i < r
 ·refine SX.goM ?_;refine W.loop (fun k=>k≤c) (fun k=>[(1,.v (.int .i64 (c:Int))),(2,.it (.one (.c x))),(6,.ptr 6 0),(7,.ptr 7 0),(8,.v (.int .i64 (i:Int))),(13,.v (.int .i64 (r:Int))),(14,.v (.int .i64 (i:Int))),(17,.v (.int .i64 (c:Int))),(18,.v (.int .i64 (k:Int)))]) (fun k=>[(6,.box 41 [.c (.val (.int .i64 0)),.c (.val (.int .i64 0)),.c (.val (.slice none 0 0))]),(7,.box 41 [.c (.val (.int .i64 (r:Int))),.c (.val (.int .i64 (c:Int))),.own 100]),(100,.row 38 4 (i*c+k) ((kE c val i++abz val i k).flatMap qC))]) (fun k=>c - k) 0 (Nat.zero_le _) (fun k hk=>?_)
   (by
    have e:Ent.row 38 4 (i*c) ((kE c val i).flatMap qC)=Ent.row 38 4 (i*c+0) ((kE c val i++abz val i 0).flatMap qC):=by simp[abz]
    refine SX.St.aY [] (by intro b h;cases h) ?_ ?_ rfl
    ·repeat(first|exact trivial|refine⟨⟨_,rfl,SX.aG.same rfl⟩,?_⟩)
    ·exact⟨SX.ay.same rfl rfl,SX.ay.same rfl rfl,SX.ay.eq rfl e rfl,trivial⟩)
  by_cases h2:k < c
  ·have hf:=hx i k h h2;have ir:=hL i k h h2;have hlen:i*c+k≤20000:=by
    have:=Nat.mul_le_mul (show i≤100 by omega) hc
    omega
   refine SX.goM ?_;refine W.next (k+1) h2 (by omega) (by
    have e2:(kE c val i++abz val i k).flatMap qC++qC (val i k+0)=(kE c val i++abz val i (k+1)).flatMap qC:=by
     rw[Rat.add_zero,alv,←List.append_assoc,List.flatMap_append (xs:=kE c val i++abz val i k)];simp
    refine SX.St.aY [(100,some 30)] (by intro b h;cases h) ?_ ?_ rfl
    ·repeat(first|exact trivial|refine⟨⟨_,rfl,SX.aG.same rfl⟩,?_⟩)
    ·exact⟨SX.ay.same rfl rfl,SX.ay.mh rfl rfl ⟨aD.same rfl,aD.same rfl,aD.own rfl,trivial⟩,SX.ay.row rfl rfl (by omega) e2,trivial⟩)
  ·obtain rfl:k=c:=by omega
   refine SX.goM ?_;refine W.next (i+1) h (by omega) (by
    have e2:Ent.row 38 4 (i*k+k) ((kE k val i++abz val i k).flatMap qC)=Ent.row 38 4 ((i+1)*k) ((kE k val (i+1)).flatMap qC):=by rw[Nat.succ_mul,wH];rfl
    refine SX.St.aY [] (by intro b h;cases h) ?_ ?_ rfl
    ·repeat(first|exact trivial|refine⟨⟨_,rfl,SX.aG.same rfl⟩,?_⟩)
    ·exact⟨SX.ay.same rfl rfl,SX.ay.same rfl rfl,SX.ay.eq rfl e2 rfl,trivial⟩)
 ·obtain rfl:i=r:=by omega
  refine SX.goM ?_;have hm:als i c (kE c val i)=[.c (.val (.int .i64 (i:Int))),.c (.val (.int .i64 (c:Int))),.c (.sat (aM 4 (i*c) ((kE c val i).flatMap qC)))]:=by
   show [_,_,Atom.c (.sat (aM 4 (kE c val i).length _))]=_;rw[lN]
  rw[hm];refine aQ.frz 100 ?_;exact mE (ak.aZ rfl rfl rfl) rfl
abbrev q4C(q:Q4):List CA:=[.val (.bool q.1),.sat q.2.1,.val (.bool q.2.2.1),.sat q.2.2.2]
instance:dO q4C 4:=⟨fun _=>rfl⟩
abbrev um(r c:Nat)(l:List Q4):List Atom:=[.c (.val (.int .i64 (r:Int))),.c (.val (.int .i64 (c:Int))),.c (.sat (aA 4 q4C l))]
structure MV(l:List Q4)(vs:List Rat)(K:Nat):Prop where
 len:l.length=vs.length
 ra:∀(i:Nat) q v,l[i]? =some q→vs[i]? =some v→Ra (q4A q) v K
instance aaO(r c:Int){n:Nat}{cells:List CA}:Con prog 92 [.agg [.c (.val (.int .i64 r)),.c (.val (.int .i64 c)),.c (.sat (aM 4 n cells))]] True (.v (.bool (decide (0≤r∧r≤64∧0≤c∧c≤64∧(n:Int)=r*c)))):=⟨fun _=>by
 refine ah.fnF func92 results92 ntmps92 rfl rfl rfl (by simp[AV.ids,AV0.ids,Atom.ids]) rfl (fun w0 T B E0 hB=>?_)
 by_cases h1:r≥0
 ·by_cases h2:r≤64
  ·by_cases h3:c≥0
   ·by_cases h4:c≤64
    ·have hp:0≤r*c:=Int.mul_nonneg h1 h3;have hp2:r*c≤64*64:=Int.mul_le_mul h2 h4 h3 (by decide)
     refine SX.goM ?_;refine aJ ?_;rw[decide_eq_decide];exact⟨fun h=>⟨h1,h2,h3,h4,h⟩,fun h=>h.2.2.2.2⟩
    ·refine SX.goM ?_;refine aJ ?_;exact(decide_eq_false fun h=>h4 h.2.2.2.1).symm
   ·refine SX.goM ?_;refine aJ ?_;exact(decide_eq_false fun h=>h3 h.2.2.1).symm
  ·refine SX.goM ?_;refine aJ ?_;exact(decide_eq_false fun h=>h2 h.2.1).symm
 ·refine SX.goM ?_;refine aJ ?_;exact(decide_eq_false fun h=>h1 h.1).symm⟩
theorem aq9{r c i k:Nat}{l:List Q4}{q:Q4}(hq:l[i*c+k]? =some q)(hi:i≤100)(hc:c≤100)(hk:k≤100):
  ah prog 334 [.agg (um r c l),.v (.int .i64 (i:Int)),.v (.int .i64 (k:Int))] (.agg (q4A q)):=by
 have hb:=Nat.mul_le_mul hi hc;have hlt:i*c+k < l.length:=by
  rcases Nat.lt_or_ge (i*c+k) l.length with h|h
  ·exact h
  ·rw[List.getElem?_eq_none h]at hq;cases hq
 refine ah.fnF func334 results334 ntmps334 rfl rfl rfl (by simp[AV.ids,AV0.ids,Atom.ids]) rfl (fun w0 T B E0 hB=>?_)
 refine SX.goM ?_;exact mE (ak.uD rfl rfl rfl) rfl
def piC(n:Nat):List CA:=[.val (.int .i64 (n:Int))]
abbrev PivE(ps:List Nat):Ent:= .row 3 1 ps.length (ps.flatMap piC)
abbrev y8(r c:Nat)(x:Rep):List Atom:=[.c (.val (.int .i64 (r:Int))),.c (.val (.int .i64 (c:Int))),.c (.sat x)]
def fi{α:Type}(p:α→Bool):List α→Nat→Int
 |[],_=> -1
 |a::l,k=>if p a then(k:Int)else fi p l (k+1)
theorem rD{α:Type}{p:α→Bool}{l:List α}{k:Nat}{a:α}(h:l[k]? =some a):fi p (l.drop k) k=if p a then(k:Int)else fi p (l.drop (k+1)) (k+1):=by
 have hk:k < l.length:=by
  rcases Nat.lt_or_ge k l.length with h2|h2
  ·exact h2
  ·rw[List.getElem?_eq_none h2]at h;cases h
 rw[List.drop_eq_getElem_cons hk];rw[zq2 hk]at h
 rw[Option.some.inj h];rfl
def nz(col:Nat)(r:List Rat):Bool:=decide (r.getD col 0≠0)
def mlL(s:List Rat)(f:Rat)(k:Nat):List Rat:=(s.take k).map (· *f)++s.drop k
def anL(M:List (List Rat))(top col:Nat):Int:=fi (nz col) (M.drop top) 0
def sw{α:Type}(l:List α)(i j:Nat):List α:=match l[i]?,l[j]? with|some a,some b=>(l.set i b).set j a|_,_=>l
def arZ(M:List (List Rat))(top i col:Nat):List Rat:=let s:=(sw M top (top+i)).getD top [];mlL s (1 / s.getD col 0) s.length
def colR(by_:List Rat)(col:Nat)(r:List Rat):List Rat:=tkL r by_ (r.getD col 0) r.length
def colM(M:List (List Rat))(top col:Nat):List (List Rat):=if anL M top col < 0 then M else
 ((sw M top (top+(anL M top col).toNat)).map (colR (arZ M top (anL M top col).toNat col) col)).set top (arZ M top (anL M top col).toNat col)
def colP(M:List (List Rat))(ps:List Nat)(col:Nat):List Nat:=if anL M ps.length col < 0 then ps else ps++[col]
theorem ai8{α:Type}{p:α→Bool}:∀(l:List α) (k:Nat),¬fi p l k < 0→∃i a,fi p l k=((k+i:Nat):Int)∧l[i]? =some a∧p a=true
 |[],k,h=>absurd (show (-1:Int) < 0 by decide) h
 |a::l,k,h=>by
  unfold fi at h ⊢;cases hp:p a with
  |true=>exact⟨0,a,by simp,rfl,hp⟩
  |false=>
   rw[hp]at h;obtain⟨i,b,h1,h2,h3⟩:=ai8 l (k+1) h;exact⟨i+1,b,by rw[if_neg (by decide),h1];congr 1;omega,h2,h3⟩
theorem ap8{js:List Nat}(h:js.Nodup){i k a b:Nat}(hi:js[i]? =some a)(hk:js[k]? =some b)(hne:i≠k):a≠b:=by
 rintro rfl;have hil:i < js.length:=by
  rcases Nat.lt_or_ge i js.length with h|h
  ·exact h
  ·rw[List.getElem?_eq_none h]at hi;cases hi
 exact hne ((List.getElem?_inj hil h).1 (hi.trans hk.symm))
theorem afP{α β:Type}(g:α→β)(l:List α)(i:Nat)(a:α):(l.map g).set i (g a)=(l.set i a).map g:=by rw[List.map_set]
theorem atY{α β:Type}(g:α→β){l:List α}{i j:Nat}{a b:α}(ha:l[i]? =some a)(hb:l[j]? =some b):sw (l.map g) i j=((l.set i b).set j a).map g:=by
 unfold sw;rw[List.getElem?_map,List.getElem?_map,ha,hb]
 show ((l.map g).set i (g b)).set j (g a)=_;rw[afP,afP]
theorem anm{js:List Nat}{t u ja jb:Nat}(hnd:js.Nodup)(ha:js[t]? =some ja)(hb:js[u]? =some jb):((js.set t jb).set u ja).Nodup:=by
 have htl:t < js.length:=by
  rcases Nat.lt_or_ge t js.length with h|h
  ·exact h
  ·rw[List.getElem?_eq_none h]at ha;cases ha
 have hul:u < js.length:=by
  rcases Nat.lt_or_ge u js.length with h|h
  ·exact h
  ·rw[List.getElem?_eq_none h]at hb;cases hb
 show List.Pairwise (· ≠ ·) _;rw[List.pairwise_iff_getElem];intro x y hx hy hxy e0;have e:=(zq2 hx).trans ((congrArg some e0).trans (zq2 hy).symm)
 rw[List.length_set,List.length_set]at hx hy;have key:∀z,z < js.length→((js.set t jb).set u ja)[z]? =js[if z=u then t else if z=t then u else z]? :=by
  intro z hz;rw[List.getElem?_set,List.getElem?_set]
  by_cases h1:u=z
  ·rw[if_pos h1,if_pos h1.symm,if_pos (by rw[List.length_set];exact hul),ha]
  ·have h1':¬z=u:=fun e=>h1 e.symm
   rw[if_neg h1,if_neg h1'];by_cases h2:t=z
   ·rw[if_pos h2,if_pos h2.symm,if_pos htl,hb]
   ·have h2':¬z=t:=fun e=>h2 e.symm
    rw[if_neg h2,if_neg h2']
 rw[key x (by omega),key y (by omega)]at e
 have hz:(if x=u then t else if x=t then u else x) < js.length:=by
  split
  ·exact htl
  ·split
   ·exact hul
   ·omega
 have:=(List.getElem?_inj hz hnd).1 e
 revert this
 repeat' split
 all_goals omega
def dR:Nat→Nat→List (List Rat)→List Nat→List (List Rat)×List Nat
 |0,_,M,ps=>(M,ps)
 |n+1,col,M,ps=>if ps.length < M.length then dR n (col+1) (colM M ps.length col) (colP M ps col)else(M,ps)
def kb(K:Nat):Nat→Nat
 |0=>K
 |n+1=>kb (4*K+2) n
theorem asO{α:Type}{l:List α}{i j:Nat}{x:α}(h:x∈sw l i j):x∈l:=by
 unfold sw at h
 split at h
 ·rename_i a b ha hb;rcases List.mem_or_eq_of_mem_set h with h|h
  ·rcases List.mem_or_eq_of_mem_set h with h|h
   ·exact h
   ·rw[h];exact zq4 hb
  ·rw[h];exact zq4 ha
 ·exact h
theorem asX{α:Type}{l:List α}{i j:Nat}:(sw l i j).length=l.length:=by
 unfold sw
 split
 ·rw[List.length_set,List.length_set]
 ·rfl
theorem aac{α:Type}{l:List α}{i:Nat}{d:α}(h:i < l.length):l.getD i d∈l:=by
 rw[zq3,zq2 h];exact List.getElem_mem h
structure RdS where
 col:Nat
 M:List (List Rat)
 ps:List Nat
end
section
theorem weakArgs{P:Program}{f:FuncId}{args args':List AV}{r:AV}(h:ah P f args' r)(hi:∀E S w vs,aK (AV.has E S w) args vs→aK (AV.has E S w) args' vs):ah P f args r:=
 ⟨h.1,fun E S w vs hl hg hv a b c=>h.2 E S w vs hl hg (hi E S w vs hv) a b c⟩
attribute [local irreducible] IntKind.wrap Go1 Reg WP aS aT bR bO aQ aC ak aj aX Sat
attribute [local irreducible] bT bX bY dw bZ qv
abbrev q4v(v:Rat):Q4:=(decide (v.num < 0),bD v.num.natAbs,decide ((v.den:Int) < 0),bD (v.den:Int).natAbs)
theorem aja{α:Type}{enc:α→List CA}{size:Nat}{S:Nat→Prop}{w:World}:(aA size enc ([]:List α)).has S w (.slice none 0 0):=
 bG.2 ⟨none,0,rfl,Nat.le_refl _,Nat.zero_le _,fun _=>rfl,by simp,fun i c h=>by simp at h⟩
end
end Go.Proofs.YtegehclknhmkgaaGreatDoor
namespace LA
def sm:Nat→(Nat→Rat)→Rat
 |0,_=>0
 |n+1,f=>sm n f+f n
def Sp(n W:Nat)(m:Nat→Nat→Rat)(v:Nat→Rat):Prop:=∃c:Nat→Rat,∀k,k < W→v k=sm n (fun r=>c r*m r k)
structure Eqv(n n' W:Nat)(m m':Nat→Nat→Rat):Prop where
 fwd:∀r,r < n'→Sp n W m (m' r)
 back:∀r,r < n→Sp n' W m' (m r)
structure Rref(n w:Nat)(m:Nat→Nat→Rat)(ps:List Nat):Prop where
 len:ps.length≤n
 inc:ps.Pairwise (· < ·)
 lt:∀p∈ps,p < w
 one:∀i p,ps[i]? =some p→∀r,r < n→m r p=if r=i then 1 else 0
 low:∀i p,ps[i]? =some p→∀k,k < p→m i k=0
 zero:∀r,ps.length≤r→r < n→∀k,k < w→m r k=0
end LA
namespace Go.Proofs.YtegehclknhmkgaaGreatDoor
section
open LA
def mf(M:List (List Rat))(r k:Nat):Rat:=(M.getD r []).getD k 0
theorem ai9{α:Type}{p:α→Bool}:∀{l:List α} {k:Nat},fi p l k < 0→∀a∈l,p a=false
 |[],k,_,a,h=>by cases h
 |b::l,k,h,a,ha=>by
  unfold fi at h;cases hp:p b with
  |true=>rw[hp]at h;simp at h;omega
  |false=>
   rw[hp]at h;rcases List.mem_cons.1 ha with rfl|ha
   ·exact hp
   ·exact ai9 (k:=k+1) (by simpa using h) a ha
structure ColS(n W:Nat)(m m':Nat→Nat→Rat)(top i col:Nat):Prop where
 hi:top≤i∧i < n
 ne:m i col≠0
 at_:∀r,r < n→∀k,k < W→m' r k=if r=top then m i k / m i col else(if r=i then m top k else m r k) - (if r=i then m top col else m r col)*(m i k / m i col)
section
section
variable{r c d:Nat}{va vb:Nat→Nat→Rat}
end
end
end
section
open Go.RowKit QM SX
attribute [local irreducible] IntKind.wrap Go1 Reg WP aS aT bR bO aQ aC ak aj aX Sat
attribute [local irreducible] bT bX bY dw bZ qv mf
attribute [local irreducible] dR
theorem Ra.rb{l:List Atom}{v:Rat}{K:Nat}(h:Ra l v K)(hK:1≤K):RB v K:=by
 obtain⟨x0,x1,x2,x3,p,q,k,m,_,_,_,h1,h2,h3,h4,h5⟩:=h.h;by_cases hq:q=0
 ·subst hq;have:v=0:=by rw[←h5];unfold qv;grind
  rw[this];exact RB.zero hK
 ·exact RB.of hq h5 (Nat.lt_of_lt_of_le h3.h (Nat.pow_le_pow_right aW h1)) (Nat.lt_of_lt_of_le h4.h (Nat.pow_le_pow_right aW h2))
def vat(vs:List Rat)(c i k:Nat):Rat:=vs.getD (i*c+k) 0
theorem xC{r c i k:Nat}(hi:i < r)(hk:k < c):i*c+k < r*c:=by
 have:=Nat.mul_le_mul_right c (show i+1≤r from hi)
 rw[Nat.succ_mul]at this;omega
theorem anG{vs:List Rat}{r c i k:Nat}(hl:vs.length=r*c)(hi:i < r)(hk:k < c):vs[i*c+k]? =some (vat vs c i k):=by
 have h:=xC hi hk;unfold vat;rw[zq3,zq2 (by omega)];rfl
theorem MV.rb{l:List Q4}{vs:List Rat}{K:Nat}(h:MV l vs K)(hK:1≤K):∀v∈vs,RB v K:=by
 intro v hv;obtain⟨i,hi⟩:=List.mem_iff_getElem?.1 hv;have hlt:i < vs.length:=by
  rcases Nat.lt_or_ge i vs.length with h|h
  ·exact h
  ·rw[List.getElem?_eq_none h]at hi;cases hi
 exact Ra.rb (h.ra i _ v (zq2 (show i < l.length by rw[h.len];exact hlt)) hi) hK
theorem acQ{c:Nat}{val:Nat→Nat→Rat}{k:Nat}(hk:k < c):∀{r i:Nat},i < r→(kE c val r)[i*c+k]? =some (val i k)
 |0,i,h=>absurd h (Nat.not_lt_zero _)
 |r+1,i,h=>by
  rw[wH];by_cases hi:i < r
  ·rw[List.getElem?_append_left (by rw[lN];exact xC hi hk)]
   exact acQ hk hi
  ·obtain rfl:i=r:=by omega
   rw[List.getElem?_append_right (by rw[lN];omega),lN,Nat.add_sub_cancel_left,List.getElem?_map,List.getElem?_range hk];rfl
theorem MV.made{vs:List Rat}{K:Nat}(h:∀v∈vs,RB v K):MV (vs.map q4v) vs K:=by
 refine⟨zq5 _,fun i q v hq hv=>?_⟩
 rw[List.getElem?_map,hv]at hq
 cases hq;exact(h v (zq4 hv)).ra
theorem acB(r c:Nat)(l:List Rat):als r c l=um r c (l.map q4v):=by
 have e:aA 4 qC l=aA 4 q4C (l.map q4v):=by
  show aM 4 l.length (l.flatMap qC)=aM 4 (l.map q4v).length ((l.map q4v).flatMap q4C);rw[zq5,List.flatMap_map]
 unfold als um;rw[e]
theorem yL{r c:Nat}{n:Nat}{cells:List CA}(hl:n=r*c)(hr:r≤64)(hc:c≤64):ah prog 92 [.agg [.c (.val (.int .i64 (r:Int))),.c (.val (.int .i64 (c:Int))),.c (.sat (aM 4 n cells))]] (.v (.bool true)):=by
 have h:=(aaO (r:Int) (c:Int) (n:=n) (cells:=cells)).h trivial;rw[decide_eq_true (show 0≤(r:Int)∧(r:Int)≤64∧0≤(c:Int)∧(c:Int)≤64∧(n:Int)=(r:Int)*(c:Int)from ⟨by omega,by omega,by omega,by omega,by rw[hl];simp⟩)]at h
 exact h
abbrev mat0:List Atom:=[.c (.val (.int .i64 0)),.c (.val (.int .i64 0)),.c (.val (.slice none 0 0))]
abbrev agt(r c:Int)(l:List Q4):List Atom:=[.c (.val (.int .i64 r)),.c (.val (.int .i64 c)),.c (.sat (aA 4 q4C l))]
abbrev eNo(z:Int):AV0:= .one (.c (.val (.int .i64 z)))
def mF(r c:Int)(n:Nat):Prop:=0≤r∧r≤64∧0≤c∧c≤64∧(n:Int)=r*c
end
section
open Go.RowKit QM SX
attribute [local irreducible] IntKind.wrap Go1 Reg WP aS aT bR bO aQ aC ak aj aX Sat
attribute [local irreducible] bT bX bY dw bZ qv dR mf
theorem anp{f:FuncId}{E:Env}{S:Nat→Prop}{w:World}{v:Value}(h:(AV.it (.one (.clo f []))).has E S w v):(AV.it (.one (.c (.sat (dP f [] []))))).has E S w v:=
 ⟨[],[],h,trivial,trivial⟩
abbrev fV:=Bool×List Nat×Bool×List Nat
abbrev rq(x:fV):Q4:=(x.1,dN x.2.1,x.2.2.1,dN x.2.2.2)
def rqv(x:fV):Rat:=qv (sgn x.1 (nval WB x.2.1)) (sgn x.2.2.1 (nval WB x.2.2.2))
def RSm(l:List fV):Prop:=∀x∈l,Sm WB x.2.1∧Sm WB x.2.2.2
def alL(l:List fV)(K:Nat):Prop:=∀x∈l,x.2.1.length≤K∧x.2.2.2.length≤K
theorem MV.raw{l:List fV}{K:Nat}(hs:RSm l)(hl:alL l K):MV (l.map rq) (l.map rqv) K:=by
 refine⟨by rw[zq5,zq5],fun i q v hq hv=>?_⟩
 rw[List.getElem?_map]at hq hv
 cases hx:l[i]? with
 |none=>rw[hx]at hq;cases hq
 |some x=>
  rw[hx]at hq hv;cases hq;cases hv;have h1:=hs x (zq4 hx);have h2:=hl x (zq4 hx);exact Ra.raw ⟨xR h1.1 (Nat.le_refl _)⟩ ⟨xR h1.2 (Nat.le_refl _)⟩ h2.1 h2.2
theorem afF(r c:Int){n:Nat}{cells:List CA}:ah prog 50 [.agg [.c (.val (.int .i64 r)),.c (.val (.int .i64 c)),.c (.sat (aM 4 n cells))]] (.v (.bool (decide (0≤r∧r≤64∧0≤c∧c≤64∧(n:Int)=r*c)))):=by
 refine ah.fnF func50 results50 ntmps50 rfl rfl rfl (by simp[AV.ids,AV0.ids,Atom.ids]) rfl (fun w0 T B E0 hB=>?_)
 by_cases h1:r≥0
 ·by_cases h2:r≤64
  ·by_cases h3:c≥0
   ·by_cases h4:c≤64
    ·have hp:0≤r*c:=Int.mul_nonneg h1 h3;have hp2:r*c≤64*64:=Int.mul_le_mul h2 h4 h3 (by decide)
     refine SX.goM ?_;refine aJ ?_;rw[decide_eq_decide];exact⟨fun h=>⟨h1,h2,h3,h4,h⟩,fun h=>h.2.2.2.2⟩
    ·refine SX.goM ?_;refine aJ ?_;exact(decide_eq_false fun h=>h4 h.2.2.2.1).symm
   ·refine SX.goM ?_;refine aJ ?_;exact(decide_eq_false fun h=>h3 h.2.2.1).symm
  ·refine SX.goM ?_;refine aJ ?_;exact(decide_eq_false fun h=>h2 h.2.1).symm
 ·refine SX.goM ?_;refine aJ ?_;exact(decide_eq_false fun h=>h1 h.1).symm
def aec(r c:Int)(l:List fV)(s w:Int):Prop:=(∀k x,k < 100→l[k]? =some x→(x.2.1.length:Int)≤w∧(x.2.2.2.length:Int)≤w)∧r≤s∧c≤s∧l.length≤100
theorem aoO(r c:Int)(l:List fV)(s w:Int):
  (aec r c l s w→ah prog 24 [.agg (agt r c (l.map rq)),.v (.int .i64 s),.v (.int .i64 w)] (.v (.bool true)))∧
  (¬aec r c l s w→ah prog 24 [.agg (agt r c (l.map rq)),.v (.int .i64 s),.v (.int .i64 w)] (.v (.bool false))):=by
 have hlen:(l.map rq).length=l.length:=zq5 _;have key:∀(goal:Bool),(goal=true↔aec r c l s w)→ah prog 24 [.agg (agt r c (l.map rq)),.v (.int .i64 s),.v (.int .i64 w)] (.v (.bool goal)):=by
  intro goal hg;refine ah.fnF func24 results24 ntmps24 rfl rfl rfl (by simp[AV.ids,AV0.ids,Atom.ids]) rfl (fun w0 T B E0 hB=>?_)
  refine SX.goM ?_;refine W.loop (fun k=>k≤l.length∧k≤100∧∀j x,j < k→l[j]? =some x→(x.2.1.length:Int)≤w∧(x.2.2.2.length:Int)≤w) (fun k=>[(1,.v (.int .i64 s)),(2,.v (.int .i64 w)),(3,.ptr 3 0),(7,.v (.int .i64 (k:Int)))]) (fun k=>[(3,.box 41 (agt r c (l.map rq)))]) (fun k=>l.length - k) 0 ⟨Nat.zero_le _,Nat.zero_le _,fun j x h=>absurd h (Nat.not_lt_zero _)⟩ (fun k ⟨hk,hk2,he⟩=>?_)
  by_cases h:k < l.length
  ·have h':k < (l.map rq).length:=by omega
   by_cases h2:k < 100
   ·obtain⟨x,hx⟩:∃x,l[k]? =some x:=⟨_,zq2 h⟩
    have hq:(l.map rq)[k]? =some (rq x):=by rw[List.getElem?_map,hx];rfl
    have cF:=(aiG x.1 x.2.1 x.2.2.1 x.2.2.2 w).h trivial;by_cases h3:(x.2.1.length:Int)≤w∧(x.2.2.2.length:Int)≤w
    ·rw[decide_eq_true h3]at cF;refine SX.goM ?_;refine W.next (k+1) ⟨h,h2,fun j b hj hb=>?_⟩ (by omega)
     by_cases hjk:j < k
     ·exact he j b hjk hb
     ·obtain rfl:j=k:=by omega
      rw[hx]at hb;rw[←Option.some.inj hb];exact h3
    ·rw[decide_eq_false h3]at cF;refine SX.goM ?_;refine aJ ?_;exact(Bool.eq_false_iff.2 fun ht=>h3 ((hg.1 ht).1 k x h2 hx)).symm
   ·obtain rfl:k=100:=by omega
    have hno:¬(l.map rq).length≤100:=by omega
    by_cases h3:r≤s
    ·by_cases h4:c≤s
     ·refine SX.goM ?_;refine aJ ?_;rw[Bool.eq_iff_iff,hg,decide_eq_true_iff];exact⟨fun h=>by omega,fun h=>by have:=h.2.2.2;omega⟩
     ·refine SX.goM ?_;refine aJ ?_;exact(Bool.eq_false_iff.2 fun ht=>h4 (hg.1 ht).2.2.1).symm
    ·refine SX.goM ?_;refine aJ ?_;exact(Bool.eq_false_iff.2 fun ht=>h3 (hg.1 ht).2.1).symm
  ·obtain rfl:k=l.length:=by omega
   have h':¬l.length < (l.map rq).length:=by omega
   have all:∀k x,k < 100→l[k]? =some x→(x.2.1.length:Int)≤w∧(x.2.2.2.length:Int)≤w:=fun j x hj hx=>by
    have hjl:j < l.length:=by
     rcases Nat.lt_or_ge j l.length with h|h
     ·exact h
     ·rw[List.getElem?_eq_none h]at hx;cases hx
    exact he j x hjl hx
   by_cases h3:r≤s
   ·by_cases h4:c≤s
    ·refine SX.goM ?_;refine aJ ?_;rw[Bool.eq_iff_iff,hg,decide_eq_true_iff];exact⟨fun h=>⟨all,h3,h4,by omega⟩,fun h=>by have:=h.2.2.2;omega⟩
    ·refine SX.goM ?_;refine aJ ?_;exact(Bool.eq_false_iff.2 fun ht=>h4 (hg.1 ht).2.2.1).symm
   ·refine SX.goM ?_;refine aJ ?_;exact(Bool.eq_false_iff.2 fun ht=>h3 (hg.1 ht).2.1).symm
 exact⟨fun h=>key true ⟨fun _=>h,fun _=>rfl⟩,fun h=>key false ⟨fun h=>(by cases h),fun h2=>absurd h2 h⟩⟩
end
section
open Go.RowKit QM SX LA
attribute [local irreducible] IntKind.wrap Go1 Reg WP aS aT bR bO aQ aC ak aj aX Sat
attribute [local irreducible] bT bX bY dw bZ qv dR mf
section
section
variable{l l':List Atom}{v:Rat}{K K':Nat}
end
theorem akH:ah prog 6 [.v (.int .i64 1)] (.agg (zN 1)):=arq.h ⟨by decide,by decide⟩
theorem kI{α:Type}{l:List α}{i:Nat}{a:α}(h:l[i]? =some a):i < l.length:=by
 rcases Nat.lt_or_ge i l.length with h2|h2
 ·exact h2
 ·rw[List.getElem?_eq_none h2]at h;cases h
end
abbrev Z2:=Bool×Rep
abbrev z2A(q:Z2):List Atom:=[.c (.val (.bool q.1)),.c (.sat q.2)]
abbrev z2C(q:Z2):List CA:=[.val (.bool q.1),.sat q.2]
instance:dO z2C 2:=⟨fun _=>rfl⟩
abbrev zC(z:Int):List CA:=[.val (.bool (decide (z < 0))),.sat (bD z.natAbs)]
instance:dO zC 2:=⟨fun _=>rfl⟩
abbrev z2v(z:Int):Z2:=(decide (z < 0),bD z.natAbs)
structure ZQ(q:Z2)(z:Int)(K:Nat):Prop where
 h:∃n k,z=sgn q.1 n∧NI (.sat q.2) n k∧k≤K
 b:z.natAbs < WB ^ K
theorem NI.le{a:CA}{n k K:Nat}(x:NI a n k)(hK:k≤K):NI a n K:=⟨fun S w v h=>by
 obtain⟨l,h1,h2,h3⟩:=vL.1 (x.p S w v h);exact vL.2 ⟨l,h1,Nat.le_trans h2 hK,h3⟩⟩
theorem ZQ.zi{q:Z2}{z:Int}{K:Nat}(h:ZQ q z K):ZI (z2A q) z K:=by
 obtain⟨n,k,h1,h2,h3⟩:=h.h;exact h1▸ZI.mk' (neg:=q.1) (h2.le h3)
theorem aeN(z:Int):sgn (decide (z < 0)) z.natAbs=z:=by
 unfold sgn;by_cases h:z < 0
 ·rw[decide_eq_true h];simp;omega
 ·rw[decide_eq_false h];simp;omega
theorem ZQ.made{z:Int}{K:Nat}(h:z.natAbs < WB ^ K):ZQ (z2v z) z K:=
 ⟨⟨z.natAbs,K,(aeN z).symm,NI.aaL h,Nat.le_refl _⟩,h⟩
theorem ZQ.raw{b:Bool}{l:List Nat}{K:Nat}(hs:Sm WB l)(hl:l.length≤K):ZQ (b,dN l) (sgn b (nval WB l)) K:=
 ⟨⟨_,_,rfl,NI.raw l,hl⟩,by
  have h1:(sgn b (nval WB l)).natAbs=nval WB l:=by unfold sgn;split <;> omega
  rw[h1];exact Nat.lt_of_lt_of_le (xR hs (Nat.le_refl _)) (Nat.pow_le_pow_right aW hl)⟩
theorem ZQ.mono{q:Z2}{z:Int}{K L:Nat}(h:ZQ q z K)(hK:K≤L):ZQ q z L:=by
 obtain⟨n,k,h1,h2,h3⟩:=h.h;exact⟨⟨n,k,h1,h2,by omega⟩,Nat.lt_of_lt_of_le h.b (Nat.pow_le_pow_right aW hK)⟩
theorem ZQ.ra{q d:Z2}{z y:Int}{K L:Nat}(h:ZQ q z K)(k:ZQ d y L):Ra (q4A (q.1,q.2,d.1,d.2)) (qv z y) (max K L):=by
 exact⟨_,_,_,_,z,y,K,L,rfl,h.zi,k.zi,by omega,by omega,⟨h.b⟩,⟨k.b⟩,rfl⟩
structure MZ(l:List Z2)(zs:List Int)(K:Nat):Prop where
 len:l.length=zs.length
 z:∀(i:Nat) q z,l[i]? =some q→zs[i]? =some z→ZQ q z K
abbrev aed(r c:Nat)(l:List Z2):List Atom:=[.c (.val (.int .i64 (r:Int))),.c (.val (.int .i64 (c:Int))),.c (.sat (aA 2 z2C l))]
abbrev wS(r c:Nat)(l:List Int):List Atom:=[.c (.val (.int .i64 (r:Int))),.c (.val (.int .i64 (c:Int))),.c (.sat (aA 2 zC l))]
def zat(zs:List Int)(c i k:Nat):Int:=zs.getD (i*c+k) 0
theorem wL{zs:List Int}{r c i k:Nat}(hl:zs.length=r*c)(hi:i < r)(hk:k < c):zs[i*c+k]? =some (zat zs c i k):=by
 have h:=xC hi hk;unfold zat;rw[zq3,zq2 (by omega)];rfl
theorem MZ.at{r c i k K:Nat}{l:List Z2}{zs:List Int}(hM:MZ l zs K)(hl:l.length=r*c)(hi:i < r)(hk:k < c):∃q,l[i*c+k]? =some q∧ZQ q (zat zs c i k) K:=by
 have h:=xC hi hk;obtain⟨q,hq⟩:∃q,l[i*c+k]? =some q:=⟨_,zq2 (by omega)⟩
 exact⟨q,hq,hM.z _ _ _ hq (wL (by rw[←hM.len];exact hl) hi hk)⟩
theorem xk(r c:Nat)(l:List Int):wS r c l=aed r c (l.map z2v):=by
 have e:aA 2 zC l=aA 2 z2C (l.map z2v):=by
  show aM 2 l.length (l.flatMap zC)=aM 2 (l.map z2v).length ((l.map z2v).flatMap z2C);rw[zq5,List.flatMap_map]
 unfold wS aed;rw[e]
theorem MZ.made{zs:List Int}{K:Nat}(h:∀z∈zs,z.natAbs < WB ^ K):MZ (zs.map z2v) zs K:=by
 refine⟨zq5 _,fun i q z hq hz=>?_⟩
 rw[List.getElem?_map,hz]at hq
 cases hq;exact ZQ.made (h z (zq4 hz))
instance rG(n:Int):Con prog 360 [.v (.int .i64 n)] True (.v (.bool (decide (0≤n∧n≤64)))):=⟨fun _=>by
 refine ah.fnF func360 results360 ntmps360 rfl rfl rfl (by simp[AV.ids,AV0.ids,Atom.ids]) rfl (fun w0 T B E0 hB=>?_)
 by_cases h1:n≥0
 ·by_cases h2:n≤64
  ·refine SX.goM ?_;refine aJ ?_;rw[decide_eq_true (show 0≤n∧n≤64 from ⟨h1,h2⟩)];exact decide_eq_true h2
  ·refine SX.goM ?_;refine aJ ?_;rw[decide_eq_false (show¬(0≤n∧n≤64)from fun h=>h2 h.2)];exact decide_eq_false h2
 ·refine SX.goM ?_;refine aJ ?_;rw[decide_eq_false (show¬(0≤n∧n≤64)from fun h=>h1 h.1)]⟩
theorem ae9(r c:Int){n:Nat}{cells:List CA}(goal:Bool)(hg:goal=true↔mF r c n):ah prog 365 [.agg [.c (.val (.int .i64 r)),.c (.val (.int .i64 c)),.c (.sat (aM 2 n cells))]] (.v (.bool goal)):=by
 have s1:=(rG r).h trivial;have s2:=(rG c).h trivial;refine ah.fnF func365 results365 ntmps365 rfl rfl rfl (by simp[AV.ids,AV0.ids,Atom.ids]) rfl (fun w0 T B E0 hB=>?_)
 by_cases h1:0≤r∧r≤64
 ·rw[decide_eq_true h1]at s1;by_cases h2:0≤c∧c≤64
  ·rw[decide_eq_true h2]at s2;have hp:0≤r*c:=Int.mul_nonneg h1.1 h2.1;have hp2:r*c≤64*64:=Int.mul_le_mul h1.2 h2.2 h2.1 (by decide)
   refine SX.goM ?_;refine aJ ?_;rw[Bool.eq_iff_iff,hg,decide_eq_true_iff];exact⟨fun h=>⟨h1.1,h1.2,h2.1,h2.2,h⟩,fun h=>h.2.2.2.2⟩
  ·rw[decide_eq_false h2]at s2;refine SX.goM ?_;refine aJ ?_;exact(Bool.eq_false_iff.2 fun ht=>h2 ⟨(hg.1 ht).2.2.1,(hg.1 ht).2.2.2.1⟩).symm
 ·rw[decide_eq_false h1]at s1;refine SX.goM ?_;refine aJ ?_;exact(Bool.eq_false_iff.2 fun ht=>h1 ⟨(hg.1 ht).1,(hg.1 ht).2.1⟩).symm
theorem adM{r c:Int}{n:Nat}{cells:List CA}(h:mF r c n):ah prog 365 [.agg [.c (.val (.int .i64 r)),.c (.val (.int .i64 c)),.c (.sat (aM 2 n cells))]] (.v (.bool true)):=ae9 r c true ⟨fun _=>h,fun _=>rfl⟩
theorem mF.nat{r c n:Nat}(hr:r≤64)(hc:c≤64)(h:n=r*c):mF r c n:=⟨by omega,by omega,by omega,by omega,by rw[h];simp⟩
theorem ang{r c i k:Nat}{l:List Z2}{q:Z2}(hq:l[i*c+k]? =some q)(hi:i≤1000)(hc:c≤1000)(hk:k≤1000):
  ah prog 464 [.agg (aed r c l),.v (.int .i64 (i:Int)),.v (.int .i64 (k:Int))] (.agg (z2A q)):=by
 have hb:=Nat.mul_le_mul hi hc;have hlt:=kI hq;refine ah.fnF func464 results464 ntmps464 rfl rfl rfl (by simp[AV.ids,AV0.ids,Atom.ids]) rfl (fun w0 T B E0 hB=>?_)
 refine SX.goM ?_;exact mE (ak.fC rfl rfl rfl) rfl
theorem amG{r c i:Nat}{l:List Z2}(h:i < r):ah prog 463 [.agg (aed r c l),.v (.int .i64 (i:Int))] (.v (.bool true)):=by
 refine ah.fnF func463 results463 ntmps463 rfl rfl rfl (by simp[AV.ids,AV0.ids,Atom.ids]) rfl (fun w0 T B E0 hB=>?_)
 refine SX.goM ?_;refine aJ ?_;exact decide_eq_true (by omega)
theorem agJ{q:Z2}{z:Int}{K:Nat}(h:ZQ q z K)(hK:K≤1000000):ah prog 17 [.it (.one (.c (.sat q.2))),.v (.bool q.1)] (.agg (zN z)):=by
 obtain⟨n,k,h1,h2,h3⟩:=h.h;rw[h1];exact ac7 (h:=h2) q.1 |>.h (by omega)
theorem adu{r c i k:Nat}{l:List Z2}{zs:List Int}{K:Nat}(hM:MZ l zs K)(hl:l.length=r*c)(hr:r≤64)(hc:c≤64)(hi:i < r)(hk:k < c)(hK:K≤1000000):
  ah prog 375 [.agg (aed r c l),.v (.int .i64 (i:Int)),.v (.int .i64 (k:Int))] (.agg (zN (zat zs c i k))):=by
 obtain⟨q,hq,hz⟩:=hM.at hl hi hk;have cg:=ang (r:=r) hq (by omega) (by omega) (by omega)
 have ch:=amG (c:=c) (l:=l) hi;have cF:=adM (cells:=l.flatMap z2C) (mF.nat hr hc hl);have cR:=agJ hz hK;refine ah.fnF func375 results375 ntmps375 rfl rfl rfl (by simp[AV.ids,AV0.ids,Atom.ids]) rfl (fun w0 T B E0 hB=>?_)
 refine SX.goM ?_;exact mE (ak.fC rfl rfl rfl) rfl
def kH(c:Nat)(val:Nat→Nat→Int)(i:Nat):List Int:=(List.range i).flatMap fun i=>(List.range c).map (val i)
theorem alJ{c:Nat}{val:Nat→Nat→Int}:kH c val 0=[]:=rfl
theorem acz{c i:Nat}{val:Nat→Nat→Int}:kH c val (i+1)=kH c val i++(List.range c).map (val i):=by
 unfold kH;rw[List.range_succ,List.flatMap_append];simp
theorem vE{c:Nat}{val:Nat→Nat→Int}:∀i,(kH c val i).length=i*c
 |0=>by simp[alJ]
 |i+1=>by rw[acz,List.length_append,vE i];simp[Nat.succ_mul]
theorem aqF{c r K:Nat}{val:Nat→Nat→Int}(h:∀i k,i < r→k < c→(val i k).natAbs < WB ^ K):∀v∈kH c val r,v.natAbs < WB ^ K:=by
 intro v hv;unfold kH at hv;obtain⟨i,hi,hv⟩:=List.mem_flatMap.1 hv;obtain⟨k,hk,rfl⟩:=List.mem_map.1 hv;exact h i k (List.mem_range.1 hi) (List.mem_range.1 hk)
def abr(val:Nat→Nat→Int)(i k:Nat):List Int:=(List.range k).map (val i)
theorem ali{val:Nat→Nat→Int}{i k:Nat}:abr val i (k+1)=abr val i k++[val i k]:=by
 unfold abr;rw[List.range_succ,List.map_append];rfl
theorem akC(r c:Nat)(x:CA)(L:Nat→Nat→Z2)(val:Nat→Nat→Int)(K:Nat)(hr:r≤100)(hc:c≤100)(hK:K≤1000000)
  (hx:∀i k,i < r→k < c→FnV prog x [.v (.int .i64 (i:Int)),.v (.int .i64 (k:Int))] (.agg (z2A (L i k)))) (hL:∀i k,i < r→k < c→ZQ (L i k) (val i k) K) (hx1:x.dK=true):
  ah prog 361 [.v (.int .i64 (r:Int)),.v (.int .i64 (c:Int)),.it (.one (.c x))] (.agg (wS r c (kH c val r))):=by
 refine ah.fnF func361 results361 ntmps361 rfl rfl rfl (by simp[AV.ids,AV0.ids,Atom.ids]) rfl (fun w0 T B E0 hB=>?_)
 refine SX.goM ?_;refine W.loop (fun i=>i≤r) (fun i=>[(1,.v (.int .i64 (c:Int))),(2,.it (.one (.c x))),(6,.ptr 6 0),(7,.ptr 7 0),(14,.v (.int .i64 (r:Int))),(15,.v (.int .i64 (i:Int)))]) (fun i=>[(6,.box 281 [.c (.val (.int .i64 0)),.c (.val (.int .i64 0)),.c (.val (.slice none 0 0))]),(7,.box 281 [.c (.val (.int .i64 (r:Int))),.c (.val (.int .i64 (c:Int))),.own 100]),(100,.row 27 2 (i*c) ((kH c val i).flatMap zC))]) (fun i=>r - i) 0 (Nat.zero_le _) (fun i hi=>?_)
  (by
   refine SX.St.aY [(100,none)] (by intro b h;cases h) ?_ ?_ rfl
   ·repeat(first|exact trivial|refine⟨⟨_,rfl,SX.aG.same rfl⟩,?_⟩)
   ·exact⟨SX.ay.same rfl rfl,SX.ay.mh rfl rfl ⟨aD.same rfl,aD.same rfl,aD.nil rfl,trivial⟩,by rw[Nat.zero_mul];exact SX.ay.bV rfl,trivial⟩)
 by_cases h:i < r
 ·refine SX.goM ?_;refine W.loop (fun k=>k≤c) (fun k=>[(1,.v (.int .i64 (c:Int))),(2,.it (.one (.c x))),(6,.ptr 6 0),(7,.ptr 7 0),(8,.v (.int .i64 (i:Int))),(14,.v (.int .i64 (r:Int))),(15,.v (.int .i64 (i:Int))),(18,.v (.int .i64 (c:Int))),(19,.v (.int .i64 (k:Int)))]) (fun k=>[(6,.box 281 [.c (.val (.int .i64 0)),.c (.val (.int .i64 0)),.c (.val (.slice none 0 0))]),(7,.box 281 [.c (.val (.int .i64 (r:Int))),.c (.val (.int .i64 (c:Int))),.own 100]),(100,.row 27 2 (i*c+k) ((kH c val i++abr val i k).flatMap zC))]) (fun k=>c - k) 0 (Nat.zero_le _) (fun k hk=>?_)
   (by
    have e:Ent.row 27 2 (i*c) ((kH c val i).flatMap zC)=Ent.row 27 2 (i*c+0) ((kH c val i++abr val i 0).flatMap zC):=by simp[abr]
    refine SX.St.aY [] (by intro b h;cases h) ?_ ?_ rfl
    ·repeat(first|exact trivial|refine⟨⟨_,rfl,SX.aG.same rfl⟩,?_⟩)
    ·exact⟨SX.ay.same rfl rfl,SX.ay.same rfl rfl,SX.ay.eq rfl e rfl,trivial⟩)
  by_cases h2:k < c
  ·have hf:=hx i k h h2;have cR:=agJ (hL i k h h2) hK;have hlen:i*c+k≤20000:=by
    have:=Nat.mul_le_mul (show i≤100 by omega) hc
    omega
   refine SX.goM ?_;refine W.next (k+1) h2 (by omega) (by
    have e2:(kH c val i++abr val i k).flatMap zC++zC (val i k)=(kH c val i++abr val i (k+1)).flatMap zC:=by
     rw[ali,←List.append_assoc,List.flatMap_append (xs:=kH c val i++abr val i k)];simp
    refine SX.St.aY [(100,some 34)] (by intro b h;cases h) ?_ ?_ rfl
    ·repeat(first|exact trivial|refine⟨⟨_,rfl,SX.aG.same rfl⟩,?_⟩)
    ·exact⟨SX.ay.same rfl rfl,SX.ay.mh rfl rfl ⟨aD.same rfl,aD.same rfl,aD.own rfl,trivial⟩,SX.ay.row rfl rfl (by omega) e2,trivial⟩)
  ·obtain rfl:k=c:=by omega
   refine SX.goM ?_;refine W.next (i+1) h (by omega) (by
    have e2:Ent.row 27 2 (i*k+k) ((kH k val i++abr val i k).flatMap zC)=Ent.row 27 2 ((i+1)*k) ((kH k val (i+1)).flatMap zC):=by rw[Nat.succ_mul,acz];rfl
    refine SX.St.aY [] (by intro b h;cases h) ?_ ?_ rfl
    ·repeat(first|exact trivial|refine⟨⟨_,rfl,SX.aG.same rfl⟩,?_⟩)
    ·exact⟨SX.ay.same rfl rfl,SX.ay.same rfl rfl,SX.ay.eq rfl e2 rfl,trivial⟩)
 ·obtain rfl:i=r:=by omega
  refine SX.goM ?_;have hm:wS i c (kH c val i)=[.c (.val (.int .i64 (i:Int))),.c (.val (.int .i64 (c:Int))),.c (.sat (aM 2 (i*c) ((kH c val i).flatMap zC)))]:=by
   show [_,_,Atom.c (.sat (aM 2 (kH c val i).length _))]=_;rw[vE]
  rw[hm];refine aQ.frz 100 ?_;exact mE (ak.aZ rfl rfl rfl) rfl
theorem atj{z:Int}(h1: -9223372036854775808≤z)(h2:z≤9223372036854775807):z.natAbs < WB ^ 1:=by
 rw[Nat.pow_one,bB];omega
end
section
open Go.RowKit QM SX LA
section
section
attribute [local irreducible] IntKind.wrap Go1 Reg WP aS aT bR bO aQ aC ak aj aX Sat
attribute [local irreducible] bT bX bY dw bZ qv dR mf
theorem akN{r c i k:Nat}{l:List Z2}{zs:List Int}{K:Nat}{d:Z2}(hM:MZ l zs K)(hl:l.length=r*c)(hr:r≤64)(hc:c≤64)(hi:i < r)(hk:k < c)(hK:K≤1000000):
  ah prog 523 [.v (.int .i64 (i:Int)),.v (.int .i64 (k:Int)),.r (bJ [.val (.int .i64 (r:Int)),.val (.int .i64 (c:Int)),.sat (aA 2 z2C l)]),.r (bJ [.val (.bool d.1),.sat d.2])] (.agg (q4A ((z2v (zat zs c i k)).1,(z2v (zat zs c i k)).2,d.1,d.2))):=by
 have cA:=adu hM hl hr hc hi hk hK;refine ah.fnF func523 results523 ntmps523 rfl rfl rfl (by simp[AV.ids,AV0.ids,Atom.ids]) rfl (fun w0 T B E0 hB=>?_)
 refine SX.goM ?_;exact mE (ak.uD rfl rfl rfl) rfl
theorem anQ{r c:Nat}{l:List Z2}{zs:List Int}{K L:Nat}{d:Z2}{y:Int}(hM:MZ l zs K)(hl:l.length=r*c)(hr:r≤64)(hc:c≤64)(hd:ZQ d y L)(hy:y≠0)(hK:K≤10000)(hL:L≤10000)(hKL:K≤L):
  ah prog 452 [.agg (aed r c l),.agg (z2A d)] (.tup [.agg (als r c (kE c (fun i k=>qv (zat zs c i k) y) r)),eNo 0]):=by
 have cF:=adM (cells:=l.flatMap z2C) (mF.nat hr hc hl)
 haveI:=hd.zi
 have cS:=(lC (l:=z2A d) (x:=y)).h (by omega)
 have hs:¬aV y=0:=fun e=>hy ((aee y).1 e)
 have cM:=ae1 r c (.sat (dP 523 [] [.sat (bJ [.val (.int .i64 (r:Int)),.val (.int .i64 (c:Int)),.sat (aA 2 z2C l)]),.sat (bJ [.val (.bool d.1),.sat d.2])])) (fun i k=>((z2v (zat zs c i k)).1,(z2v (zat zs c i k)).2,d.1,d.2)) (fun i k=>qv (zat zs c i k) y) (max K L) (by omega) (by omega) (by omega)
  (fun i k hi hk=>FnV.clo (akN hM hl hr hc hi hk (by omega)))
  (fun i k hi hk=>by
   obtain⟨q,_,hz⟩:=hM.at hl hi hk;exact(ZQ.made hz.b).ra hd) rfl
 refine ah.fnF func452 results452 ntmps452 rfl rfl rfl (by simp[AV.ids,AV0.ids,Atom.ids]) rfl (fun w0 T B E0 hB=>?_)
 refine SX.goM ?_;refine SX.WP.eP 2 hB rfl rfl ?_;refine SX.WP.eP 3 hB rfl rfl ?_;refine SX.WP.aF ?_;refine SX.goM ?_;exact .ok (aC.mk2 (ak.aZ rfl rfl rfl) (ak.tmp rfl))
theorem zq1:ZQ (z2v 1) 1 1:=ZQ.made (by rw[Nat.pow_one,bB];decide)
theorem anE{r c:Nat}{l:List Z2}{zs:List Int}{K:Nat}(hM:MZ l zs K)(hl:l.length=r*c)(hr:r≤64)(hc:c≤64)(hK:K≤10000)(hK1:1≤K):
  ah prog 370 [.agg (aed r c l)] (.tup [.agg (als r c (kE c (fun i k=>qv (zat zs c i k) 1) r)),eNo 0]):=by
 have o1:=akH;have cO:=anQ hM hl hr hc (zq1.mono hK1) (by decide) hK hK (Nat.le_refl _)
 refine ah.fnF func370 results370 ntmps370 rfl rfl rfl (by simp[AV.ids,AV0.ids,Atom.ids]) rfl (fun w0 T B E0 hB=>?_)
 refine SX.goM ?_;exact .ok (aC.mk2 (ak.aZ rfl rfl rfl) (ak.tmp rfl))
end
end
section
def awV:List Rat:=kE 2 (fun i k=>qv (zat (kH 2 (zat [1,2,3,4] 2) 2) 2 i k) 1) 2
section
attribute [local irreducible] IntKind.wrap Go1 Reg WP aS aT bR bO aQ aC ak aj aX Sat
attribute [local irreducible] bT bX bY dw bZ qv dR mf awV
end
end
end
end Go.Proofs.YtegehclknhmkgaaGreatDoor