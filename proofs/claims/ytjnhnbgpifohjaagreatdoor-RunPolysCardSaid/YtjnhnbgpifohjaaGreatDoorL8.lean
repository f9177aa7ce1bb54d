import Derived.Test.YtjnhnbgpifohjaaGreatDoorL7
import Derived.Test.YtjnhnbgpifohjaaGreatDoorL5
set_option linter.unusedVariables false
set_option linter.unusedSimpArgs false
open Go.Proofs.Tryz
namespace Go.Proofs.YtjnhnbgpifohjaaGreatDoor
open Go.RowKit QM SX
section
attribute [local irreducible] IntKind.wrap Go1 Reg WP aO aR bM bK aN aD aj ak aX Sat
attribute [local irreducible] bO bX bV cK bW qv
section
theorem qv_lt{n d m e:Int}(hd:0 < d)(he:0 < e):(qv n d < qv m e↔n*e < m*d)/\(qv n d=qv m e↔n*e=m*d):=by
 have hd':(0:Rat) < d:=by rw[show (0:Rat)=((0:Int):Rat)from rfl];exact Rat.intCast_lt_intCast.2 hd
 have he':(0:Rat) < e:=by rw[show (0:Rat)=((0:Int):Rat)from rfl];exact Rat.intCast_lt_intCast.2 he
 have en:(n:Rat)=qv n d*d:=by unfold qv;grind
 have em:(m:Rat)=qv m e*e:=by unfold qv;grind
 have hde:=Rat.mul_pos hd' he';constructor
 ·rw[<-Rat.intCast_lt_intCast (a:=n*e),Rat.intCast_mul,Rat.intCast_mul,en,em];generalize qv n d=v at*;generalize qv m e=u at*;constructor
  ·intro h;have:=Rat.mul_pos (show 0 < u - v by grind) hde
   grind
  ·intro h;exact Decidable.byContradiction fun hn=>by
    have:=Rat.mul_nonneg (show 0<=v - u by grind) (show (0:Rat)<=(d:Rat)*e by grind)
    grind
 ·rw[<-Rat.intCast_inj (a:=n*e),Rat.intCast_mul,Rat.intCast_mul,en,em];generalize qv n d=v at*;generalize qv m e=u at*;constructor
  ·intro h;rw[h];grind
  ·intro h;have h0:(v - u)*((d:Rat)*e)=0:=by grind
   rcases Rat.mul_eq_zero.1 h0 with h1|h1
   ·grind
   ·rw[h1]at hde;grind
attribute [local irreducible] bI ab6 sgn
end
section
theorem Rd.uniq{p q r s:Int}(h1:0 < q)(g1:Int.gcd p q=1)(h2:0 < s)(g2:Int.gcd r s=1)(hv:qv p q=qv r s):p=r/\q=s:=by
 have he:=(qv_lt (n:=p) (m:=r) h1 h2).2.1 hv;have d1:q ∣ s:=by
  have:q ∣ p*s:=⟨r,by rw[he,Int.mul_comm]⟩
  exact Int.natAbs_dvd_natAbs.1 (Nat.Coprime.dvd_of_dvd_mul_left (show Nat.gcd q.natAbs p.natAbs=1 by rw[Nat.gcd_comm];exact g1) (by rw[<-zve];exact Int.natAbs_dvd_natAbs.2 this))
 have d2:s ∣ q:=by
  have:s ∣ r*q:=⟨p,by rw[<-he,Int.mul_comm]⟩
  exact Int.natAbs_dvd_natAbs.1 (Nat.Coprime.dvd_of_dvd_mul_left (show Nat.gcd s.natAbs r.natAbs=1 by rw[Nat.gcd_comm];exact g2) (by rw[<-zve];exact Int.natAbs_dvd_natAbs.2 this))
 have e:q=s:=Int.dvd_antisymm zE zE d1 d2
 subst e;exact⟨Int.eq_of_mul_eq_mul_right zE he,rfl⟩
attribute [local irreducible] ae2 afb sgn bI
section
variable{x0 x1 x2 x3:Atom}{p q:Int}{k m:Nat}
end
end
end
section
attribute [local irreducible] bO bX bV cK bW
abbrev qC(v:Rat):List CA:=[.val (.bool (decide (v.num < 0))),.sat (bN v.num.natAbs),.val (.bool (decide ((v.den:Int) < 0))),.sat (bN (v.den:Int).natAbs)]
abbrev qA(v:Rat):List Atom:=[.c (.val (.bool (decide (v.num < 0)))),.c (.sat (bN v.num.natAbs)),.c (.val (.bool (decide ((v.den:Int) < 0)))),.c (.sat (bN (v.den:Int).natAbs))]
theorem vG(v:Rat):(v.den:Int)≠0:=by have:=v.den_nz;omega
theorem ku(v:Rat):qv v.num v.den=v:=by
 unfold qv;rw[<-Rat.divInt_eq_div];exact Rat.num_divInt_den v
theorem asD{p q:Int}{v:Rat}(hq:q≠0)(h:qv p q=v):v.num*q=p*v.den:=by
 have h2:=ku v;have d1:=c0 hq;have d2:=c0 (vG v);unfold qv at h h2;apply Rat.intCast_inj.1
 rw[Rat.intCast_mul,Rat.intCast_mul];generalize ((v.den:Int):Rat)=d at*;generalize ((v.num:Int):Rat)=n at*;generalize (p:Rat)=a at*;generalize (q:Rat)=b at*;subst h2
 grind
theorem ahA{p q:Int}{v:Rat}(hq:q≠0)(h:qv p q=v):∃c:Int,q=c*v.den/\p=c*v.num:=by
 have hx:=asD hq h;have hc:Nat.Coprime v.num.natAbs v.den:=v.reduced;have hd:(v.den:Int) ∣ v.num*q:=⟨p,by rw[hx];exact Int.mul_comm _ _⟩
 have hd2:v.den ∣ q.natAbs:=by
  have h1:v.den ∣ (v.num*q).natAbs:=zxa v.den▸(Int.natAbs_dvd_natAbs.2 hd);rw[zve]at h1;exact hc.symm.dvd_of_dvd_mul_left h1
 obtain⟨c,hcq⟩:(v.den:Int) ∣ q:=Int.natAbs_dvd_natAbs.1 (by rw[zxa];exact hd2)
 refine⟨c,by rw[hcq];exact Int.mul_comm _ _,?_⟩
 rw[hcq]at hx;have h0:=vG v;have:(v.den:Int)*(v.num*c)=(v.den:Int)*p:=by grind
 have:=Int.eq_of_mul_eq_mul_left h0 this
 grind
structure RB(v:Rat)(K:Nat):Prop where
 n:v.num.natAbs < WB ^ K
 d:v.den < WB ^ K
theorem RB.of{p q:Int}{v:Rat}{K:Nat}(hq:q≠0)(h:qv p q=v)(h1:p.natAbs < WB ^ K)(h2:q.natAbs < WB ^ K):RB v K:=by
 obtain⟨c,e1,e2⟩:=ahA hq h;have hc:1<=c.natAbs:=by
  rcases zye c.natAbs with h|h
  ·have:c=0:=zE
   subst this;rw[Int.zero_mul]at e1;exact absurd e1 hq
  ·exact h
 have a1:q.natAbs=c.natAbs*v.den:=by rw[e1,zve,zxa]
 have a2:p.natAbs=c.natAbs*v.num.natAbs:=by rw[e2,zve]
 have b1:=zx1 v.den hc;have b2:=zx1 v.num.natAbs hc;exact⟨zE,zE⟩
theorem atK(K:Nat):1<=WB ^ K:=Nat.pow_pos aZ
theorem jk{a b K L:Nat}(h1:a < WB ^ K)(h2:b < WB ^ L):a*b < WB ^ (K+L):=by
 rw[zw5];have:=zxd (show a<=WB ^ K - 1 by omega) (show b<=WB ^ L - 1 by omega)
 have p1:=atK K;have p2:=atK L;refine zxb this ?_;have h3:(WB ^ K - 1)*(WB ^ L - 1)<=(WB ^ K - 1)*WB ^ L:=zx8 _ (Nat.sub_le _ _);have h4:(WB ^ K - 1)*WB ^ L < WB ^ K*WB ^ L:=(Nat.mul_lt_mul_right zE).2 zE
 omega
theorem aga(K:Nat):2*WB ^ K<=WB ^ (K+1):=by
 rw[zyf,zxj];exact zx8 _ (by rw[bJ];decide)
theorem RB.mul{u v:Rat}{K L:Nat}(h:RB u K)(k:RB v L):RB (u*v) (K+L):=by
 refine RB.of (p:=u.num*v.num) (q:=u.den*v.den) (Int.mul_ne_zero (vG u) (vG v)) ?_ ?_ ?_
 ·rw[asS,ku,ku]
 ·rw[zve];exact jk h.n k.n
 ·rw[zve,zxa,zxa];exact jk h.d k.d
theorem RB.zero{K:Nat}(hK:1<=K):RB 0 K:=by
 have h:WB ^ 1<=WB ^ K:=zx2 aZ hK;rw[zxh]at h;have:=bJ;exact⟨by show (0:Nat) < _;omega,by show (1:Nat) < _;omega⟩
theorem RB.div{u v:Rat}{K L:Nat}(h:RB u K)(k:RB v L)(hv:v≠0):RB (u / v) (K+L):=by
 have hn:v.num≠0:=fun e=>hv (Rat.num_eq_zero.1 e)
 refine RB.of (p:=u.num*v.den) (q:=u.den*v.num) (Int.mul_ne_zero (vG u) hn) ?_ ?_ ?_
 ·rw[aqU,ku,ku]
 ·rw[zve,zxa];exact jk h.n k.d
 ·rw[zve,zxa];exact jk h.d k.n
theorem RB.ra{v:Rat}{K:Nat}(h:RB v K):Ra (qA v) v K:=
 ⟨_,_,_,_,v.num,(v.den:Int),K,K,rfl,(haveI:Bd v.num K:=⟨h.n⟩;inferInstance),(haveI:Bd (v.den:Int) K:=⟨by rw[zxa];exact h.d⟩;inferInstance),zq6 _,zq6 _,⟨h.n⟩,⟨by rw[zxa];exact h.d⟩,ku v⟩
theorem Rd.nf{X:Int×Int}{v:Rat}{K:Nat}(h:Rd X v K):X=(v.num,(v.den:Int)):=by
 obtain⟨p,q⟩:=X;have hq:q≠0:=by have:=h.d;dsimp only at this;omega
 obtain⟨c,e1,e2⟩:=ahA hq (show qv p q=v from h.v)
 have hg:Int.gcd p q=1:=h.g;have hc1:c.natAbs ∣ Int.gcd p q:=Nat.dvd_gcd (by rw[e2,zve];exact Nat.dvd_mul_right _ _) (by rw[e1,zve];exact Nat.dvd_mul_right _ _)
 rw[hg]at hc1;have hca:c.natAbs=1:=Nat.dvd_one.1 hc1;have hpos:0 < q:=h.d;have hden:0 < (v.den:Int):=by have:=v.den_nz;omega
 have hc:c=1:=by
  rcases Int.natAbs_eq_iff.1 hca with h|h
  ·exact h
  ·subst h;rw[e1]at hpos;simp at hpos;omega
 subst hc;rw[Int.one_mul]at e1 e2;rw[e1,e2]
section
variable{l l':List Atom}{v v':Rat}{K K':Nat}
instance con_qAdd[a:Ra l v K][b:Ra l' v' K']:Con prog 40 [.agg l,.agg l'] (K+K'<=1000000) (.agg (qA (v+v'))):=⟨fun h=>by
 obtain⟨X,c,r⟩:=eAdd l l' h;rw[r.nf]at c;exact c⟩
instance aqy[a:Ra l v K][b:Ra l' v' K']:Con prog 53 [.agg l,.agg l'] (K+K'<=1000000) (.agg (qA (v*v'))):=⟨fun h=>by
 obtain⟨X,c,r⟩:=eMul l l' h;rw[r.nf]at c;exact c⟩
instance ahj[a:Ra l v K][b:Ra l' v' K']:Con prog 15 [.agg l,.agg l'] (K+K'<=1000000) (.tup [.agg (qA (v / v')),.one (.c (.val (.bool (decide (v'≠0)))))]):=⟨fun h=>by
 obtain⟨X,ok,c,r,ho⟩:=eQuo l l' h;have e:ok=decide (v'≠0):=by
  cases ok with
  |true=>exact(decide_eq_true (ho.1 rfl)).symm
  |false=>exact(decide_eq_false fun hn=>by have:=ho.2 hn;cases this).symm
 rw[r.nf,e]at c;exact c⟩
end
end
section
attribute [local irreducible] IntKind.wrap Go1 Reg WP aO aR bM bK aN aD aj ak aX Sat
attribute [local irreducible] bO bX bV cK bW qv
instance ayR:Con prog 47 [] True (.agg (qA 0)):=⟨fun _=>by
 refine ah.fq func47 results47 ntmps47 fun _ _ _ _ _=>?_
 refine zg ?_;exact nM aj.xu rfl⟩
def tkL(r s:List Rat)(f:Rat)(k:Nat):List Rat:=(List.zipWith (fun a b=>a - f*b) (r.take k) (s.take k))++r.drop k
def nI(c:Nat)(val:Nat->Nat->Rat)(i:Nat):List Rat:=(List.range i).flatMap fun i=>(List.range c).map (val i)
theorem apq{c:Nat}{val:Nat->Nat->Rat}:nI c val 0=[]:=rfl
theorem aa8{c i:Nat}{val:Nat->Nat->Rat}:nI c val (i+1)=nI c val i++(List.range c).map (val i):=by
 unfold nI;rw[List.range_succ,zvc];simp
theorem oV{c:Nat}{val:Nat->Nat->Rat}:∀i,(nI c val i).length=i*c
 |0=>by simp[apq]
 |i+1=>by rw[aa8,zqi,oV i];simp[zv8]
def aex(val:Nat->Nat->Rat)(i k:Nat):List Rat:=(List.range k).map (val i)
theorem aol{val:Nat->Nat->Rat}{i k:Nat}:aex val i (k+1)=aex val i k++[val i k]:=by
 unfold aex;rw[List.range_succ,List.map_append];rfl
abbrev Q4:=Bool×Rep×Bool×Rep
abbrev q4A(q:Q4):List Atom:=[.c (.val (.bool q.1)),.c (.sat q.2.1),.c (.val (.bool q.2.2.1)),.c (.sat q.2.2.2)]
abbrev aom(r c:Nat)(l:List Rat):List Atom:=[.c (.val (.int .i64 (r:Int))),.c (.val (.int .i64 (c:Int))),.c (.sat (aA 4 qC l))]
theorem ahC(r c:Nat)(x:CA)(L:Nat->Nat->Q4)(val:Nat->Nat->Rat)(K:Nat)(hr:r<=100)(hc:c<=100)(hK:K+1<=1000000)
  (hx:∀i k,i < r->k < c->FnV prog x [.v (.int .i64 (i:Int)),.v (.int .i64 (k:Int))] (.agg (q4A (L i k)))) (hL:∀i k,i < r->k < c->Ra (q4A (L i k)) (val i k) K) (hx1:x.eY=true):
  ah prog 41 [.v (.int .i64 (r:Int)),.v (.int .i64 (c:Int)),.it (.one (.c x))] (.agg (aom r c (nI c val r))):=by
 have iz:Ra (qA 0) 0 1:=(RB.zero (zq6 1)).ra;refine ah.fq func41 results41 ntmps41 fun _ _ _ _ _=>?_
 refine zg ?_;refine W.loop (fun i=>i<=r) (fun i=>[(1,.v (.int .i64 (c:Int))),(2,.it (.one (.c x))),(6,.ptr 6 0),(7,.ptr 7 0),(13,.v (.int .i64 (r:Int))),(14,.v (.int .i64 (i:Int)))]) (fun i=>[(6,.box 24 [.c (.val (.int .i64 0)),.c (.val (.int .i64 0)),.c (.val (.slice none 0 0))]),(7,.box 24 [.c (.val (.int .i64 (r:Int))),.c (.val (.int .i64 (c:Int))),.own 100]),(100,.row 33 4 (i*c) ((nI c val i).flatMap qC))]) (fun i=>r - i) 0 (zq8 _) (fun i hi=>?_)
  (by
   refine St.aW [(100,none)] zt ?_ ?_ rfl
   ·exact ya
   ·exact⟨ay.same rfl rfl,ay.jZ rfl rfl ⟨aC.same rfl,aC.same rfl,aC.nil rfl,trivial⟩,by rw[zw3];exact ay.dO rfl,trivial⟩)
 by_cases h:i < r
 ·refine zg ?_;refine W.loop (fun k=>k<=c) (fun k=>[(1,.v (.int .i64 (c:Int))),(2,.it (.one (.c x))),(6,.ptr 6 0),(7,.ptr 7 0),(8,.v (.int .i64 (i:Int))),(13,.v (.int .i64 (r:Int))),(14,.v (.int .i64 (i:Int))),(17,.v (.int .i64 (c:Int))),(18,.v (.int .i64 (k:Int)))]) (fun k=>[(6,.box 24 [.c (.val (.int .i64 0)),.c (.val (.int .i64 0)),.c (.val (.slice none 0 0))]),(7,.box 24 [.c (.val (.int .i64 (r:Int))),.c (.val (.int .i64 (c:Int))),.own 100]),(100,.row 33 4 (i*c+k) ((nI c val i++aex val i k).flatMap qC))]) (fun k=>c - k) 0 (zq8 _) (fun k hk=>?_)
   (by
    have e:Ent.row 33 4 (i*c) ((nI c val i).flatMap qC)=Ent.row 33 4 (i*c+0) ((nI c val i++aex val i 0).flatMap qC):=by simp[aex]
    refine St.aW [] zt ?_ ?_ rfl
    ·exact ya
    ·exact⟨ay.same rfl rfl,ay.same rfl rfl,ay.eq rfl e rfl,trivial⟩)
  by_cases h2:k < c
  ·have hf:=hx i k h h2;have ir:=hL i k h h2;have hlen:i*c+k<=20000:=by
    have:=zxd (show i<=100 by omega) hc
    omega
   refine zg ?_;refine W.next (k+1) h2 zE (by
    have e2:(nI c val i++aex val i k).flatMap qC++qC (val i k+0)=(nI c val i++aex val i (k+1)).flatMap qC:=by
     rw[Rat.add_zero,aol,<-zqj,zvc (xs:=nI c val i++aex val i k)];simp
    refine St.aW [(100,some 30)] zt ?_ ?_ rfl
    ·exact ya
    ·exact⟨ay.same rfl rfl,ay.jZ rfl rfl ⟨aC.same rfl,aC.same rfl,aC.own rfl,trivial⟩,ay.row rfl rfl zE e2,trivial⟩)
  ·obtain rfl:k=c:=zE
   refine zg ?_;refine W.next (i+1) h zE (by
    have e2:Ent.row 33 4 (i*k+k) ((nI k val i++aex val i k).flatMap qC)=Ent.row 33 4 ((i+1)*k) ((nI k val (i+1)).flatMap qC):=by rw[zv8,aa8];rfl
    refine St.aW [] zt ?_ ?_ rfl
    ·exact ya
    ·exact⟨ay.same rfl rfl,ay.same rfl rfl,ay.eq rfl e2 rfl,trivial⟩)
 ·obtain rfl:i=r:=zE
  refine zg ?_;have hm:aom i c (nI c val i)=[.c (.val (.int .i64 (i:Int))),.c (.val (.int .i64 (c:Int))),.c (.sat (aQ 4 (i*c) ((nI c val i).flatMap qC)))]:=by
   show [_,_,Atom.c (.sat (aQ 4 (nI c val i).length _))]=_;rw[oV]
  rw[hm];refine aN.frz 100 ?_;exact nM aj.bG rfl
abbrev q4C(q:Q4):List CA:=[.val (.bool q.1),.sat q.2.1,.val (.bool q.2.2.1),.sat q.2.2.2]
instance:fF q4C 4:=⟨fun _=>rfl⟩
abbrev zH(r c:Nat)(l:List Q4):List Atom:=[.c (.val (.int .i64 (r:Int))),.c (.val (.int .i64 (c:Int))),.c (.sat (aA 4 q4C l))]
structure MV(l:List Q4)(vs:List Rat)(K:Nat):Prop where
 len:l.length=vs.length
 ra:∀(i:Nat) q v,l[i]? =some q->vs[i]? =some v->Ra (q4A q) v K
instance adl(r c:Int){n:Nat}{cells:List CA}:Con prog 39 [.agg [.c (.val (.int .i64 r)),.c (.val (.int .i64 c)),.c (.sat (aQ 4 n cells))]] True (.v (.bool (decide (0<=r/\r<=64/\0<=c/\c<=64/\(n:Int)=r*c)))):=⟨fun _=>by
 refine ah.fq func39 results39 ntmps39 fun _ _ _ _ _=>?_
 by_cases h1:r≥0
 ·by_cases h2:r<=64
  ·by_cases h3:c≥0
   ·by_cases h4:c<=64
    ·have hp:0<=r*c:=Int.mul_nonneg h1 h3;have hp2:r*c<=64*64:=Int.mul_le_mul h2 h4 h3 zc
     refine zg ?_;refine bg ?_;rw[decide_eq_decide];exact⟨fun h=>⟨h1,h2,h3,h4,h⟩,fun h=>h.2.2.2.2⟩
    ·refine zg ?_;refine bg ?_;exact(decide_eq_false fun h=>h4 h.2.2.2.1).symm
   ·refine zg ?_;refine bg ?_;exact(decide_eq_false fun h=>h3 h.2.2.1).symm
  ·refine zg ?_;refine bg ?_;exact(decide_eq_false fun h=>h2 h.2.1).symm
 ·refine zg ?_;refine bg ?_;exact(decide_eq_false fun h=>h1 h.1).symm⟩
theorem auL{r c i k:Nat}{l:List Q4}{q:Q4}(hq:l[i*c+k]? =some q)(hi:i<=100)(hc:c<=100)(hk:k<=100):
  ah prog 43 [.agg (zH r c l),.v (.int .i64 (i:Int)),.v (.int .i64 (k:Int))] (.agg (q4A q)):=by
 have hb:=zxd hi hc;have hlt:i*c+k < l.length:=by
  rcases zyd (i*c+k) l.length with h|h
  ·exact h
  ·rw[zqe h]at hq;cases hq
 refine ah.fq func43 results43 ntmps43 fun _ _ _ _ _=>?_
 refine zg ?_;exact nM aj.xu rfl
def piC(n:Nat):List CA:=[.val (.int .i64 (n:Int))]
abbrev PivE(ps:List Nat):Ent:= .row 3 1 ps.length (ps.flatMap piC)
abbrev ab9(r c:Nat)(x:Rep):List Atom:=[.c (.val (.int .i64 (r:Int))),.c (.val (.int .i64 (c:Int))),.c (.sat x)]
def fi{α:Type}(p:α->Bool):List α->Nat->Int
 |[],_=> -1
 |a::l,k=>if p a then(k:Int)else fi p l (k+1)
theorem wK{α:Type}{p:α->Bool}{l:List α}{k:Nat}{a:α}(h:l[k]? =some a):fi p (l.drop k) k=if p a then(k:Int)else fi p (l.drop (k+1)) (k+1):=by
 have hk:k < l.length:=by
  rcases zyd k l.length with h2|h2
  ·exact h2
  ·rw[zqe h2]at h;cases h
 rw[zy4 hk];rw[zyh hk]at h
 rw[zy7 h];rfl
def nz(col:Nat)(r:List Rat):Bool:=decide (r.getD col 0≠0)
def mlL(s:List Rat)(f:Rat)(k:Nat):List Rat:=(s.take k).map (· *f)++s.drop k
def asA(M:List (List Rat))(top col:Nat):Int:=fi (nz col) (M.drop top) 0
def sw{α:Type}(l:List α)(i j:Nat):List α:=match l[i]?,l[j]? with|some a,some b=>(l.set i b).set j a|_,_=>l
def avZ(M:List (List Rat))(top i col:Nat):List Rat:=let s:=(sw M top (top+i)).getD top [];mlL s (1 / s.getD col 0) s.length
def colR(by_:List Rat)(col:Nat)(r:List Rat):List Rat:=tkL r by_ (r.getD col 0) r.length
def colM(M:List (List Rat))(top col:Nat):List (List Rat):=if asA M top col < 0 then M else
 ((sw M top (top+(asA M top col).toNat)).map (colR (avZ M top (asA M top col).toNat col) col)).set top (avZ M top (asA M top col).toNat col)
def colP(M:List (List Rat))(ps:List Nat)(col:Nat):List Nat:=if asA M ps.length col < 0 then ps else ps++[col]
theorem am5{α:Type}{p:α->Bool}:∀(l:List α) (k:Nat),¬fi p l k < 0->∃i a,fi p l k=((k+i:Nat):Int)/\l[i]? =some a/\p a=true
 |[],k,h=>absurd (show (-1:Int) < 0 by decide) h
 |a::l,k,h=>by
  unfold fi at h ⊢;cases hp:p a with
  |true=>exact⟨0,a,by simp,rfl,hp⟩
  |false=>
   rw[hp]at h;obtain⟨i,b,h1,h2,h3⟩:=am5 l (k+1) h;exact⟨i+1,b,by rw[if_neg zc,h1];congr 1;omega,h2,h3⟩
theorem aqu{js:List Nat}(h:js.Nodup){i k a b:Nat}(hi:js[i]? =some a)(hk:js[k]? =some b)(hne:i≠k):a≠b:=by
 rintro rfl;have hil:i < js.length:=by
  rcases zyd i js.length with h|h
  ·exact h
  ·rw[zqe h]at hi;cases hi
 exact hne ((List.getElem?_inj hil h).1 (hi.trans hk.symm))
theorem ah1{α β:Type}(g:α->β)(l:List α)(i:Nat)(a:α):(l.map g).set i (g a)=(l.set i a).map g:=by rw[List.map_set]
theorem axM{α β:Type}(g:α->β){l:List α}{i j:Nat}{a b:α}(ha:l[i]? =some a)(hb:l[j]? =some b):sw (l.map g) i j=((l.set i b).set j a).map g:=by
 unfold sw;rw[zqa,zqa,ha,hb]
 show ((l.map g).set i (g b)).set j (g a)=_;rw[ah1,ah1]
theorem atD{js:List Nat}{t u ja jb:Nat}(hnd:js.Nodup)(ha:js[t]? =some ja)(hb:js[u]? =some jb):((js.set t jb).set u ja).Nodup:=by
 have htl:t < js.length:=by
  rcases zyd t js.length with h|h
  ·exact h
  ·rw[zqe h]at ha;cases ha
 have hul:u < js.length:=by
  rcases zyd u js.length with h|h
  ·exact h
  ·rw[zqe h]at hb;cases hb
 show List.Pairwise (· ≠ ·) _;rw[List.pairwise_iff_getElem];intro x y hx hy hxy e0;have e:=(zyh hx).trans ((congrArg some e0).trans (zyh hy).symm)
 rw[zvf,zvf]at hx hy;have key:∀z,z < js.length->((js.set t jb).set u ja)[z]? =js[if z=u then t else if z=t then u else z]? :=by
  intro z hz;rw[zv2,zv2]
  by_cases h1:u=z
  ·rw[if_pos h1,if_pos h1.symm,if_pos (by rw[zvf];exact hul),ha]
  ·have h1':¬z=u:=fun e=>h1 e.symm
   rw[if_neg h1,if_neg h1'];by_cases h2:t=z
   ·rw[if_pos h2,if_pos h2.symm,if_pos htl,hb]
   ·have h2':¬z=t:=fun e=>h2 e.symm
    rw[if_neg h2,if_neg h2']
 rw[key x zE,key y zE]at e
 have hz:(if x=u then t else if x=t then u else x) < js.length:=by
  split
  ·exact htl
  ·split
   ·exact hul
   ·omega
 have:=(List.getElem?_inj hz hnd).1 e
 revert this
 repeat' split
 all_goals omega
def dH:Nat->Nat->List (List Rat)->List Nat->List (List Rat)×List Nat
 |0,_,M,ps=>(M,ps)
 |n+1,col,M,ps=>if ps.length < M.length then dH n (col+1) (colM M ps.length col) (colP M ps col)else(M,ps)
def kb(K:Nat):Nat->Nat
 |0=>K
 |n+1=>kb (4*K+2) n
theorem awN{α:Type}{l:List α}{i j:Nat}{x:α}(h:x∈sw l i j):x∈l:=by
 unfold sw at h
 split at h
 ·rename_i a b ha hb;rcases List.mem_or_eq_of_mem_set h with h|h
  ·rcases List.mem_or_eq_of_mem_set h with h|h
   ·exact h
   ·rw[h];exact zq4 hb
  ·rw[h];exact zq4 ha
 ·exact h
theorem axi{α:Type}{l:List α}{i j:Nat}:(sw l i j).length=l.length:=by
 unfold sw
 split
 ·rw[zvf,zvf]
 ·rfl
theorem aec{α:Type}{l:List α}{i:Nat}{d:α}(h:i < l.length):l.getD i d∈l:=by
 rw[zx7,zyh h];exact List.getElem_mem h
structure RdS where
 col:Nat
 M:List (List Rat)
 ps:List Nat
end
section
theorem weakArgs{P:Program}{f:FuncId}{args args':List AV}{r:AV}(h:ah P f args' r)(hi:∀E S w vs,aK (AV.has E S w) args vs->aK (AV.has E S w) args' vs):ah P f args r:=
 ⟨h.1,fun E S w vs hl hg hv a b c=>h.2 E S w vs hl hg (hi E S w vs hv) a b c⟩
attribute [local irreducible] IntKind.wrap Go1 Reg WP aO aR bM bK aN aD aj ak aX Sat
attribute [local irreducible] bO bX bV cK bW qv
abbrev q4v(v:Rat):Q4:=(decide (v.num < 0),bN v.num.natAbs,decide ((v.den:Int) < 0),bN (v.den:Int).natAbs)
theorem abO{α:Type}{enc:α->List CA}{size:Nat}{S:Nat->Prop}{w:World}:(aA size enc ([]:List α)).has S w (.slice none 0 0):=
 dh.2 ⟨none,0,rfl,zq6 _,zq8 _,fun _=>rfl,by simp,fun i c h=>by simp at h⟩
end
end Go.Proofs.YtjnhnbgpifohjaaGreatDoor
namespace LA
def sm:Nat->(Nat->Rat)->Rat
 |0,_=>0
 |n+1,f=>sm n f+f n
def Sp(n W:Nat)(m:Nat->Nat->Rat)(v:Nat->Rat):Prop:=∃c:Nat->Rat,∀k,k < W->v k=sm n (fun r=>c r*m r k)
structure Eqv(n n' W:Nat)(m m':Nat->Nat->Rat):Prop where
 fwd:∀r,r < n'->Sp n W m (m' r)
 back:∀r,r < n->Sp n' W m' (m r)
structure Rref(n w:Nat)(m:Nat->Nat->Rat)(ps:List Nat):Prop where
 len:ps.length<=n
 inc:ps.Pairwise (· < ·)
 lt:∀p∈ps,p < w
 one:∀i p,ps[i]? =some p->∀r,r < n->m r p=if r=i then 1 else 0
 low:∀i p,ps[i]? =some p->∀k,k < p->m i k=0
 zero:∀r,ps.length<=r->r < n->∀k,k < w->m r k=0
end LA
namespace Go.Proofs.YtjnhnbgpifohjaaGreatDoor
section
open LA
def mf(M:List (List Rat))(r k:Nat):Rat:=(M.getD r []).getD k 0
theorem alI{α:Type}{p:α->Bool}:∀{l:List α} {k:Nat},fi p l k < 0->∀a∈l,p a=false
 |[],k,_,a,h=>by cases h
 |b::l,k,h,a,ha=>by
  unfold fi at h;cases hp:p b with
  |true=>rw[hp]at h;simp at h;omega
  |false=>
   rw[hp]at h;rcases zy3.1 ha with rfl|ha
   ·exact hp
   ·exact alI (k:=k+1) (by simpa using h) a ha
structure ColS(n W:Nat)(m m':Nat->Nat->Rat)(top i col:Nat):Prop where
 hi:top<=i/\i < n
 ne:m i col≠0
 at_:∀r,r < n->∀k,k < W->m' r k=if r=top then m i k / m i col else(if r=i then m top k else m r k) - (if r=i then m top col else m r col)*(m i k / m i col)
section
section
variable{r c d:Nat}{va vb:Nat->Nat->Rat}
end
end
end
open Go.RowKit QM SX
attribute [local irreducible] IntKind.wrap Go1 Reg WP aO aR bM bK aN aD aj ak aX Sat
section
open Go.RowKit QM SX
attribute [local irreducible] bO bX bV cK bW qv mf
attribute [local irreducible] dH
theorem Ra.rb{l:List Atom}{v:Rat}{K:Nat}(h:Ra l v K)(hK:1<=K):RB v K:=by
 obtain⟨x0,x1,x2,x3,p,q,k,m,_,_,_,h1,h2,h3,h4,h5⟩:=h.h;by_cases hq:q=0
 ·subst hq;have:v=0:=by rw[<-h5];unfold qv;grind
  rw[this];exact RB.zero hK
 ·exact RB.of hq h5 (zqf h3.h (zx2 aZ h1)) (zqf h4.h (zx2 aZ h2))
def vat(vs:List Rat)(c i k:Nat):Rat:=vs.getD (i*c+k) 0
theorem ac3{r c i k:Nat}(hi:i < r)(hk:k < c):i*c+k < r*c:=by
 have:=zx1 c (show i+1<=r from hi)
 rw[zv8]at this;omega
theorem aqa{vs:List Rat}{r c i k:Nat}(hl:vs.length=r*c)(hi:i < r)(hk:k < c):vs[i*c+k]? =some (vat vs c i k):=by
 have h:=ac3 hi hk;unfold vat;rw[zx7,zyh zE];rfl
theorem MV.rb{l:List Q4}{vs:List Rat}{K:Nat}(h:MV l vs K)(hK:1<=K):∀v∈vs,RB v K:=by
 intro v hv;obtain⟨i,hi⟩:=List.mem_iff_getElem?.1 hv;have hlt:i < vs.length:=by
  rcases zyd i vs.length with h|h
  ·exact h
  ·rw[zqe h]at hi;cases hi
 exact Ra.rb (h.ra i _ v (zyh (show i < l.length by rw[h.len];exact hlt)) hi) hK
theorem agk{c:Nat}{val:Nat->Nat->Rat}{k:Nat}(hk:k < c):∀{r i:Nat},i < r->(nI c val r)[i*c+k]? =some (val i k)
 |0,i,h=>absurd h (zvj _)
 |r+1,i,h=>by
  rw[aa8];by_cases hi:i < r
  ·rw[zyj (by rw[oV];exact ac3 hi hk)]
   exact agk hk hi
  ·obtain rfl:i=r:=zE
   rw[zv6 (by rw[oV];omega),oV,Nat.add_sub_cancel_left,zqa,zvb hk];rfl
theorem MV.made{vs:List Rat}{K:Nat}(h:∀v∈vs,RB v K):MV (vs.map q4v) vs K:=by
 refine⟨zq5 _,fun i q v hq hv=>?_⟩
 rw[zqa,hv]at hq
 cases hq;exact(h v (zq4 hv)).ra
theorem aau(r c:Nat)(l:List Rat):aom r c l=zH r c (l.map q4v):=by
 have e:aA 4 qC l=aA 4 q4C (l.map q4v):=by
  show aQ 4 l.length (l.flatMap qC)=aQ 4 (l.map q4v).length ((l.map q4v).flatMap q4C);rw[zq5,List.flatMap_map]
 unfold aom zH;rw[e]
theorem abZ{r c:Nat}{n:Nat}{cells:List CA}(hl:n=r*c)(hr:r<=64)(hc:c<=64):ah prog 39 [.agg [.c (.val (.int .i64 (r:Int))),.c (.val (.int .i64 (c:Int))),.c (.sat (aQ 4 n cells))]] (.v (.bool true)):=by
 have h:=(adl (r:Int) (c:Int) (n:=n) (cells:=cells)).h trivial;rw[decide_eq_true (show 0<=(r:Int)/\(r:Int)<=64/\0<=(c:Int)/\(c:Int)<=64/\(n:Int)=(r:Int)*(c:Int)from ⟨zE,zE,zE,zE,by rw[hl];simp⟩)]at h
 exact h
abbrev aa1:List Atom:=[.c (.val (.int .i64 0)),.c (.val (.int .i64 0)),.c (.val (.slice none 0 0))]
abbrev eNo(z:Int):AV0:= .one (.c (.val (.int .i64 z)))
def sF(r c:Int)(n:Nat):Prop:=0<=r/\r<=64/\0<=c/\c<=64/\(n:Int)=r*c
end
section
open Go.RowKit QM SX
attribute [local irreducible] bO bX bV cK bW qv dH mf
theorem ane{f:FuncId}{E:Env}{S:Nat->Prop}{w:World}{v:Value}(h:(AV.it (.one (.clo f []))).has E S w v):(AV.it (.one (.c (.sat (fJ f [] []))))).has E S w v:=
 ⟨[],[],h,trivial,trivial⟩
abbrev kS:=Bool×List Nat×Bool×List Nat
abbrev rq(x:kS):Q4:=(x.1,eT x.2.1,x.2.2.1,eT x.2.2.2)
def rqv(x:kS):Rat:=qv (sgn x.1 (nval WB x.2.1)) (sgn x.2.2.1 (nval WB x.2.2.2))
def RSm(l:List kS):Prop:=∀x∈l,Sm WB x.2.1/\Sm WB x.2.2.2
def RLen(l:List kS)(K:Nat):Prop:=∀x∈l,x.2.1.length<=K/\x.2.2.2.length<=K
theorem MV.raw{l:List kS}{K:Nat}(hs:RSm l)(hl:RLen l K):MV (l.map rq) (l.map rqv) K:=by
 refine⟨by rw[zq5,zq5],fun i q v hq hv=>?_⟩
 rw[zqa]at hq hv
 cases hx:l[i]? with
 |none=>rw[hx]at hq;cases hq
 |some x=>
  rw[hx]at hq hv;cases hq;cases hv;have h1:=hs x (zq4 hx);have h2:=hl x (zq4 hx);exact Ra.raw ⟨aeO h1.1 (zq6 _)⟩ ⟨aeO h1.2 (zq6 _)⟩ h2.1 h2.2
def FewP(r c:Int)(l:List kS)(s w:Int):Prop:=(∀k x,k < 100->l[k]? =some x->(x.2.1.length:Int)<=w/\(x.2.2.2.length:Int)<=w)/\r<=s/\c<=s/\l.length<=100
end
section
open Go.RowKit QM SX LA
attribute [local irreducible] bO bX bV cK bW qv dH mf
section
section
variable{l l':List Atom}{v:Rat}{K K':Nat}
end
theorem of_1:ah prog 18 [.v (.int .i64 1)] (.agg (zN 1)):=kC.h ⟨zc,zc⟩
theorem xg{α:Type}{l:List α}{i:Nat}{a:α}(h:l[i]? =some a):i < l.length:=by
 rcases zyd i l.length with h2|h2
 ·exact h2
 ·rw[zqe h2]at h;cases h
end
abbrev Z2:=Bool×Rep
abbrev z2A(q:Z2):List Atom:=[.c (.val (.bool q.1)),.c (.sat q.2)]
abbrev z2C(q:Z2):List CA:=[.val (.bool q.1),.sat q.2]
instance:fF z2C 2:=⟨fun _=>rfl⟩
instance:afL z2C:=⟨fun _=>rfl⟩
abbrev zC(z:Int):List CA:=[.val (.bool (decide (z < 0))),.sat (bN z.natAbs)]
instance:fF zC 2:=⟨fun _=>rfl⟩
abbrev z2v(z:Int):Z2:=(decide (z < 0),bN z.natAbs)
structure ZQ(q:Z2)(z:Int)(K:Nat):Prop where
 h:∃n k,z=sgn q.1 n/\NI (.sat q.2) n k/\k<=K
 b:z.natAbs < WB ^ K
theorem NI.le{a:CA}{n k K:Nat}(x:NI a n k)(hK:k<=K):NI a n K:=⟨fun S w v h=>by
 obtain⟨l,h1,h2,h3⟩:=zF.1 (x.p S w v h);exact zF.2 ⟨l,h1,zxf h2 hK,h3⟩⟩
theorem ZQ.zi{q:Z2}{z:Int}{K:Nat}(h:ZQ q z K):ZI (z2A q) z K:=by
 obtain⟨n,k,h1,h2,h3⟩:=h.h;exact h1▸ZI.mk' (neg:=q.1) (h2.le h3)
theorem anj(z:Int):sgn (decide (z < 0)) z.natAbs=z:=by
 unfold sgn;by_cases h:z < 0
 ·rw[decide_eq_true h];simp;omega
 ·rw[decide_eq_false h];simp;omega
theorem ZQ.made{z:Int}{K:Nat}(h:z.natAbs < WB ^ K):ZQ (z2v z) z K:=
 ⟨⟨z.natAbs,K,(anj z).symm,NI.abB h,zq6 _⟩,h⟩
theorem ZQ.raw{b:Bool}{l:List Nat}{K:Nat}(hs:Sm WB l)(hl:l.length<=K):ZQ (b,eT l) (sgn b (nval WB l)) K:=
 ⟨⟨_,_,rfl,NI.raw l,hl⟩,by
  have h1:(sgn b (nval WB l)).natAbs=nval WB l:=by unfold sgn;split <;> omega
  rw[h1];exact zqf (aeO hs (zq6 _)) (zx2 aZ hl)⟩
theorem ZQ.mono{q:Z2}{z:Int}{K L:Nat}(h:ZQ q z K)(hK:K<=L):ZQ q z L:=by
 obtain⟨n,k,h1,h2,h3⟩:=h.h;exact⟨⟨n,k,h1,h2,zE⟩,zqf h.b (zx2 aZ hK)⟩
theorem ZQ.ra{q d:Z2}{z y:Int}{K L:Nat}(h:ZQ q z K)(k:ZQ d y L):Ra (q4A (q.1,q.2,d.1,d.2)) (qv z y) (max K L):=by
 exact⟨_,_,_,_,z,y,K,L,rfl,h.zi,k.zi,zE,zE,⟨h.b⟩,⟨k.b⟩,rfl⟩
structure MZ(l:List Z2)(zs:List Int)(K:Nat):Prop where
 len:l.length=zs.length
 z:∀(i:Nat) q z,l[i]? =some q->zs[i]? =some z->ZQ q z K
abbrev ag3(r c:Nat)(l:List Z2):List Atom:=[.c (.val (.int .i64 (r:Int))),.c (.val (.int .i64 (c:Int))),.c (.sat (aA 2 z2C l))]
abbrev xL(r c:Nat)(l:List Int):List Atom:=[.c (.val (.int .i64 (r:Int))),.c (.val (.int .i64 (c:Int))),.c (.sat (aA 2 zC l))]
def zat(zs:List Int)(c i k:Nat):Int:=zs.getD (i*c+k) 0
theorem agr{zs:List Int}{r c i k:Nat}(hl:zs.length=r*c)(hi:i < r)(hk:k < c):zs[i*c+k]? =some (zat zs c i k):=by
 have h:=ac3 hi hk;unfold zat;rw[zx7,zyh zE];rfl
theorem MZ.at{r c i k K:Nat}{l:List Z2}{zs:List Int}(hM:MZ l zs K)(hl:l.length=r*c)(hi:i < r)(hk:k < c):∃q,l[i*c+k]? =some q/\ZQ q (zat zs c i k) K:=by
 have h:=ac3 hi hk;obtain⟨q,hq⟩:∃q,l[i*c+k]? =some q:=⟨_,zyh zE⟩
 exact⟨q,hq,hM.z _ _ _ hq (agr (by rw[<-hM.len];exact hl) hi hk)⟩
theorem afp(r c:Nat)(l:List Int):xL r c l=ag3 r c (l.map z2v):=by
 have e:aA 2 zC l=aA 2 z2C (l.map z2v):=by
  show aQ 2 l.length (l.flatMap zC)=aQ 2 (l.map z2v).length ((l.map z2v).flatMap z2C);rw[zq5,List.flatMap_map]
 unfold xL ag3;rw[e]
theorem MZ.made{zs:List Int}{K:Nat}(h:∀z∈zs,z.natAbs < WB ^ K):MZ (zs.map z2v) zs K:=by
 refine⟨zq5 _,fun i q z hq hz=>?_⟩
 rw[zqa,hz]at hq
 cases hq;exact ZQ.made (h z (zq4 hz))
instance oF(n:Int):Con prog 120 [.v (.int .i64 n)] True (.v (.bool (decide (0<=n/\n<=64)))):=⟨fun _=>by
 refine ah.fq func120 results120 ntmps120 fun _ _ _ _ _=>?_
 by_cases h1:n≥0
 ·by_cases h2:n<=64
  ·refine zg ?_;refine bg ?_;rw[decide_eq_true (show 0<=n/\n<=64 from ⟨h1,h2⟩)];exact decide_eq_true h2
  ·refine zg ?_;refine bg ?_;rw[decide_eq_false (show¬(0<=n/\n<=64)from fun h=>h2 h.2)];exact decide_eq_false h2
 ·refine zg ?_;refine bg ?_;rw[decide_eq_false (show¬(0<=n/\n<=64)from fun h=>h1 h.1)]⟩
theorem ail(r c:Int){n:Nat}{cells:List CA}(goal:Bool)(hg:goal=true↔sF r c n):ah prog 105 [.agg [.c (.val (.int .i64 r)),.c (.val (.int .i64 c)),.c (.sat (aQ 2 n cells))]] (.v (.bool goal)):=by
 have s1:=(oF r).h trivial;have s2:=(oF c).h trivial;refine ah.fq func105 results105 ntmps105 fun _ _ _ _ _=>?_
 by_cases h1:0<=r/\r<=64
 ·rw[decide_eq_true h1]at s1;by_cases h2:0<=c/\c<=64
  ·rw[decide_eq_true h2]at s2;have hp:0<=r*c:=Int.mul_nonneg h1.1 h2.1;have hp2:r*c<=64*64:=Int.mul_le_mul h1.2 h2.2 h2.1 zc
   refine zg ?_;refine bg ?_;rw[zyc,hg,decide_eq_true_iff];exact⟨fun h=>⟨h1.1,h1.2,h2.1,h2.2,h⟩,fun h=>h.2.2.2.2⟩
  ·rw[decide_eq_false h2]at s2;refine zg ?_;refine bg ?_;exact(Bool.eq_false_iff.2 fun ht=>h2 ⟨(hg.1 ht).2.2.1,(hg.1 ht).2.2.2.1⟩).symm
 ·rw[decide_eq_false h1]at s1;refine zg ?_;refine bg ?_;exact(Bool.eq_false_iff.2 fun ht=>h1 ⟨(hg.1 ht).1,(hg.1 ht).2.1⟩).symm
theorem akL{r c:Int}{n:Nat}{cells:List CA}(h:sF r c n):ah prog 105 [.agg [.c (.val (.int .i64 r)),.c (.val (.int .i64 c)),.c (.sat (aQ 2 n cells))]] (.v (.bool true)):=ail r c true ⟨fun _=>h,fun _=>rfl⟩
theorem sF.nat{r c n:Nat}(hr:r<=64)(hc:c<=64)(h:n=r*c):sF r c n:=⟨zE,zE,zE,zE,by rw[h];simp⟩
theorem aqR{r c i k:Nat}{l:List Z2}{q:Z2}(hq:l[i*c+k]? =some q)(hi:i<=1000)(hc:c<=1000)(hk:k<=1000):
  ah prog 304 [.agg (ag3 r c l),.v (.int .i64 (i:Int)),.v (.int .i64 (k:Int))] (.agg (z2A q)):=by
 have hb:=zxd hi hc;have hlt:=xg hq;refine ah.fq func304 results304 ntmps304 fun _ _ _ _ _=>?_
 refine zg ?_;exact nM aj.gV rfl
theorem asK{r c i:Nat}{l:List Z2}(h:i < r):ah prog 303 [.agg (ag3 r c l),.v (.int .i64 (i:Int))] (.v (.bool true)):=by
 refine ah.fq func303 results303 ntmps303 fun _ _ _ _ _=>?_
 refine zg ?_;refine bg ?_;exact decide_eq_true zE
theorem agS{q:Z2}{z:Int}{K:Nat}(h:ZQ q z K)(hK:K<=1000000):ah prog 50 [.it (.one (.c (.sat q.2))),.v (.bool q.1)] (.agg (zN z)):=by
 obtain⟨n,k,h1,h2,h3⟩:=h.h;rw[h1];exact aeA (h:=h2) q.1 |>.h zE
theorem ani{r c i k:Nat}{l:List Z2}{zs:List Int}{K:Nat}(hM:MZ l zs K)(hl:l.length=r*c)(hr:r<=64)(hc:c<=64)(hi:i < r)(hk:k < c)(hK:K<=1000000):
  ah prog 202 [.agg (ag3 r c l),.v (.int .i64 (i:Int)),.v (.int .i64 (k:Int))] (.agg (zN (zat zs c i k))):=by
 obtain⟨q,hq,hz⟩:=hM.at hl hi hk;have cg:=aqR (r:=r) hq zE zE zE
 have ch:=asK (c:=c) (l:=l) hi;have cF:=akL (cells:=l.flatMap z2C) (sF.nat hr hc hl);have cR:=agS hz hK;refine ah.fq func202 results202 ntmps202 fun _ _ _ _ _=>?_
 refine zg ?_;exact nM aj.gV rfl
def jl(c:Nat)(val:Nat->Nat->Int)(i:Nat):List Int:=(List.range i).flatMap fun i=>(List.range c).map (val i)
theorem aoM{c:Nat}{val:Nat->Nat->Int}:jl c val 0=[]:=rfl
theorem vY{c i:Nat}{val:Nat->Nat->Int}:jl c val (i+1)=jl c val i++(List.range c).map (val i):=by
 unfold jl;rw[List.range_succ,zvc];simp
theorem yU{c:Nat}{val:Nat->Nat->Int}:∀i,(jl c val i).length=i*c
 |0=>by simp[aoM]
 |i+1=>by rw[vY,zqi,yU i];simp[zv8]
theorem aug{c r K:Nat}{val:Nat->Nat->Int}(h:∀i k,i < r->k < c->(val i k).natAbs < WB ^ K):∀v∈jl c val r,v.natAbs < WB ^ K:=by
 intro v hv;unfold jl at hv;obtain⟨i,hi,hv⟩:=zx9.1 hv;obtain⟨k,hk,rfl⟩:=zqg.1 hv;exact h i k (List.mem_range.1 hi) (List.mem_range.1 hk)
def uL(val:Nat->Nat->Int)(i k:Nat):List Int:=(List.range k).map (val i)
theorem afh{val:Nat->Nat->Int}{i k:Nat}:uL val i (k+1)=uL val i k++[val i k]:=by
 unfold uL;rw[List.range_succ,List.map_append];rfl
theorem apf(r c:Nat)(x:CA)(L:Nat->Nat->Z2)(val:Nat->Nat->Int)(K:Nat)(hr:r<=100)(hc:c<=100)(hK:K<=1000000)
  (hx:∀i k,i < r->k < c->FnV prog x [.v (.int .i64 (i:Int)),.v (.int .i64 (k:Int))] (.agg (z2A (L i k)))) (hL:∀i k,i < r->k < c->ZQ (L i k) (val i k) K) (hx1:x.eY=true):
  ah prog 121 [.v (.int .i64 (r:Int)),.v (.int .i64 (c:Int)),.it (.one (.c x))] (.agg (xL r c (jl c val r))):=by
 refine ah.fq func121 results121 ntmps121 fun _ _ _ _ _=>?_
 refine zg ?_;refine W.loop (fun i=>i<=r) (fun i=>[(1,.v (.int .i64 (c:Int))),(2,.it (.one (.c x))),(6,.ptr 6 0),(7,.ptr 7 0),(14,.v (.int .i64 (r:Int))),(15,.v (.int .i64 (i:Int)))]) (fun i=>[(6,.box 51 [.c (.val (.int .i64 0)),.c (.val (.int .i64 0)),.c (.val (.slice none 0 0))]),(7,.box 51 [.c (.val (.int .i64 (r:Int))),.c (.val (.int .i64 (c:Int))),.own 100]),(100,.row 31 2 (i*c) ((jl c val i).flatMap zC))]) (fun i=>r - i) 0 (zq8 _) (fun i hi=>?_)
  (by
   refine St.aW [(100,none)] zt ?_ ?_ rfl
   ·exact ya
   ·exact⟨ay.same rfl rfl,ay.jZ rfl rfl ⟨aC.same rfl,aC.same rfl,aC.nil rfl,trivial⟩,by rw[zw3];exact ay.dO rfl,trivial⟩)
 by_cases h:i < r
 ·refine zg ?_;refine W.loop (fun k=>k<=c) (fun k=>[(1,.v (.int .i64 (c:Int))),(2,.it (.one (.c x))),(6,.ptr 6 0),(7,.ptr 7 0),(8,.v (.int .i64 (i:Int))),(14,.v (.int .i64 (r:Int))),(15,.v (.int .i64 (i:Int))),(18,.v (.int .i64 (c:Int))),(19,.v (.int .i64 (k:Int)))]) (fun k=>[(6,.box 51 [.c (.val (.int .i64 0)),.c (.val (.int .i64 0)),.c (.val (.slice none 0 0))]),(7,.box 51 [.c (.val (.int .i64 (r:Int))),.c (.val (.int .i64 (c:Int))),.own 100]),(100,.row 31 2 (i*c+k) ((jl c val i++uL val i k).flatMap zC))]) (fun k=>c - k) 0 (zq8 _) (fun k hk=>?_)
   (by
    have e:Ent.row 31 2 (i*c) ((jl c val i).flatMap zC)=Ent.row 31 2 (i*c+0) ((jl c val i++uL val i 0).flatMap zC):=by simp[uL]
    refine St.aW [] zt ?_ ?_ rfl
    ·exact ya
    ·exact⟨ay.same rfl rfl,ay.same rfl rfl,ay.eq rfl e rfl,trivial⟩)
  by_cases h2:k < c
  ·have hf:=hx i k h h2;have cR:=agS (hL i k h h2) hK;have hlen:i*c+k<=20000:=by
    have:=zxd (show i<=100 by omega) hc
    omega
   refine zg ?_;refine W.next (k+1) h2 zE (by
    have e2:(jl c val i++uL val i k).flatMap zC++zC (val i k)=(jl c val i++uL val i (k+1)).flatMap zC:=by
     rw[afh,<-zqj,zvc (xs:=jl c val i++uL val i k)];simp
    refine St.aW [(100,some 34)] zt ?_ ?_ rfl
    ·exact ya
    ·exact⟨ay.same rfl rfl,ay.jZ rfl rfl ⟨aC.same rfl,aC.same rfl,aC.own rfl,trivial⟩,ay.row rfl rfl zE e2,trivial⟩)
  ·obtain rfl:k=c:=zE
   refine zg ?_;refine W.next (i+1) h zE (by
    have e2:Ent.row 31 2 (i*k+k) ((jl k val i++uL val i k).flatMap zC)=Ent.row 31 2 ((i+1)*k) ((jl k val (i+1)).flatMap zC):=by rw[zv8,vY];rfl
    refine St.aW [] zt ?_ ?_ rfl
    ·exact ya
    ·exact⟨ay.same rfl rfl,ay.same rfl rfl,ay.eq rfl e2 rfl,trivial⟩)
 ·obtain rfl:i=r:=zE
  refine zg ?_;have hm:xL i c (jl c val i)=[.c (.val (.int .i64 (i:Int))),.c (.val (.int .i64 (c:Int))),.c (.sat (aQ 2 (i*c) ((jl c val i).flatMap zC)))]:=by
   show [_,_,Atom.c (.sat (aQ 2 (jl c val i).length _))]=_;rw[yU]
  rw[hm];refine aN.frz 100 ?_;exact nM aj.bG rfl
theorem ay0{z:Int}(h1: -9223372036854775808<=z)(h2:z<=9223372036854775807):z.natAbs < WB ^ 1:=by
 rw[zxh,bJ];omega
end
section
open Go.RowKit QM SX LA
section
section
attribute [local irreducible] bO bX bV cK bW qv dH mf
theorem an2{r c i k:Nat}{l:List Z2}{zs:List Int}{K:Nat}{d:Z2}(hM:MZ l zs K)(hl:l.length=r*c)(hr:r<=64)(hc:c<=64)(hi:i < r)(hk:k < c)(hK:K<=1000000):
  ah prog 288 [.v (.int .i64 (i:Int)),.v (.int .i64 (k:Int)),.r (dK [.val (.int .i64 (r:Int)),.val (.int .i64 (c:Int)),.sat (aA 2 z2C l)]),.r (dK [.val (.bool d.1),.sat d.2])] (.agg (q4A ((z2v (zat zs c i k)).1,(z2v (zat zs c i k)).2,d.1,d.2))):=by
 have cA:=ani hM hl hr hc hi hk hK;refine ah.fq func288 results288 ntmps288 fun _ _ _ _ _=>?_
 refine zg ?_;exact nM aj.xu rfl
theorem arz{r c:Nat}{l:List Z2}{zs:List Int}{K L:Nat}{d:Z2}{y:Int}(hM:MZ l zs K)(hl:l.length=r*c)(hr:r<=64)(hc:c<=64)(hd:ZQ d y L)(hy:y≠0)(hK:K<=10000)(hL:L<=10000)(hKL:K<=L):
  ah prog 182 [.agg (ag3 r c l),.agg (z2A d)] (.tup [.agg (aom r c (nI c (fun i k=>qv (zat zs c i k) y) r)),eNo 0]):=by
 have cF:=akL (cells:=l.flatMap z2C) (sF.nat hr hc hl)
 haveI:=hd.zi
 have cS:=(rA (l:=z2A d) (x:=y)).h zE
 have hs:¬bI y=0:=fun e=>hy ((agQ y).1 e)
 have cM:=ahC r c (.sat (fJ 288 [] [.sat (dK [.val (.int .i64 (r:Int)),.val (.int .i64 (c:Int)),.sat (aA 2 z2C l)]),.sat (dK [.val (.bool d.1),.sat d.2])])) (fun i k=>((z2v (zat zs c i k)).1,(z2v (zat zs c i k)).2,d.1,d.2)) (fun i k=>qv (zat zs c i k) y) (max K L) zE zE zE
  (fun i k hi hk=>FnV.clo (an2 hM hl hr hc hi hk zE))
  (fun i k hi hk=>by
   obtain⟨q,_,hz⟩:=hM.at hl hi hk;exact(ZQ.made hz.b).ra hd) rfl
 refine ah.fq func182 results182 ntmps182 fun _ _ _ _ hB=>?_
 refine zg ?_;refine WP.jP 2 hB rfl rfl ?_;refine WP.jP 3 hB rfl rfl ?_;refine WP.aI ?_;refine zg ?_;exact .ok (aD.mk2 aj.bG (aj.tmp rfl))
theorem zq1:ZQ (z2v 1) 1 1:=ZQ.made (by rw[zxh,bJ];decide)
theorem ai5{r c:Nat}{l:List Z2}{zs:List Int}{K:Nat}(hM:MZ l zs K)(hl:l.length=r*c)(hr:r<=64)(hc:c<=64)(hK:K<=10000)(hK1:1<=K):
  ah prog 94 [.agg (ag3 r c l)] (.tup [.agg (aom r c (nI c (fun i k=>qv (zat zs c i k) 1) r)),eNo 0]):=by
 have o1:=of_1;have cO:=arz hM hl hr hc (zq1.mono hK1) zc hK hK (zq6 _)
 refine ah.fq func94 results94 ntmps94 fun _ _ _ _ _=>?_
 refine zg ?_;exact .ok (aD.mk2 aj.bG (aj.tmp rfl))
end
end
section
def awV:List Rat:=nI 2 (fun i k=>qv (zat (jl 2 (zat [1,2,3,4] 2) 2) 2 i k) 1) 2
section
attribute [local irreducible] bO bX bV cK bW qv dH mf awV
end
end
end
