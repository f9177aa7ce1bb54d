import Derived.Test.YthnkfhfcgjoieaaGreatDoorO8
import Derived.Test.YthnkfhfcgjoieaaGreatDoorO5
set_option linter.unusedVariables false
set_option linter.unusedSimpArgs false
open Go.Proofs.Tryz
namespace Go.Proofs.YthnkfhfcgjoieaaGreatDoor
open Go.RowKit QM SX
section
attribute [local irreducible] bK bO bM bS bN
def qv(p q:Int):Rat:=(p:Rat) / (q:Rat)
theorem c0{z:Int}(h:z≠0):(z:Rat)≠0:=fun e=>h (Rat.intCast_inj.1 e)
theorem aqz{a b c d:Int}(hb:b≠0)(hd:d≠0)(h:a*d=c*b):qv a b=qv c d:=by
 have h1:=c0 hb;have h2:=c0 hd;have h3:(a:Rat)*d=c*b:=by rw[<-Rat.intCast_mul,<-Rat.intCast_mul,h]
 unfold qv;grind
theorem lS(p q:Int):0 < (rmk p q).2:=by
 by_cases h:q=0
 ·rw[h,aaK];decide
 ·exact(abp h).1
theorem aae(p q:Int):Int.gcd (rmk p q).1 (rmk p q).2=1:=by
 by_cases h:q=0
 ·rw[h,aaK];decide
 ·exact(abp h).2.1
theorem gW(p q:Int):qv (rmk p q).1 (rmk p q).2=qv p q:=by
 by_cases h:q=0
 ·rw[h,aaK];unfold qv;grind
 ·have hs:=abp (x:=p) h;exact aqz zE h hs.2.2
structure Rd(X:Int×Int)(v:Rat)(K:Nat):Prop where
 v:qv X.1 X.2=v
 d:0 < X.2
 g:Int.gcd X.1 X.2=1
 b1:Bd X.1 K
 b2:Bd X.2 K
theorem Rd.rmk{p q:Int}{k m K:Nat}{v:Rat}(h:Bd p k)(h':Bd q m)(hv:qv p q=v)(hK:k+m+1<=K):Rd (rmk p q) v K:=
 ⟨(gW p q).trans hv,lS p q,aae p q,⟨Bd.mono (Bd.anl p q k m).h hK⟩,⟨Bd.mono (Bd.aqt p q k m).h hK⟩⟩
class Ra(l:List Atom)(v:outParam Rat)(K:outParam Nat):Prop where
 h:∃x0 x1 x2 x3 p q k m,l=[x0,x1,x2,x3]/\ZI [x0,x1] p k/\ZI [x2,x3] q m/\k<=K/\m<=K/\Bd p k/\Bd q m/\qv p q=v
theorem Ra.raw{b c:Bool}{l m:List Nat}{K:Nat}(i1:BdN (nval WB l) l.length)(i2:BdN (nval WB m) m.length)(h1:l.length<=K)(h2:m.length<=K):Ra (qW b l c m) (qv (sgn b (nval WB l)) (sgn c (nval WB m))) K:=
 ⟨_,_,_,_,_,_,_,_,rfl,inferInstance,inferInstance,h1,h2,inferInstance,inferInstance,rfl⟩
section
variable{l l':List Atom}{v v':Rat}{K K':Nat}
theorem aou{a b c d:Int}:qv (a*d) (b*c)=qv a b / qv c d:=by
 unfold qv;rw[Rat.intCast_mul,Rat.intCast_mul];grind
theorem aoQ{a b c d:Int}:qv (a*c) (b*d)=qv a b*qv c d:=by
 unfold qv;rw[Rat.intCast_mul,Rat.intCast_mul];grind
theorem auY{a b c d:Int}(hb:b≠0)(hd:d≠0):qv (a*d+c*b) (b*d)=qv a b+qv c d:=by
 have h1:=c0 hb;have h2:=c0 hd;unfold qv;rw[Rat.intCast_add,Rat.intCast_mul,Rat.intCast_mul,Rat.intCast_mul];grind
theorem ahf{a b:Int}:qv (-a) b= -qv a b:=by
 unfold qv;rw[Rat.intCast_neg];grind
theorem afh(p q r s:Int):qv (bN p q r s).1 (bN p q r s).2=qv p q+qv r s:=by
 have h1:=lS p q;have h2:=lS r s;unfold bN;rw[gW,auY zE zE,gW,gW]
theorem apu(p q r s:Int):qv (bO p q r s).1 (bO p q r s).2=qv p q*qv r s:=by
 unfold bO;rw[gW,aoQ,gW,gW]
theorem amB(p q r s:Int):qv (bM p q r s).1 (bM p q r s).2=qv p q / qv r s:=by
 unfold bM;rw[gW,aou,gW,gW]
theorem amN(p q r s:Int):qv (bK p q r s).1 (bK p q r s).2=qv p q - qv r s:=by
 unfold bK;rw[afh,ahf,gW];grind
theorem ajZ(p q r s:Int):∃x y,bN p q r s=rmk x y:=⟨_,_,by unfold bN;rfl⟩
theorem ajt(p q r s:Int):∃x y,bO p q r s=rmk x y:=⟨_,_,by unfold bO;rfl⟩
theorem aj4(p q r s:Int):∃x y,bM p q r s=rmk x y:=⟨_,_,by unfold bM;rfl⟩
theorem mk_pos{X:Int×Int}(h:∃x y,X=rmk x y):0 < X.2/\Int.gcd X.1 X.2=1:=by
 obtain⟨x,y,rfl⟩:=h;exact⟨lS x y,aae x y⟩
theorem ady{a b:Int}:(aS (a*b)=0↔qv a b=0)/\(aS (a*b) < 0↔qv a b < 0):=by
 have key:∀a b:Int,0 < b->(a*b=0↔qv a b=0)/\(a*b < 0↔qv a b < 0):=by
  intro a b hb;have h1:(0:Rat) < b:=by rw[show (0:Rat)=((0:Int):Rat)from rfl];exact Rat.intCast_lt_intCast.2 hb
  have ea:(a:Rat)=qv a b*b:=by unfold qv;grind
  constructor
  ·rw[Int.mul_eq_zero];constructor
   ·rintro(h|h)
    ·unfold qv;rw[h];grind
    ·omega
   ·intro h;rw[h]at ea;left;exact Rat.intCast_inj.1 (by rw[ea];grind)
  ·have hneg:a*b < 0↔a < 0:=by
    constructor
    ·intro h;exact Decidable.byContradiction fun hn=>by
      have:=Int.mul_nonneg (show 0<=a by omega) (show 0<=b by omega)
      omega
    ·intro h;exact Int.mul_neg_of_neg_of_pos h hb
   have ha:a < 0↔(a:Rat) < 0:=by rw[show (0:Rat)=((0:Int):Rat)from rfl,Rat.intCast_lt_intCast]
   rw[hneg,ha,ea];generalize qv a b=v at*;generalize (b:Rat)=c at*;constructor
   ·intro h;exact Decidable.byContradiction fun hn=>by
     have:=Rat.mul_nonneg (show 0<=v by grind) (show 0<=c by grind)
     grind
   ·intro h;have:=Rat.mul_pos (show 0 < -v by grind) h1
    grind
 have hn:aS (a*b) < 0↔a*b < 0:=ah8 _;have hz:aS (a*b)=0↔a*b=0:=adE _;rw[hn,hz];by_cases hb:b=0
 ·subst hb;have:qv a 0=0:=by unfold qv;grind
  rw[this];simp
 ·by_cases hb0:0 < b
  ·exact key a b hb0
  ·have h:=key (-a) (-b) zE
   have e:qv (-a) (-b)=qv a b:=aqz zE hb (by grind)
   rw[e,show -a* -b=a*b by grind]at h
   exact h
theorem an7{p q r s:Int}:(bS p q r s=0↔qv p q=qv r s)/\(bS p q r s < 0↔qv p q < qv r s)/\(0 < bS p q r s↔qv r s < qv p q):=by
 have h:=ady (a:=(bK p q r s).1) (b:=(bK p q r s).2);rw[amN]at h;unfold bS;generalize aS ((bK p q r s).1*(bK p q r s).2)=z at*;have h1:z=0↔qv p q=qv r s:=by rw[h.1];constructor <;> intro <;> grind
 have h2:z < 0↔qv p q < qv r s:=by rw[h.2];constructor <;> intro <;> grind
 refine⟨h1,h2,?_⟩;have:0 < z↔¬z=0/\¬z < 0:=zE
 rw[this,h1,h2];constructor
 ·intro ⟨a,b⟩;grind
 ·intro a;constructor <;> grind
theorem eAdd(l l':List Atom)[a:Ra l v K][b:Ra l' v' K'](h:K+K'<=1000000):∃X,ah prog 22 [.agg l,.agg l'] (.agg (uQ X))/\Rd X (v+v') (6*(K+K')+20):=by
 obtain⟨x0,x1,x2,x3,p,q,k,m,rfl,z1,z2,hk,hm,b1,b2,hv⟩:=a.h;obtain⟨y0,y1,y2,y3,r,s,k',m',rfl,z3,z4,hk',hm',b3,b4,hv'⟩:=b.h;exact⟨_,(anF (h:=z1) (h':=z2) (g:=z3) (g':=z4)).h zE,⟨by rw[afh,hv,hv'],(mk_pos (ajZ ..)).1,(mk_pos (ajZ ..)).2,⟨Bd.mono (Bd.asZ p q r s k m k' m').h zE⟩,⟨Bd.mono (Bd.atf p q r s k m k' m').h zE⟩⟩⟩
theorem eMul(l l':List Atom)[a:Ra l v K][b:Ra l' v' K'](h:K+K'<=1000000):∃X,ah prog 353 [.agg l,.agg l'] (.agg (uQ X))/\Rd X (v*v') (6*(K+K')+20):=by
 obtain⟨x0,x1,x2,x3,p,q,k,m,rfl,z1,z2,hk,hm,b1,b2,hv⟩:=a.h;obtain⟨y0,y1,y2,y3,r,s,k',m',rfl,z3,z4,hk',hm',b3,b4,hv'⟩:=b.h;exact⟨_,(aqx (h:=z1) (h':=z2) (g:=z3) (g':=z4)).h zE,⟨by rw[apu,hv,hv'],(mk_pos (ajt ..)).1,(mk_pos (ajt ..)).2,⟨Bd.mono (Bd.qmul1 p q r s k m k' m').h zE⟩,⟨Bd.mono (Bd.qmul2 p q r s k m k' m').h zE⟩⟩⟩
theorem eQuo(l l':List Atom)[a:Ra l v K][b:Ra l' v' K'](h:K+K'<=1000000):∃X ok,ah prog 233 [.agg l,.agg l'] (.tup [.agg (uQ X),.one (.c (.val (.bool ok)))])/\Rd X (v / v') (6*(K+K')+20)/\(ok=true↔v'≠0):=by
 obtain⟨x0,x1,x2,x3,p,q,k,m,rfl,z1,z2,hk,hm,b1,b2,hv⟩:=a.h;obtain⟨y0,y1,y2,y3,r,s,k',m',rfl,z3,z4,hk',hm',b3,b4,hv'⟩:=b.h;refine⟨_,_,(aoW (h:=z1) (h':=z2) (g:=z3) (g':=z4)).h zE,⟨by rw[amB,hv,hv'],(mk_pos (aj4 ..)).1,(mk_pos (aj4 ..)).2,⟨Bd.mono (Bd.qquo1 p q r s k m k' m').h zE⟩,⟨Bd.mono (Bd.qquo2 p q r s k m k' m').h zE⟩⟩,?_⟩
 have h1:=lS p q;have h2:=lS r s;rw[decide_eq_true_iff,<-hv',<-gW r s];have e:qv (rmk r s).1 (rmk r s).2=0↔(rmk r s).1=0:=by
  have:=(ady (a:=(rmk r s).1) (b:=(rmk r s).2)).1;rw[<-this,adE,Int.mul_eq_zero];omega
 rw[Ne,Ne,e,Int.mul_eq_zero];omega
theorem eCmp(l l':List Atom)[a:Ra l v K][b:Ra l' v' K'](h:K+K'<=400000):∃z:Int,ah prog 152 [.agg l,.agg l'] (.v (.int .i64 z))/\(z=0↔v=v')/\(z < 0↔v < v')/\(0 < z↔v' < v):=by
 obtain⟨x0,x1,x2,x3,p,q,k,m,rfl,z1,z2,hk,hm,b1,b2,hv⟩:=a.h;obtain⟨y0,y1,y2,y3,r,s,k',m',rfl,z3,z4,hk',hm',b3,b4,hv'⟩:=b.h;exact⟨_,(ana (h:=z1) (h':=z2) (g:=z3) (g':=z4)).h zE,by rw[<-hv,<-hv'];exact an7⟩
theorem asU(l:List Atom)[a:Ra l v K](h:K<=400000):∃z:Int,ah prog 7 [.agg l] (.v (.int .i64 z))/\(z=0↔v=0)/\(z < 0↔v < 0):=by
 obtain⟨x0,x1,x2,x3,p,q,k,m,rfl,z1,z2,hk,hm,b1,b2,hv⟩:=a.h;exact⟨_,(al8 (h:=z1) (h':=z2)).h zE,by rw[<-hv];exact ady⟩
theorem eNeg(l:List Atom)[a:Ra l v K](h:K<=400000):∃X,ah prog 8 [.agg l] (.agg (uQ X))/\Rd X (-v) (2*K+1):=by
 obtain⟨x0,x1,x2,x3,p,q,k,m,rfl,z1,z2,hk,hm,b1,b2,hv⟩:=a.h;exact⟨_,(apP (h:=z1) (h':=z2)).h zE,⟨by show qv (-(rmk p q).1) (rmk p q).2=_;rw[ahf,gW,hv],lS p q,by show Int.gcd (-(rmk p q).1) _=1;rw[Int.neg_gcd];exact aae p q,⟨by show (-(rmk p q).1).natAbs < _;rw[Int.natAbs_neg];exact Bd.mono (Bd.anl p q k m).h zE⟩,⟨Bd.mono (Bd.aqt p q k m).h zE⟩⟩⟩
end
end
section
attribute [local irreducible] IntKind.wrap Go1 Reg WP aJ aN bF bD aM aA ak aj aT Sat
attribute [local irreducible] bK bO bM bS bN qv
section
theorem anB(l:List Atom){v:Rat}{K:Nat}[a:Ra l v K](h:K<=400000):∃z:Int,ah prog 16 [.agg l] (.agg (zN z))/\(z:Rat)<=v/\v < (z:Rat)+1/\Bd z (2*K+3):=by
 obtain⟨x0,x1,x2,x3,p,q,k,m,rfl,z1,z2,hk,hm,b1,b2,hv⟩:=a.h;refine⟨_,(aix (h:=z1) (h':=z2)).h zE,?_⟩
 have hd:=lS p q;have hval:=gW p q;rw[hv]at hval;have hb:Bd (zfq (rmk p q).1 (rmk p q).2) (k+m+1+1+1):=inferInstance;refine⟨?_,?_,⟨Bd.mono hb.h zE⟩⟩
 all_goals
  have e:zfq (rmk p q).1 (rmk p q).2=(rmk p q).1.fdiv (rmk p q).2:=by unfold zfq;first|rfl|(rw[if_neg zE])
  rw[e];have h1:=Int.fmod_add_mul_fdiv (rmk p q).1 (rmk p q).2;have h2:=Int.fmod_nonneg_of_pos (rmk p q).1 hd;have h3:=Int.fmod_lt_of_pos (rmk p q).1 hd;generalize (rmk p q).1.fdiv (rmk p q).2=z at*;generalize (rmk p q).1.fmod (rmk p q).2=w at*;generalize (rmk p q).1=n at*;generalize (rmk p q).2=d at*;have hd':(0:Rat) < d:=by rw[show (0:Rat)=((0:Int):Rat)from rfl];exact Rat.intCast_lt_intCast.2 hd
  have en:(n:Rat)=v*d:=by rw[<-hval];unfold qv;grind
  have g1:(n:Rat)=w+d*z:=by rw[<-Rat.intCast_mul,<-Rat.intCast_add,h1]
  have g2:(0:Rat)<=w:=by rw[show (0:Rat)=((0:Int):Rat)from rfl];exact Rat.intCast_le_intCast.2 h2
  have g3:(w:Rat) < d:=Rat.intCast_lt_intCast.2 h3
 ·exact Decidable.byContradiction fun hn=>by
   have:=Rat.mul_pos (show 0 < (z:Rat) - v by grind) hd'
   grind
 ·exact Decidable.byContradiction fun hn=>by
   have:=Rat.mul_nonneg (show 0<=v - ((z:Rat)+1)by grind) (show (0:Rat)<=d by grind)
   grind
instance Bd.mE(x y:Int)(k m:Nat)[hx:Bd x k][hy:Bd y m]:Bd (mE x y) (k+k+1+m+1+1+1):=⟨by
 unfold Proofs.YthnkfhfcgjoieaaGreatDoor.mE
 split
 ·exact(Bd.zfq (-x+ -x+ -y) (-y+ -y) _).h
 ·exact(Bd.zfq (x+x+y) (y+y) _).h⟩
theorem anV(l:List Atom){v:Rat}{K:Nat}[a:Ra l v K](h:K<=400000):∃z:Int,ah prog 17 [.agg l] (.agg (zN z))/\2*((z:Rat) - v)<=1/\ -1 < 2*((z:Rat) - v)/\Bd z (6*K+10):=by
 obtain⟨x0,x1,x2,x3,p,q,k,m,rfl,z1,z2,hk,hm,b1,b2,hv⟩:=a.h;refine⟨_,(aiw (h:=z1) (h':=z2)).h zE,?_⟩
 have hd:=lS p q;have hval:=gW p q;rw[hv]at hval;have hb:Bd (mE (rmk p q).1 (rmk p q).2) ((k+m+1)+(k+m+1)+1+(k+m+1)+1+1+1):=inferInstance;refine⟨?_,?_,⟨Bd.mono hb.h zE⟩⟩
 all_goals
  have e:mE (rmk p q).1 (rmk p q).2=((rmk p q).1+(rmk p q).1+(rmk p q).2).fdiv ((rmk p q).2+(rmk p q).2):=by unfold Proofs.YthnkfhfcgjoieaaGreatDoor.mE;rw[if_neg zE];unfold zfq;first|rfl|(rw[if_neg zE])
  rw[e];have h1:=Int.fmod_add_mul_fdiv ((rmk p q).1+(rmk p q).1+(rmk p q).2) ((rmk p q).2+(rmk p q).2);have h2:=Int.fmod_nonneg_of_pos ((rmk p q).1+(rmk p q).1+(rmk p q).2) (show 0 < (rmk p q).2+(rmk p q).2 by omega)
  have h3:=Int.fmod_lt_of_pos ((rmk p q).1+(rmk p q).1+(rmk p q).2) (show 0 < (rmk p q).2+(rmk p q).2 by omega)
  generalize ((rmk p q).1+(rmk p q).1+(rmk p q).2).fdiv ((rmk p q).2+(rmk p q).2)=z at*;generalize ((rmk p q).1+(rmk p q).1+(rmk p q).2).fmod ((rmk p q).2+(rmk p q).2)=w at*;generalize (rmk p q).1=n at*;generalize (rmk p q).2=d at*;have hd':(0:Rat) < d:=by rw[show (0:Rat)=((0:Int):Rat)from rfl];exact Rat.intCast_lt_intCast.2 hd
  have en:(n:Rat)=v*d:=by rw[<-hval];unfold qv;grind
  have g1:(w:Rat)+(d+d)*z=n+n+d:=by rw[<-Rat.intCast_add,<-Rat.intCast_mul,<-Rat.intCast_add,h1,Rat.intCast_add,Rat.intCast_add]
  have g2:(0:Rat)<=w:=by rw[show (0:Rat)=((0:Int):Rat)from rfl];exact Rat.intCast_le_intCast.2 h2
  have g3:(w:Rat) < d+d:=by rw[<-Rat.intCast_add];exact Rat.intCast_lt_intCast.2 h3
 ·exact Decidable.byContradiction fun hn=>by
   have:=Rat.mul_pos (show 0 < 2*((z:Rat) - v) - 1 by grind) hd'
   grind
 ·exact Decidable.byContradiction fun hn=>by
   have:=Rat.mul_nonneg (show 0<= -1 - 2*((z:Rat) - v)by grind) (show (0:Rat)<=d by grind)
   grind
attribute [local irreducible] mE zfq
end
section
theorem qv_lt{n d m e:Int}(hd:0 < d)(he:0 < e):(qv n d < qv m e↔n*e < m*d)/\(qv n d=qv m e↔n*e=m*d):=by
 have hd':(0:Rat) < d:=by rw[show (0:Rat)=((0:Int):Rat)from rfl];exact Rat.intCast_lt_intCast.2 hd
 have he':(0:Rat) < e:=by rw[show (0:Rat)=((0:Int):Rat)from rfl];exact Rat.intCast_lt_intCast.2 he
 have en:(n:Rat)=qv n d*d:=by unfold qv;grind
 have em:(m:Rat)=qv m e*e:=by unfold qv;grind
 have hde:=Rat.mul_pos hd' he';constructor
 ·rw[<-Rat.intCast_lt_intCast (a:=n*e),Rat.intCast_mul,Rat.intCast_mul,en,em];generalize qv n d=v at*;generalize qv m e=u at*;constructor
  ·intro h;have:=Rat.mul_pos (show 0 < u - v by grind) hde
   grind
  ·intro h;exact Decidable.byContradiction fun hn=>by
    have:=Rat.mul_nonneg (show 0<=v - u by grind) (show (0:Rat)<=(d:Rat)*e by grind)
    grind
 ·rw[<-Rat.intCast_inj (a:=n*e),Rat.intCast_mul,Rat.intCast_mul,en,em];generalize qv n d=v at*;generalize qv m e=u at*;constructor
  ·intro h;rw[h];grind
  ·intro h;have h0:(v - u)*((d:Rat)*e)=0:=by grind
   rcases Rat.mul_eq_zero.1 h0 with h1|h1
   ·grind
   ·rw[h1]at hde;grind
attribute [local irreducible] aS oq sgn
end
section
theorem Rd.uniq{p q r s:Int}(h1:0 < q)(g1:Int.gcd p q=1)(h2:0 < s)(g2:Int.gcd r s=1)(hv:qv p q=qv r s):p=r/\q=s:=by
 have he:=(qv_lt (n:=p) (m:=r) h1 h2).2.1 hv;have d1:q ∣ s:=by
  have:q ∣ p*s:=⟨r,by rw[he,Int.mul_comm]⟩
  exact Int.natAbs_dvd_natAbs.1 (Nat.Coprime.dvd_of_dvd_mul_left (show Nat.gcd q.natAbs p.natAbs=1 by rw[Nat.gcd_comm];exact g1) (by rw[<-zve];exact Int.natAbs_dvd_natAbs.2 this))
 have d2:s ∣ q:=by
  have:s ∣ r*q:=⟨p,by rw[<-he,Int.mul_comm]⟩
  exact Int.natAbs_dvd_natAbs.1 (Nat.Coprime.dvd_of_dvd_mul_left (show Nat.gcd s.natAbs r.natAbs=1 by rw[Nat.gcd_comm];exact g2) (by rw[<-zve];exact Int.natAbs_dvd_natAbs.2 this))
 have e:q=s:=Int.dvd_antisymm zE zE d1 d2
 subst e;exact⟨Int.eq_of_mul_eq_mul_right zE he,rfl⟩
attribute [local irreducible] ade acT sgn aS
section
variable{x0 x1 x2 x3:Atom}{p q:Int}{k m:Nat}
end
end
end
section
attribute [local irreducible] bK bO bM bS bN
abbrev qC(v:Rat):List CA:=[.val (.bool (decide (v.num < 0))),.sat (bU v.num.natAbs),.val (.bool (decide ((v.den:Int) < 0))),.sat (bU (v.den:Int).natAbs)]
abbrev qA(v:Rat):List Atom:=[.c (.val (.bool (decide (v.num < 0)))),.c (.sat (bU v.num.natAbs)),.c (.val (.bool (decide ((v.den:Int) < 0)))),.c (.sat (bU (v.den:Int).natAbs))]
theorem pR(v:Rat):(v.den:Int)≠0:=by have:=v.den_nz;omega
theorem jq(v:Rat):qv v.num v.den=v:=by
 unfold qv;rw[<-Rat.divInt_eq_div];exact Rat.num_divInt_den v
theorem aqe{p q:Int}{v:Rat}(hq:q≠0)(h:qv p q=v):v.num*q=p*v.den:=by
 have h2:=jq v;have d1:=c0 hq;have d2:=c0 (pR v);unfold qv at h h2;apply Rat.intCast_inj.1
 rw[Rat.intCast_mul,Rat.intCast_mul];generalize ((v.den:Int):Rat)=d at*;generalize ((v.num:Int):Rat)=n at*;generalize (p:Rat)=a at*;generalize (q:Rat)=b at*;subst h2
 grind
theorem afk{p q:Int}{v:Rat}(hq:q≠0)(h:qv p q=v):∃c:Int,q=c*v.den/\p=c*v.num:=by
 have hx:=aqe hq h;have hc:Nat.Coprime v.num.natAbs v.den:=v.reduced;have hd:(v.den:Int) ∣ v.num*q:=⟨p,by rw[hx];exact Int.mul_comm _ _⟩
 have hd2:v.den ∣ q.natAbs:=by
  have h1:v.den ∣ (v.num*q).natAbs:=zxa v.den▸(Int.natAbs_dvd_natAbs.2 hd);rw[zve]at h1;exact hc.symm.dvd_of_dvd_mul_left h1
 obtain⟨c,hcq⟩:(v.den:Int) ∣ q:=Int.natAbs_dvd_natAbs.1 (by rw[zxa];exact hd2)
 refine⟨c,by rw[hcq];exact Int.mul_comm _ _,?_⟩
 rw[hcq]at hx;have h0:=pR v;have:(v.den:Int)*(v.num*c)=(v.den:Int)*p:=by grind
 have:=Int.eq_of_mul_eq_mul_left h0 this
 grind
structure RB(v:Rat)(K:Nat):Prop where
 n:v.num.natAbs < WB ^ K
 d:v.den < WB ^ K
theorem RB.of{p q:Int}{v:Rat}{K:Nat}(hq:q≠0)(h:qv p q=v)(h1:p.natAbs < WB ^ K)(h2:q.natAbs < WB ^ K):RB v K:=by
 obtain⟨c,e1,e2⟩:=afk hq h;have hc:1<=c.natAbs:=by
  rcases zye c.natAbs with h|h
  ·have:c=0:=zE
   subst this;rw[Int.zero_mul]at e1;exact absurd e1 hq
  ·exact h
 have a1:q.natAbs=c.natAbs*v.den:=by rw[e1,zve,zxa]
 have a2:p.natAbs=c.natAbs*v.num.natAbs:=by rw[e2,zve]
 have b1:=zx1 v.den hc;have b2:=zx1 v.num.natAbs hc;exact⟨zE,zE⟩
theorem apy(K:Nat):1<=WB ^ K:=Nat.pow_pos aZ
theorem gV{a b K L:Nat}(h1:a < WB ^ K)(h2:b < WB ^ L):a*b < WB ^ (K+L):=by
 rw[zw5];have:=zxd (show a<=WB ^ K - 1 by omega) (show b<=WB ^ L - 1 by omega)
 have p1:=apy K;have p2:=apy L;refine zxb this ?_;have h3:(WB ^ K - 1)*(WB ^ L - 1)<=(WB ^ K - 1)*WB ^ L:=zx8 _ (Nat.sub_le _ _);have h4:(WB ^ K - 1)*WB ^ L < WB ^ K*WB ^ L:=(Nat.mul_lt_mul_right zE).2 zE
 omega
theorem auL(K:Nat):2*WB ^ K<=WB ^ (K+1):=by
 rw[zyf,zxj];exact zx8 _ (by rw[dn];decide)
theorem RB.mul{u v:Rat}{K L:Nat}(h:RB u K)(k:RB v L):RB (u*v) (K+L):=by
 refine RB.of (p:=u.num*v.num) (q:=u.den*v.den) (Int.mul_ne_zero (pR u) (pR v)) ?_ ?_ ?_
 ·rw[aoQ,jq,jq]
 ·rw[zve];exact gV h.n k.n
 ·rw[zve,zxa,zxa];exact gV h.d k.d
theorem RB.neg{v:Rat}{K:Nat}(h:RB v K):RB (-v) K:=by
 refine RB.of (p:= -v.num) (q:=v.den) (pR v) (by rw[ahf,jq]) (by rw[Int.natAbs_neg];exact h.n) (by rw[zxa];exact h.d)
theorem RB.zero{K:Nat}(hK:1<=K):RB 0 K:=by
 have h:WB ^ 1<=WB ^ K:=zx2 aZ hK;rw[zxh]at h;have:=dn;exact⟨by show (0:Nat) < _;omega,by show (1:Nat) < _;omega⟩
theorem RB.one{K:Nat}(hK:1<=K):RB 1 K:=by
 have h:WB ^ 1<=WB ^ K:=zx2 aZ hK;rw[zxh]at h;have:=dn;exact⟨by show (1:Nat) < _;omega,by show (1:Nat) < _;omega⟩
theorem RB.div{u v:Rat}{K L:Nat}(h:RB u K)(k:RB v L)(hv:v≠0):RB (u / v) (K+L):=by
 have hn:v.num≠0:=fun e=>hv (Rat.num_eq_zero.1 e)
 refine RB.of (p:=u.num*v.den) (q:=u.den*v.num) (Int.mul_ne_zero (pR u) hn) ?_ ?_ ?_
 ·rw[aou,jq,jq]
 ·rw[zve,zxa];exact gV h.n k.d
 ·rw[zve,zxa];exact gV h.d k.n
theorem RB.ra{v:Rat}{K:Nat}(h:RB v K):Ra (qA v) v K:=
 ⟨_,_,_,_,v.num,(v.den:Int),K,K,rfl,(haveI:Bd v.num K:=⟨h.n⟩;inferInstance),(haveI:Bd (v.den:Int) K:=⟨by rw[zxa];exact h.d⟩;inferInstance),zq6 _,zq6 _,⟨h.n⟩,⟨by rw[zxa];exact h.d⟩,jq v⟩
theorem Rd.nf{X:Int×Int}{v:Rat}{K:Nat}(h:Rd X v K):X=(v.num,(v.den:Int)):=by
 obtain⟨p,q⟩:=X;have hq:q≠0:=by have:=h.d;dsimp only at this;omega
 obtain⟨c,e1,e2⟩:=afk hq (show qv p q=v from h.v)
 have hg:Int.gcd p q=1:=h.g;have hc1:c.natAbs ∣ Int.gcd p q:=Nat.dvd_gcd (by rw[e2,zve];exact Nat.dvd_mul_right _ _) (by rw[e1,zve];exact Nat.dvd_mul_right _ _)
 rw[hg]at hc1;have hca:c.natAbs=1:=Nat.dvd_one.1 hc1;have hpos:0 < q:=h.d;have hden:0 < (v.den:Int):=by have:=v.den_nz;omega
 have hc:c=1:=by
  rcases Int.natAbs_eq_iff.1 hca with h|h
  ·exact h
  ·subst h;rw[e1]at hpos;simp at hpos;omega
 subst hc;rw[Int.one_mul]at e1 e2;rw[e1,e2]
section
variable{l l':List Atom}{v v':Rat}{K K':Nat}
instance con_qAdd[a:Ra l v K][b:Ra l' v' K']:Con prog 22 [.agg l,.agg l'] (K+K'<=1000000) (.agg (qA (v+v'))):=⟨fun h=>by
 obtain⟨X,c,r⟩:=eAdd l l' h;rw[r.nf]at c;exact c⟩
instance aq2[a:Ra l v K][b:Ra l' v' K']:Con prog 353 [.agg l,.agg l'] (K+K'<=1000000) (.agg (qA (v*v'))):=⟨fun h=>by
 obtain⟨X,c,r⟩:=eMul l l' h;rw[r.nf]at c;exact c⟩
instance aeG[a:Ra l v K]:Con prog 8 [.agg l] (K<=400000) (.agg (qA (-v))):=⟨fun h=>by
 obtain⟨X,c,r⟩:=eNeg l h;rw[r.nf]at c;exact c⟩
instance afR[a:Ra l v K][b:Ra l' v' K']:Con prog 233 [.agg l,.agg l'] (K+K'<=1000000) (.tup [.agg (qA (v / v')),.one (.c (.val (.bool (decide (v'≠0)))))]):=⟨fun h=>by
 obtain⟨X,ok,c,r,ho⟩:=eQuo l l' h;have e:ok=decide (v'≠0):=by
  cases ok with
  |true=>exact(decide_eq_true (ho.1 rfl)).symm
  |false=>exact(decide_eq_false fun hn=>by have:=ho.2 hn;cases this).symm
 rw[r.nf,e]at c;exact c⟩
end
end
section
attribute [local irreducible] IntKind.wrap Go1 Reg WP aJ aN bF bD aM aA ak aj aT Sat
attribute [local irreducible] bK bO bM bS bN qv
instance avy:Con prog 237 [] True (.agg (qA 0)):=⟨fun _=>by
 refine ah.fq func237 results237 ntmps237 fun _ _ _ _ _=>?_
 refine zg ?_;exact nP ak.rV rfl⟩
def tkL(r s:List Rat)(f:Rat)(k:Nat):List Rat:=(List.zipWith (fun a b=>a - f*b) (r.take k) (s.take k))++r.drop k
def lZ(c:Nat)(val:Nat->Nat->Rat)(i:Nat):List Rat:=(List.range i).flatMap fun i=>(List.range c).map (val i)
theorem amk{c:Nat}{val:Nat->Nat->Rat}:lZ c val 0=[]:=rfl
theorem yu{c i:Nat}{val:Nat->Nat->Rat}:lZ c val (i+1)=lZ c val i++(List.range c).map (val i):=by
 unfold lZ;rw[List.range_succ,zvc];simp
theorem ny{c:Nat}{val:Nat->Nat->Rat}:∀i,(lZ c val i).length=i*c
 |0=>by simp[amk]
 |i+1=>by rw[yu,zqi,ny i];simp[zv8]
def abP(val:Nat->Nat->Rat)(i k:Nat):List Rat:=(List.range k).map (val i)
theorem alN{val:Nat->Nat->Rat}{i k:Nat}:abP val i (k+1)=abP val i k++[val i k]:=by
 unfold abP;rw[List.range_succ,List.map_append];rfl
abbrev Q4:=Bool×Rep×Bool×Rep
abbrev q4A(q:Q4):List Atom:=[.c (.val (.bool q.1)),.c (.sat q.2.1),.c (.val (.bool q.2.2.1)),.c (.sat q.2.2.2)]
abbrev amq(r c:Nat)(l:List Rat):List Atom:=[.c (.val (.int .i64 (r:Int))),.c (.val (.int .i64 (c:Int))),.c (.sat (aB 4 qC l))]
theorem aga(r c:Nat)(x:CA)(L:Nat->Nat->Q4)(val:Nat->Nat->Rat)(K:Nat)(hr:r<=100)(hc:c<=100)(hK:K+1<=1000000)
  (hx:∀i k,i < r->k < c->FnV prog x [.v (.int .i64 (i:Int)),.v (.int .i64 (k:Int))] (.agg (q4A (L i k)))) (hL:∀i k,i < r->k < c->Ra (q4A (L i k)) (val i k) K) (hx1:x.eO=true):
  ah prog 229 [.v (.int .i64 (r:Int)),.v (.int .i64 (c:Int)),.it (.one (.c x))] (.agg (amq r c (lZ c val r))):=by
 have iz:Ra (qA 0) 0 1:=(RB.zero (zq6 1)).ra;refine ah.fq func229 results229 ntmps229 fun _ _ _ _ _=>?_
 refine zg ?_;refine W.loop (fun i=>i<=r) (fun i=>[(1,.v (.int .i64 (c:Int))),(2,.it (.one (.c x))),(6,.ptr 6 0),(7,.ptr 7 0),(13,.v (.int .i64 (r:Int))),(14,.v (.int .i64 (i:Int)))]) (fun i=>[(6,.box 31 [.c (.val (.int .i64 0)),.c (.val (.int .i64 0)),.c (.val (.slice none 0 0))]),(7,.box 31 [.c (.val (.int .i64 (r:Int))),.c (.val (.int .i64 (c:Int))),.own 100]),(100,.row 27 4 (i*c) ((lZ c val i).flatMap qC))]) (fun i=>r - i) 0 (zq8 _) (fun i hi=>?_)
  (by
   refine St.bV [(100,none)] zt ?_ ?_ rfl
   ·exact ya
   ·exact⟨ay.same rfl rfl,ay.nW rfl rfl ⟨aD.same rfl,aD.same rfl,aD.nil rfl,trivial⟩,by rw[zw3];exact ay.dZ rfl,trivial⟩)
 by_cases h:i < r
 ·refine zg ?_;refine W.loop (fun k=>k<=c) (fun k=>[(1,.v (.int .i64 (c:Int))),(2,.it (.one (.c x))),(6,.ptr 6 0),(7,.ptr 7 0),(8,.v (.int .i64 (i:Int))),(13,.v (.int .i64 (r:Int))),(14,.v (.int .i64 (i:Int))),(17,.v (.int .i64 (c:Int))),(18,.v (.int .i64 (k:Int)))]) (fun k=>[(6,.box 31 [.c (.val (.int .i64 0)),.c (.val (.int .i64 0)),.c (.val (.slice none 0 0))]),(7,.box 31 [.c (.val (.int .i64 (r:Int))),.c (.val (.int .i64 (c:Int))),.own 100]),(100,.row 27 4 (i*c+k) ((lZ c val i++abP val i k).flatMap qC))]) (fun k=>c - k) 0 (zq8 _) (fun k hk=>?_)
   (by
    have e:Ent.row 27 4 (i*c) ((lZ c val i).flatMap qC)=Ent.row 27 4 (i*c+0) ((lZ c val i++abP val i 0).flatMap qC):=by simp[abP]
    refine St.bV [] zt ?_ ?_ rfl
    ·exact ya
    ·exact⟨ay.same rfl rfl,ay.same rfl rfl,ay.eq rfl e rfl,trivial⟩)
  by_cases h2:k < c
  ·have hf:=hx i k h h2;have ir:=hL i k h h2;have hlen:i*c+k<=20000:=by
    have:=zxd (show i<=100 by omega) hc
    omega
   refine zg ?_;refine W.next (k+1) h2 zE (by
    have e2:(lZ c val i++abP val i k).flatMap qC++qC (val i k+0)=(lZ c val i++abP val i (k+1)).flatMap qC:=by
     rw[Rat.add_zero,alN,<-zqj,zvc (xs:=lZ c val i++abP val i k)];simp
    refine St.bV [(100,some 30)] zt ?_ ?_ rfl
    ·exact ya
    ·exact⟨ay.same rfl rfl,ay.nW rfl rfl ⟨aD.same rfl,aD.same rfl,aD.own rfl,trivial⟩,ay.row rfl rfl zE e2,trivial⟩)
  ·obtain rfl:k=c:=zE
   refine zg ?_;refine W.next (i+1) h zE (by
    have e2:Ent.row 27 4 (i*k+k) ((lZ k val i++abP val i k).flatMap qC)=Ent.row 27 4 ((i+1)*k) ((lZ k val (i+1)).flatMap qC):=by rw[zv8,yu];rfl
    refine St.bV [] zt ?_ ?_ rfl
    ·exact ya
    ·exact⟨ay.same rfl rfl,ay.same rfl rfl,ay.eq rfl e2 rfl,trivial⟩)
 ·obtain rfl:i=r:=zE
  refine zg ?_;have hm:amq i c (lZ c val i)=[.c (.val (.int .i64 (i:Int))),.c (.val (.int .i64 (c:Int))),.c (.sat (aQ 4 (i*c) ((lZ c val i).flatMap qC)))]:=by
   show [_,_,Atom.c (.sat (aQ 4 (lZ c val i).length _))]=_;rw[ny]
  rw[hm];refine aM.frz 100 ?_;exact nP ak.bQ rfl
abbrev q4C(q:Q4):List CA:=[.val (.bool q.1),.sat q.2.1,.val (.bool q.2.2.1),.sat q.2.2.2]
instance:eY q4C 4:=⟨fun _=>rfl⟩
abbrev wY(r c:Nat)(l:List Q4):List Atom:=[.c (.val (.int .i64 (r:Int))),.c (.val (.int .i64 (c:Int))),.c (.sat (aB 4 q4C l))]
structure MV(l:List Q4)(vs:List Rat)(K:Nat):Prop where
 len:l.length=vs.length
 ra:∀(i:Nat) q v,l[i]? =some q->vs[i]? =some v->Ra (q4A q) v K
instance ab8(r c:Int){n:Nat}{cells:List CA}:Con prog 178 [.agg [.c (.val (.int .i64 r)),.c (.val (.int .i64 c)),.c (.sat (aQ 4 n cells))]] True (.v (.bool (decide (0<=r/\r<=64/\0<=c/\c<=64/\(n:Int)=r*c)))):=⟨fun _=>by
 refine ah.fq func178 results178 ntmps178 fun _ _ _ _ _=>?_
 by_cases h1:r≥0
 ·by_cases h2:r<=64
  ·by_cases h3:c≥0
   ·by_cases h4:c<=64
    ·have hp:0<=r*c:=Int.mul_nonneg h1 h3;have hp2:r*c<=64*64:=Int.mul_le_mul h2 h4 h3 zc
     refine zg ?_;refine bf ?_;rw[decide_eq_decide];exact⟨fun h=>⟨h1,h2,h3,h4,h⟩,fun h=>h.2.2.2.2⟩
    ·refine zg ?_;refine bf ?_;exact(decide_eq_false fun h=>h4 h.2.2.2.1).symm
   ·refine zg ?_;refine bf ?_;exact(decide_eq_false fun h=>h3 h.2.2.1).symm
  ·refine zg ?_;refine bf ?_;exact(decide_eq_false fun h=>h2 h.2.1).symm
 ·refine zg ?_;refine bf ?_;exact(decide_eq_false fun h=>h1 h.1).symm⟩
theorem arM{r c i k:Nat}{l:List Q4}{q:Q4}(hq:l[i*c+k]? =some q)(hi:i<=100)(hc:c<=100)(hk:k<=100):
  ah prog 231 [.agg (wY r c l),.v (.int .i64 (i:Int)),.v (.int .i64 (k:Int))] (.agg (q4A q)):=by
 have hb:=zxd hi hc;have hlt:i*c+k < l.length:=by
  rcases zyd (i*c+k) l.length with h|h
  ·exact h
  ·rw[zqe h]at hq;cases hq
 refine ah.fq func231 results231 ntmps231 fun _ _ _ _ _=>?_
 refine zg ?_;exact nP ak.rV rfl
def piC(n:Nat):List CA:=[.val (.int .i64 (n:Int))]
abbrev PivE(ps:List Nat):Ent:= .row 3 1 ps.length (ps.flatMap piC)
abbrev zO(r c:Nat)(x:Rep):List Atom:=[.c (.val (.int .i64 (r:Int))),.c (.val (.int .i64 (c:Int))),.c (.sat x)]
def fi{α:Type}(p:α->Bool):List α->Nat->Int
 |[],_=> -1
 |a::l,k=>if p a then(k:Int)else fi p l (k+1)
theorem tK{α:Type}{p:α->Bool}{l:List α}{k:Nat}{a:α}(h:l[k]? =some a):fi p (l.drop k) k=if p a then(k:Int)else fi p (l.drop (k+1)) (k+1):=by
 have hk:k < l.length:=by
  rcases zyd k l.length with h2|h2
  ·exact h2
  ·rw[zqe h2]at h;cases h
 rw[zy4 hk];rw[zyh hk]at h
 rw[zy7 h];rfl
def nz(col:Nat)(r:List Rat):Bool:=decide (r.getD col 0≠0)
def mlL(s:List Rat)(f:Rat)(k:Nat):List Rat:=(s.take k).map (· *f)++s.drop k
def anc(M:List (List Rat))(top col:Nat):Int:=fi (nz col) (M.drop top) 0
def sw{α:Type}(l:List α)(i j:Nat):List α:=match l[i]?,l[j]? with|some a,some b=>(l.set i b).set j a|_,_=>l
def atm(M:List (List Rat))(top i col:Nat):List Rat:=let s:=(sw M top (top+i)).getD top [];mlL s (1 / s.getD col 0) s.length
def colR(by_:List Rat)(col:Nat)(r:List Rat):List Rat:=tkL r by_ (r.getD col 0) r.length
def colM(M:List (List Rat))(top col:Nat):List (List Rat):=if anc M top col < 0 then M else
 ((sw M top (top+(anc M top col).toNat)).map (colR (atm M top (anc M top col).toNat col) col)).set top (atm M top (anc M top col).toNat col)
def colP(M:List (List Rat))(ps:List Nat)(col:Nat):List Nat:=if anc M ps.length col < 0 then ps else ps++[col]
theorem ajD{α:Type}{p:α->Bool}:∀(l:List α) (k:Nat),¬fi p l k < 0->∃i a,fi p l k=((k+i:Nat):Int)/\l[i]? =some a/\p a=true
 |[],k,h=>absurd (show (-1:Int) < 0 by decide) h
 |a::l,k,h=>by
  unfold fi at h ⊢;cases hp:p a with
  |true=>exact⟨0,a,by simp,rfl,hp⟩
  |false=>
   rw[hp]at h;obtain⟨i,b,h1,h2,h3⟩:=ajD l (k+1) h;exact⟨i+1,b,by rw[if_neg zc,h1];congr 1;omega,h2,h3⟩
theorem ano{js:List Nat}(h:js.Nodup){i k a b:Nat}(hi:js[i]? =some a)(hk:js[k]? =some b)(hne:i≠k):a≠b:=by
 rintro rfl;have hil:i < js.length:=by
  rcases zyd i js.length with h|h
  ·exact h
  ·rw[zqe h]at hi;cases hi
 exact hne ((List.getElem?_inj hil h).1 (hi.trans hk.symm))
theorem ae2{α β:Type}(g:α->β)(l:List α)(i:Nat)(a:α):(l.map g).set i (g a)=(l.set i a).map g:=by rw[List.map_set]
theorem au8{α β:Type}(g:α->β){l:List α}{i j:Nat}{a b:α}(ha:l[i]? =some a)(hb:l[j]? =some b):sw (l.map g) i j=((l.set i b).set j a).map g:=by
 unfold sw;rw[zqa,zqa,ha,hb]
 show ((l.map g).set i (g b)).set j (g a)=_;rw[ae2,ae2]
theorem anu{js:List Nat}{t u ja jb:Nat}(hnd:js.Nodup)(ha:js[t]? =some ja)(hb:js[u]? =some jb):((js.set t jb).set u ja).Nodup:=by
 have htl:t < js.length:=by
  rcases zyd t js.length with h|h
  ·exact h
  ·rw[zqe h]at ha;cases ha
 have hul:u < js.length:=by
  rcases zyd u js.length with h|h
  ·exact h
  ·rw[zqe h]at hb;cases hb
 show List.Pairwise (· ≠ ·) _;rw[List.pairwise_iff_getElem];intro x y hx hy hxy e0;have e:=(zyh hx).trans ((congrArg some e0).trans (zyh hy).symm)
 rw[zvf,zvf]at hx hy;have key:∀z,z < js.length->((js.set t jb).set u ja)[z]? =js[if z=u then t else if z=t then u else z]? :=by
  intro z hz;rw[zv2,zv2]
  by_cases h1:u=z
  ·rw[if_pos h1,if_pos h1.symm,if_pos (by rw[zvf];exact hul),ha]
  ·have h1':¬z=u:=fun e=>h1 e.symm
   rw[if_neg h1,if_neg h1'];by_cases h2:t=z
   ·rw[if_pos h2,if_pos h2.symm,if_pos htl,hb]
   ·have h2':¬z=t:=fun e=>h2 e.symm
    rw[if_neg h2,if_neg h2']
 rw[key x zE,key y zE]at e
 have hz:(if x=u then t else if x=t then u else x) < js.length:=by
  split
  ·exact htl
  ·split
   ·exact hul
   ·omega
 have:=(List.getElem?_inj hz hnd).1 e
 revert this
 repeat' split
 all_goals omega
def bZ:Nat->Nat->List (List Rat)->List Nat->List (List Rat)×List Nat
 |0,_,M,ps=>(M,ps)
 |n+1,col,M,ps=>if ps.length < M.length then bZ n (col+1) (colM M ps.length col) (colP M ps col)else(M,ps)
def kb(K:Nat):Nat->Nat
 |0=>K
 |n+1=>kb (4*K+2) n
theorem auM{α:Type}{l:List α}{i j:Nat}{x:α}(h:x∈sw l i j):x∈l:=by
 unfold sw at h
 split at h
 ·rename_i a b ha hb;rcases List.mem_or_eq_of_mem_set h with h|h
  ·rcases List.mem_or_eq_of_mem_set h with h|h
   ·exact h
   ·rw[h];exact zq4 hb
  ·rw[h];exact zq4 ha
 ·exact h
theorem atG{α:Type}{l:List α}{i j:Nat}:(sw l i j).length=l.length:=by
 unfold sw
 split
 ·rw[zvf,zvf]
 ·rfl
theorem abC{α:Type}{l:List α}{i:Nat}{d:α}(h:i < l.length):l.getD i d∈l:=by
 rw[zx7,zyh h];exact List.getElem_mem h
structure RdS where
 col:Nat
 M:List (List Rat)
 ps:List Nat
end
section
theorem weakArgs{P:Program}{f:FuncId}{args args':List AV}{r:AV}(h:ah P f args' r)(hi:∀E S w vs,aK (AV.has E S w) args vs->aK (AV.has E S w) args' vs):ah P f args r:=
 ⟨h.1,fun E S w vs hl hg hv a b c=>h.2 E S w vs hl hg (hi E S w vs hv) a b c⟩
attribute [local irreducible] IntKind.wrap Go1 Reg WP aJ aN bF bD aM aA ak aj aT Sat
attribute [local irreducible] bK bO bM bS bN qv
abbrev q4v(v:Rat):Q4:=(decide (v.num < 0),bU v.num.natAbs,decide ((v.den:Int) < 0),bU (v.den:Int).natAbs)
theorem akw{α:Type}{enc:α->List CA}{size:Nat}{S:Nat->Prop}{w:World}:(aB size enc ([]:List α)).has S w (.slice none 0 0):=
 bY.2 ⟨none,0,rfl,zq6 _,zq8 _,fun _=>rfl,by simp,fun i c h=>by simp at h⟩
end
end Go.Proofs.YthnkfhfcgjoieaaGreatDoor
namespace LA
def sm:Nat->(Nat->Rat)->Rat
 |0,_=>0
 |n+1,f=>sm n f+f n
def Sp(n W:Nat)(m:Nat->Nat->Rat)(v:Nat->Rat):Prop:=∃c:Nat->Rat,∀k,k < W->v k=sm n (fun r=>c r*m r k)
structure Eqv(n n' W:Nat)(m m':Nat->Nat->Rat):Prop where
 fwd:∀r,r < n'->Sp n W m (m' r)
 back:∀r,r < n->Sp n' W m' (m r)
structure Rref(n w:Nat)(m:Nat->Nat->Rat)(ps:List Nat):Prop where
 len:ps.length<=n
 inc:ps.Pairwise (· < ·)
 lt:∀p∈ps,p < w
 one:∀i p,ps[i]? =some p->∀r,r < n->m r p=if r=i then 1 else 0
 low:∀i p,ps[i]? =some p->∀k,k < p->m i k=0
 zero:∀r,ps.length<=r->r < n->∀k,k < w->m r k=0
end LA
namespace Go.Proofs.YthnkfhfcgjoieaaGreatDoor
section
open LA
def mf(M:List (List Rat))(r k:Nat):Rat:=(M.getD r []).getD k 0
theorem ajb{α:Type}{p:α->Bool}:∀{l:List α} {k:Nat},fi p l k < 0->∀a∈l,p a=false
 |[],k,_,a,h=>by cases h
 |b::l,k,h,a,ha=>by
  unfold fi at h;cases hp:p b with
  |true=>rw[hp]at h;simp at h;omega
  |false=>
   rw[hp]at h;rcases zy3.1 ha with rfl|ha
   ·exact hp
   ·exact ajb (k:=k+1) (by simpa using h) a ha
structure ColS(n W:Nat)(m m':Nat->Nat->Rat)(top i col:Nat):Prop where
 hi:top<=i/\i < n
 ne:m i col≠0
 at_:∀r,r < n->∀k,k < W->m' r k=if r=top then m i k / m i col else(if r=i then m top k else m r k) - (if r=i then m top col else m r col)*(m i k / m i col)
section
section
variable{r c d:Nat}{va vb:Nat->Nat->Rat}
end
end
end
open Go.RowKit QM SX
attribute [local irreducible] IntKind.wrap Go1 Reg WP aJ aN bF bD aM aA ak aj aT Sat
section
open Go.RowKit QM SX
attribute [local irreducible] bK bO bM bS bN qv mf
attribute [local irreducible] bZ
theorem Ra.rb{l:List Atom}{v:Rat}{K:Nat}(h:Ra l v K)(hK:1<=K):RB v K:=by
 obtain⟨x0,x1,x2,x3,p,q,k,m,_,_,_,h1,h2,h3,h4,h5⟩:=h.h;by_cases hq:q=0
 ·subst hq;have:v=0:=by rw[<-h5];unfold qv;grind
  rw[this];exact RB.zero hK
 ·exact RB.of hq h5 (zqf h3.h (zx2 aZ h1)) (zqf h4.h (zx2 aZ h2))
def vat(vs:List Rat)(c i k:Nat):Rat:=vs.getD (i*c+k) 0
theorem aaT{r c i k:Nat}(hi:i < r)(hk:k < c):i*c+k < r*c:=by
 have:=zx1 c (show i+1<=r from hi)
 rw[zv8]at this;omega
theorem apd{vs:List Rat}{r c i k:Nat}(hl:vs.length=r*c)(hi:i < r)(hk:k < c):vs[i*c+k]? =some (vat vs c i k):=by
 have h:=aaT hi hk;unfold vat;rw[zx7,zyh zE];rfl
theorem MV.rb{l:List Q4}{vs:List Rat}{K:Nat}(h:MV l vs K)(hK:1<=K):∀v∈vs,RB v K:=by
 intro v hv;obtain⟨i,hi⟩:=List.mem_iff_getElem?.1 hv;have hlt:i < vs.length:=by
  rcases zyd i vs.length with h|h
  ·exact h
  ·rw[zqe h]at hi;cases hi
 exact Ra.rb (h.ra i _ v (zyh (show i < l.length by rw[h.len];exact hlt)) hi) hK
theorem aed{c:Nat}{val:Nat->Nat->Rat}{k:Nat}(hk:k < c):∀{r i:Nat},i < r->(lZ c val r)[i*c+k]? =some (val i k)
 |0,i,h=>absurd h (zvj _)
 |r+1,i,h=>by
  rw[yu];by_cases hi:i < r
  ·rw[zyj (by rw[ny];exact aaT hi hk)]
   exact aed hk hi
  ·obtain rfl:i=r:=zE
   rw[zv6 (by rw[ny];omega),ny,Nat.add_sub_cancel_left,zqa,zvb hk];rfl
theorem MV.made{vs:List Rat}{K:Nat}(h:∀v∈vs,RB v K):MV (vs.map q4v) vs K:=by
 refine⟨zq5 _,fun i q v hq hv=>?_⟩
 rw[zqa,hv]at hq
 cases hq;exact(h v (zq4 hv)).ra
theorem ac3(r c:Nat)(l:List Rat):amq r c l=wY r c (l.map q4v):=by
 have e:aB 4 qC l=aB 4 q4C (l.map q4v):=by
  show aQ 4 l.length (l.flatMap qC)=aQ 4 (l.map q4v).length ((l.map q4v).flatMap q4C);rw[zq5,List.flatMap_map]
 unfold amq wY;rw[e]
theorem zY{r c:Nat}{n:Nat}{cells:List CA}(hl:n=r*c)(hr:r<=64)(hc:c<=64):ah prog 178 [.agg [.c (.val (.int .i64 (r:Int))),.c (.val (.int .i64 (c:Int))),.c (.sat (aQ 4 n cells))]] (.v (.bool true)):=by
 have h:=(ab8 (r:Int) (c:Int) (n:=n) (cells:=cells)).h trivial;rw[decide_eq_true (show 0<=(r:Int)/\(r:Int)<=64/\0<=(c:Int)/\(c:Int)<=64/\(n:Int)=(r:Int)*(c:Int)from ⟨zE,zE,zE,zE,by rw[hl];simp⟩)]at h
 exact h
abbrev mat0:List Atom:=[.c (.val (.int .i64 0)),.c (.val (.int .i64 0)),.c (.val (.slice none 0 0))]
abbrev eNo(z:Int):AV0:= .one (.c (.val (.int .i64 z)))
def qp(r c:Int)(n:Nat):Prop:=0<=r/\r<=64/\0<=c/\c<=64/\(n:Int)=r*c
end
section
open Go.RowKit QM SX
attribute [local irreducible] bK bO bM bS bN qv bZ mf
theorem an8{f:FuncId}{E:Env}{S:Nat->Prop}{w:World}{v:Value}(h:(AV.it (.one (.clo f []))).has E S w v):(AV.it (.one (.c (.sat (fD f [] []))))).has E S w v:=
 ⟨[],[],h,trivial,trivial⟩
abbrev jD:=Bool×List Nat×Bool×List Nat
abbrev rq(x:jD):Q4:=(x.1,bL x.2.1,x.2.2.1,bL x.2.2.2)
def rqv(x:jD):Rat:=qv (sgn x.1 (nval WB x.2.1)) (sgn x.2.2.1 (nval WB x.2.2.2))
def RSm(l:List jD):Prop:=∀x∈l,Sm WB x.2.1/\Sm WB x.2.2.2
def RLen(l:List jD)(K:Nat):Prop:=∀x∈l,x.2.1.length<=K/\x.2.2.2.length<=K
theorem MV.raw{l:List jD}{K:Nat}(hs:RSm l)(hl:RLen l K):MV (l.map rq) (l.map rqv) K:=by
 refine⟨by rw[zq5,zq5],fun i q v hq hv=>?_⟩
 rw[zqa]at hq hv
 cases hx:l[i]? with
 |none=>rw[hx]at hq;cases hq
 |some x=>
  rw[hx]at hq hv;cases hq;cases hv;have h1:=hs x (zq4 hx);have h2:=hl x (zq4 hx);exact Ra.raw ⟨zy h1.1 (zq6 _)⟩ ⟨zy h1.2 (zq6 _)⟩ h2.1 h2.2
def FewP(r c:Int)(l:List jD)(s w:Int):Prop:=(∀k x,k < 100->l[k]? =some x->(x.2.1.length:Int)<=w/\(x.2.2.2.length:Int)<=w)/\r<=s/\c<=s/\l.length<=100
end
section
open Go.RowKit QM SX LA
attribute [local irreducible] bK bO bM bS bN qv bZ mf
section
section
variable{l l':List Atom}{v:Rat}{K K':Nat}
end
theorem anb:ah prog 11 [.v (.int .i64 1)] (.agg (zN 1)):=wL.h ⟨zc,zc⟩
theorem qJ{α:Type}{l:List α}{i:Nat}{a:α}(h:l[i]? =some a):i < l.length:=by
 rcases zyd i l.length with h2|h2
 ·exact h2
 ·rw[zqe h2]at h;cases h
end
abbrev Z2:=Bool×Rep
abbrev z2A(q:Z2):List Atom:=[.c (.val (.bool q.1)),.c (.sat q.2)]
abbrev z2C(q:Z2):List CA:=[.val (.bool q.1),.sat q.2]
instance:eY z2C 2:=⟨fun _=>rfl⟩
abbrev zC(z:Int):List CA:=[.val (.bool (decide (z < 0))),.sat (bU z.natAbs)]
instance:eY zC 2:=⟨fun _=>rfl⟩
abbrev z2v(z:Int):Z2:=(decide (z < 0),bU z.natAbs)
structure ZQ(q:Z2)(z:Int)(K:Nat):Prop where
 h:∃n k,z=sgn q.1 n/\NI (.sat q.2) n k/\k<=K
 b:z.natAbs < WB ^ K
theorem NI.le{a:CA}{n k K:Nat}(x:NI a n k)(hK:k<=K):NI a n K:=⟨fun S w v h=>by
 obtain⟨l,h1,h2,h3⟩:=xE.1 (x.p S w v h);exact xE.2 ⟨l,h1,zxf h2 hK,h3⟩⟩
theorem ZQ.zi{q:Z2}{z:Int}{K:Nat}(h:ZQ q z K):ZI (z2A q) z K:=by
 obtain⟨n,k,h1,h2,h3⟩:=h.h;exact h1▸ZI.mk' (neg:=q.1) (h2.le h3)
theorem aj6(z:Int):sgn (decide (z < 0)) z.natAbs=z:=by
 unfold sgn;by_cases h:z < 0
 ·rw[decide_eq_true h];simp;omega
 ·rw[decide_eq_false h];simp;omega
theorem ZQ.made{z:Int}{K:Nat}(h:z.natAbs < WB ^ K):ZQ (z2v z) z K:=
 ⟨⟨z.natAbs,K,(aj6 z).symm,NI.adu h,zq6 _⟩,h⟩
theorem ZQ.raw{b:Bool}{l:List Nat}{K:Nat}(hs:Sm WB l)(hl:l.length<=K):ZQ (b,bL l) (sgn b (nval WB l)) K:=
 ⟨⟨_,_,rfl,NI.raw l,hl⟩,by
  have h1:(sgn b (nval WB l)).natAbs=nval WB l:=by unfold sgn;split <;> omega
  rw[h1];exact zqf (zy hs (zq6 _)) (zx2 aZ hl)⟩
theorem ZQ.mono{q:Z2}{z:Int}{K L:Nat}(h:ZQ q z K)(hK:K<=L):ZQ q z L:=by
 obtain⟨n,k,h1,h2,h3⟩:=h.h;exact⟨⟨n,k,h1,h2,zE⟩,zqf h.b (zx2 aZ hK)⟩
theorem ZQ.ra{q d:Z2}{z y:Int}{K L:Nat}(h:ZQ q z K)(k:ZQ d y L):Ra (q4A (q.1,q.2,d.1,d.2)) (qv z y) (max K L):=by
 exact⟨_,_,_,_,z,y,K,L,rfl,h.zi,k.zi,zE,zE,⟨h.b⟩,⟨k.b⟩,rfl⟩
structure MZ(l:List Z2)(zs:List Int)(K:Nat):Prop where
 len:l.length=zs.length
 z:∀(i:Nat) q z,l[i]? =some q->zs[i]? =some z->ZQ q z K
abbrev adp(r c:Nat)(l:List Z2):List Atom:=[.c (.val (.int .i64 (r:Int))),.c (.val (.int .i64 (c:Int))),.c (.sat (aB 2 z2C l))]
abbrev aay(r c:Nat)(l:List Int):List Atom:=[.c (.val (.int .i64 (r:Int))),.c (.val (.int .i64 (c:Int))),.c (.sat (aB 2 zC l))]
def zat(zs:List Int)(c i k:Nat):Int:=zs.getD (i*c+k) 0
theorem aej{zs:List Int}{r c i k:Nat}(hl:zs.length=r*c)(hi:i < r)(hk:k < c):zs[i*c+k]? =some (zat zs c i k):=by
 have h:=aaT hi hk;unfold zat;rw[zx7,zyh zE];rfl
theorem MZ.at{r c i k K:Nat}{l:List Z2}{zs:List Int}(hM:MZ l zs K)(hl:l.length=r*c)(hi:i < r)(hk:k < c):∃q,l[i*c+k]? =some q/\ZQ q (zat zs c i k) K:=by
 have h:=aaT hi hk;obtain⟨q,hq⟩:∃q,l[i*c+k]? =some q:=⟨_,zyh zE⟩
 exact⟨q,hq,hM.z _ _ _ hq (aej (by rw[<-hM.len];exact hl) hi hk)⟩
theorem acn(r c:Nat)(l:List Int):aay r c l=adp r c (l.map z2v):=by
 have e:aB 2 zC l=aB 2 z2C (l.map z2v):=by
  show aQ 2 l.length (l.flatMap zC)=aQ 2 (l.map z2v).length ((l.map z2v).flatMap z2C);rw[zq5,List.flatMap_map]
 unfold aay adp;rw[e]
theorem MZ.made{zs:List Int}{K:Nat}(h:∀z∈zs,z.natAbs < WB ^ K):MZ (zs.map z2v) zs K:=by
 refine⟨zq5 _,fun i q z hq hz=>?_⟩
 rw[zqa,hz]at hq
 cases hq;exact ZQ.made (h z (zq4 hz))
instance sQ(n:Int):Con prog 189 [.v (.int .i64 n)] True (.v (.bool (decide (0<=n/\n<=64)))):=⟨fun _=>by
 refine ah.fq func189 results189 ntmps189 fun _ _ _ _ _=>?_
 by_cases h1:n≥0
 ·by_cases h2:n<=64
  ·refine zg ?_;refine bf ?_;rw[decide_eq_true (show 0<=n/\n<=64 from ⟨h1,h2⟩)];exact decide_eq_true h2
  ·refine zg ?_;refine bf ?_;rw[decide_eq_false (show¬(0<=n/\n<=64)from fun h=>h2 h.2)];exact decide_eq_false h2
 ·refine zg ?_;refine bf ?_;rw[decide_eq_false (show¬(0<=n/\n<=64)from fun h=>h1 h.1)]⟩
theorem ae6(r c:Int){n:Nat}{cells:List CA}(goal:Bool)(hg:goal=true↔qp r c n):ah prog 194 [.agg [.c (.val (.int .i64 r)),.c (.val (.int .i64 c)),.c (.sat (aQ 2 n cells))]] (.v (.bool goal)):=by
 have s1:=(sQ r).h trivial;have s2:=(sQ c).h trivial;refine ah.fq func194 results194 ntmps194 fun _ _ _ _ _=>?_
 by_cases h1:0<=r/\r<=64
 ·rw[decide_eq_true h1]at s1;by_cases h2:0<=c/\c<=64
  ·rw[decide_eq_true h2]at s2;have hp:0<=r*c:=Int.mul_nonneg h1.1 h2.1;have hp2:r*c<=64*64:=Int.mul_le_mul h1.2 h2.2 h2.1 zc
   refine zg ?_;refine bf ?_;rw[zyc,hg,decide_eq_true_iff];exact⟨fun h=>⟨h1.1,h1.2,h2.1,h2.2,h⟩,fun h=>h.2.2.2.2⟩
  ·rw[decide_eq_false h2]at s2;refine zg ?_;refine bf ?_;exact(Bool.eq_false_iff.2 fun ht=>h2 ⟨(hg.1 ht).2.2.1,(hg.1 ht).2.2.2.1⟩).symm
 ·rw[decide_eq_false h1]at s1;refine zg ?_;refine bf ?_;exact(Bool.eq_false_iff.2 fun ht=>h1 ⟨(hg.1 ht).1,(hg.1 ht).2.1⟩).symm
theorem ait{r c:Int}{n:Nat}{cells:List CA}(h:qp r c n):ah prog 194 [.agg [.c (.val (.int .i64 r)),.c (.val (.int .i64 c)),.c (.sat (aQ 2 n cells))]] (.v (.bool true)):=ae6 r c true ⟨fun _=>h,fun _=>rfl⟩
theorem qp.nat{r c n:Nat}(hr:r<=64)(hc:c<=64)(h:n=r*c):qp r c n:=⟨zE,zE,zE,zE,by rw[h];simp⟩
theorem aok{r c i k:Nat}{l:List Z2}{q:Z2}(hq:l[i*c+k]? =some q)(hi:i<=1000)(hc:c<=1000)(hk:k<=1000):
  ah prog 331 [.agg (adp r c l),.v (.int .i64 (i:Int)),.v (.int .i64 (k:Int))] (.agg (z2A q)):=by
 have hb:=zxd hi hc;have hlt:=qJ hq;refine ah.fq func331 results331 ntmps331 fun _ _ _ _ _=>?_
 refine zg ?_;exact nP ak.dP rfl
theorem aph{r c i:Nat}{l:List Z2}(h:i < r):ah prog 330 [.agg (adp r c l),.v (.int .i64 (i:Int))] (.v (.bool true)):=by
 refine ah.fq func330 results330 ntmps330 fun _ _ _ _ _=>?_
 refine zg ?_;refine bf ?_;exact decide_eq_true zE
theorem adV{q:Z2}{z:Int}{K:Nat}(h:ZQ q z K)(hK:K<=1000000):ah prog 37 [.it (.one (.c (.sat q.2))),.v (.bool q.1)] (.agg (zN z)):=by
 obtain⟨n,k,h1,h2,h3⟩:=h.h;rw[h1];exact acX (h:=h2) q.1 |>.h zE
theorem akp{r c i k:Nat}{l:List Z2}{zs:List Int}{K:Nat}(hM:MZ l zs K)(hl:l.length=r*c)(hr:r<=64)(hc:c<=64)(hi:i < r)(hk:k < c)(hK:K<=1000000):
  ah prog 204 [.agg (adp r c l),.v (.int .i64 (i:Int)),.v (.int .i64 (k:Int))] (.agg (zN (zat zs c i k))):=by
 obtain⟨q,hq,hz⟩:=hM.at hl hi hk;have cg:=aok (r:=r) hq zE zE zE
 have ch:=aph (c:=c) (l:=l) hi;have cF:=ait (cells:=l.flatMap z2C) (qp.nat hr hc hl);have cR:=adV hz hK;refine ah.fq func204 results204 ntmps204 fun _ _ _ _ _=>?_
 refine zg ?_;exact nP ak.dP rfl
def lX(c:Nat)(val:Nat->Nat->Int)(i:Nat):List Int:=(List.range i).flatMap fun i=>(List.range c).map (val i)
theorem alc{c:Nat}{val:Nat->Nat->Int}:lX c val 0=[]:=rfl
theorem adh{c i:Nat}{val:Nat->Nat->Int}:lX c val (i+1)=lX c val i++(List.range c).map (val i):=by
 unfold lX;rw[List.range_succ,zvc];simp
theorem wQ{c:Nat}{val:Nat->Nat->Int}:∀i,(lX c val i).length=i*c
 |0=>by simp[alc]
 |i+1=>by rw[adh,zqi,wQ i];simp[zv8]
theorem arC{c r K:Nat}{val:Nat->Nat->Int}(h:∀i k,i < r->k < c->(val i k).natAbs < WB ^ K):∀v∈lX c val r,v.natAbs < WB ^ K:=by
 intro v hv;unfold lX at hv;obtain⟨i,hi,hv⟩:=zx9.1 hv;obtain⟨k,hk,rfl⟩:=zqg.1 hv;exact h i k (List.mem_range.1 hi) (List.mem_range.1 hk)
def abT(val:Nat->Nat->Int)(i k:Nat):List Int:=(List.range k).map (val i)
theorem alf{val:Nat->Nat->Int}{i k:Nat}:abT val i (k+1)=abT val i k++[val i k]:=by
 unfold abT;rw[List.range_succ,List.map_append];rfl
theorem al0(r c:Nat)(x:CA)(L:Nat->Nat->Z2)(val:Nat->Nat->Int)(K:Nat)(hr:r<=100)(hc:c<=100)(hK:K<=1000000)
  (hx:∀i k,i < r->k < c->FnV prog x [.v (.int .i64 (i:Int)),.v (.int .i64 (k:Int))] (.agg (z2A (L i k)))) (hL:∀i k,i < r->k < c->ZQ (L i k) (val i k) K) (hx1:x.eO=true):
  ah prog 190 [.v (.int .i64 (r:Int)),.v (.int .i64 (c:Int)),.it (.one (.c x))] (.agg (aay r c (lX c val r))):=by
 refine ah.fq func190 results190 ntmps190 fun _ _ _ _ _=>?_
 refine zg ?_;refine W.loop (fun i=>i<=r) (fun i=>[(1,.v (.int .i64 (c:Int))),(2,.it (.one (.c x))),(6,.ptr 6 0),(7,.ptr 7 0),(14,.v (.int .i64 (r:Int))),(15,.v (.int .i64 (i:Int)))]) (fun i=>[(6,.box 153 [.c (.val (.int .i64 0)),.c (.val (.int .i64 0)),.c (.val (.slice none 0 0))]),(7,.box 153 [.c (.val (.int .i64 (r:Int))),.c (.val (.int .i64 (c:Int))),.own 100]),(100,.row 25 2 (i*c) ((lX c val i).flatMap zC))]) (fun i=>r - i) 0 (zq8 _) (fun i hi=>?_)
  (by
   refine St.bV [(100,none)] zt ?_ ?_ rfl
   ·exact ya
   ·exact⟨ay.same rfl rfl,ay.nW rfl rfl ⟨aD.same rfl,aD.same rfl,aD.nil rfl,trivial⟩,by rw[zw3];exact ay.dZ rfl,trivial⟩)
 by_cases h:i < r
 ·refine zg ?_;refine W.loop (fun k=>k<=c) (fun k=>[(1,.v (.int .i64 (c:Int))),(2,.it (.one (.c x))),(6,.ptr 6 0),(7,.ptr 7 0),(8,.v (.int .i64 (i:Int))),(14,.v (.int .i64 (r:Int))),(15,.v (.int .i64 (i:Int))),(18,.v (.int .i64 (c:Int))),(19,.v (.int .i64 (k:Int)))]) (fun k=>[(6,.box 153 [.c (.val (.int .i64 0)),.c (.val (.int .i64 0)),.c (.val (.slice none 0 0))]),(7,.box 153 [.c (.val (.int .i64 (r:Int))),.c (.val (.int .i64 (c:Int))),.own 100]),(100,.row 25 2 (i*c+k) ((lX c val i++abT val i k).flatMap zC))]) (fun k=>c - k) 0 (zq8 _) (fun k hk=>?_)
   (by
    have e:Ent.row 25 2 (i*c) ((lX c val i).flatMap zC)=Ent.row 25 2 (i*c+0) ((lX c val i++abT val i 0).flatMap zC):=by simp[abT]
    refine St.bV [] zt ?_ ?_ rfl
    ·exact ya
    ·exact⟨ay.same rfl rfl,ay.same rfl rfl,ay.eq rfl e rfl,trivial⟩)
  by_cases h2:k < c
  ·have hf:=hx i k h h2;have cR:=adV (hL i k h h2) hK;have hlen:i*c+k<=20000:=by
    have:=zxd (show i<=100 by omega) hc
    omega
   refine zg ?_;refine W.next (k+1) h2 zE (by
    have e2:(lX c val i++abT val i k).flatMap zC++zC (val i k)=(lX c val i++abT val i (k+1)).flatMap zC:=by
     rw[alf,<-zqj,zvc (xs:=lX c val i++abT val i k)];simp
    refine St.bV [(100,some 34)] zt ?_ ?_ rfl
    ·exact ya
    ·exact⟨ay.same rfl rfl,ay.nW rfl rfl ⟨aD.same rfl,aD.same rfl,aD.own rfl,trivial⟩,ay.row rfl rfl zE e2,trivial⟩)
  ·obtain rfl:k=c:=zE
   refine zg ?_;refine W.next (i+1) h zE (by
    have e2:Ent.row 25 2 (i*k+k) ((lX k val i++abT val i k).flatMap zC)=Ent.row 25 2 ((i+1)*k) ((lX k val (i+1)).flatMap zC):=by rw[zv8,adh];rfl
    refine St.bV [] zt ?_ ?_ rfl
    ·exact ya
    ·exact⟨ay.same rfl rfl,ay.same rfl rfl,ay.eq rfl e2 rfl,trivial⟩)
 ·obtain rfl:i=r:=zE
  refine zg ?_;have hm:aay i c (lX c val i)=[.c (.val (.int .i64 (i:Int))),.c (.val (.int .i64 (c:Int))),.c (.sat (aQ 2 (i*c) ((lX c val i).flatMap zC)))]:=by
   show [_,_,Atom.c (.sat (aQ 2 (lX c val i).length _))]=_;rw[wQ]
  rw[hm];refine aM.frz 100 ?_;exact nP ak.bQ rfl
theorem auk{z:Int}(h1: -9223372036854775808<=z)(h2:z<=9223372036854775807):z.natAbs < WB ^ 1:=by
 rw[zxh,dn];omega
end
section
open Go.RowKit QM SX LA
section
section
attribute [local irreducible] bK bO bM bS bN qv bZ mf
theorem amr{r c i k:Nat}{l:List Z2}{zs:List Int}{K:Nat}{d:Z2}(hM:MZ l zs K)(hl:l.length=r*c)(hr:r<=64)(hc:c<=64)(hi:i < r)(hk:k < c)(hK:K<=1000000):
  ah prog 405 [.v (.int .i64 (i:Int)),.v (.int .i64 (k:Int)),.r (dK [.val (.int .i64 (r:Int)),.val (.int .i64 (c:Int)),.sat (aB 2 z2C l)]),.r (dK [.val (.bool d.1),.sat d.2])] (.agg (q4A ((z2v (zat zs c i k)).1,(z2v (zat zs c i k)).2,d.1,d.2))):=by
 have cA:=akp hM hl hr hc hi hk hK;refine ah.fq func405 results405 ntmps405 fun _ _ _ _ _=>?_
 refine zg ?_;exact nP ak.rV rfl
theorem amR{r c:Nat}{l:List Z2}{zs:List Int}{K L:Nat}{d:Z2}{y:Int}(hM:MZ l zs K)(hl:l.length=r*c)(hr:r<=64)(hc:c<=64)(hd:ZQ d y L)(hy:y≠0)(hK:K<=10000)(hL:L<=10000)(hKL:K<=L):
  ah prog 319 [.agg (adp r c l),.agg (z2A d)] (.tup [.agg (amq r c (lZ c (fun i k=>qv (zat zs c i k) y) r)),eNo 0]):=by
 have cF:=ait (cells:=l.flatMap z2C) (qp.nat hr hc hl)
 haveI:=hd.zi
 have cS:=(sU (l:=z2A d) (x:=y)).h zE
 have hs:¬aS y=0:=fun e=>hy ((adE y).1 e)
 have cM:=aga r c (.sat (fD 405 [] [.sat (dK [.val (.int .i64 (r:Int)),.val (.int .i64 (c:Int)),.sat (aB 2 z2C l)]),.sat (dK [.val (.bool d.1),.sat d.2])])) (fun i k=>((z2v (zat zs c i k)).1,(z2v (zat zs c i k)).2,d.1,d.2)) (fun i k=>qv (zat zs c i k) y) (max K L) zE zE zE
  (fun i k hi hk=>FnV.clo (amr hM hl hr hc hi hk zE))
  (fun i k hi hk=>by
   obtain⟨q,_,hz⟩:=hM.at hl hi hk;exact(ZQ.made hz.b).ra hd) rfl
 refine ah.fq func319 results319 ntmps319 fun _ _ _ _ hB=>?_
 refine zg ?_;refine WP.jo 2 hB rfl rfl ?_;refine WP.jo 3 hB rfl rfl ?_;refine WP.aG ?_;refine zg ?_;exact .ok (aA.mk2 ak.bQ (ak.tmp rfl))
theorem zq1:ZQ (z2v 1) 1 1:=ZQ.made (by rw[zxh,dn];decide)
theorem aqC{r c:Nat}{l:List Z2}{zs:List Int}{K:Nat}(hM:MZ l zs K)(hl:l.length=r*c)(hr:r<=64)(hc:c<=64)(hK:K<=10000)(hK1:1<=K):
  ah prog 199 [.agg (adp r c l)] (.tup [.agg (amq r c (lZ c (fun i k=>qv (zat zs c i k) 1) r)),eNo 0]):=by
 have o1:=anb;have cO:=amR hM hl hr hc (zq1.mono hK1) zc hK hK (zq6 _)
 refine ah.fq func199 results199 ntmps199 fun _ _ _ _ _=>?_
 refine zg ?_;exact .ok (aA.mk2 ak.bQ (ak.tmp rfl))
end
end
section
def awV:List Rat:=lZ 2 (fun i k=>qv (zat (lX 2 (zat [1,2,3,4] 2) 2) 2 i k) 1) 2
section
attribute [local irreducible] bK bO bM bS bN qv bZ mf awV
end
end
end
