import Derived.Test.YtcamgbgfelmbaaaGreatDoorO9
import Derived.Test.YtcamgbgfelmbaaaGreatDoorO6
import Derived.Test.YtcamgbgfelmbaaaGreatDoorO3
import Derived.Test.YtcamgbgfelmbaaaGreatDoorO12
set_option linter.all false
open Go.Proofs.Tryz
namespace Go.Proofs.YtcamgbgfelmbaaaGreatDoor
open Go.RowKit QM SX LA
structure PsK(S L K K':Nat)(b:List Int)(n:Nat)(q a:List Int):Prop where
 le:n<=S
 p:pN a
 l:a.length < n+b.length
 aL:a.length<=L
 qL:q.length<=S
 a:∀z∈a,z.natAbs < WB ^ (K+(S - n)*(K'+1))
 q:∀z∈q,z.natAbs < WB ^ (K+(S - n)*(K'+1))
attribute [local irreducible] IntKind.wrap Go1 Reg WP aK aN bD aZ aJ aA aj ak aT Sat
end Go.Proofs.YtcamgbgfelmbaaaGreatDoor
namespace Go.Proofs.YtcamgbgfelmbaaaGreatDoor
open Go.RowKit QM SX LA
def gB:Nat->Nat
 |0=>1
 |i+1=>6*gB i+6
structure GcK(a b:List Int):Prop where
 na:pN a
 nb:pN b
 la:a.length<=5
 lb:b.length<=5
 a:∀z∈a,z.natAbs < WB ^ gB (5 - b.length)
 b:∀z∈b,z.natAbs < WB ^ gB (5 - b.length)
def aB.nilN0{ρ:List (Nat×Option Nat)}:aB ρ (.c (.val (.slice none 0 0))) (.c (.sat (bI 0))):=fun E S w v hv=>by
 have h':v= .slice none 0 0:=hv;subst h';exact bI.zero
attribute [local irreducible] IntKind.wrap Go1 Reg WP aK aN bD aZ aJ aA aj ak aT Sat
end Go.Proofs.YtcamgbgfelmbaaaGreatDoor
namespace Go.Proofs.YtcamgbgfelmbaaaGreatDoor
open Go.RowKit QM SX LA
variable{l:List Nat}{a m o p y:Nat}
section
def ai7(p x y:Nat):fM p x y=x*y % p:=by unfold fM;rw[<-Nat.mul_mod]
def alJ(h:0 < p)(x:Nat):fS p x x=0:=by
 unfold fS;rw[show x % p+p - x % p=p by have:=zyi x h;omega,Nat.mod_self]
def aob(h:o*a ^ m % p=y)(hm:m % 2=1):fM p o a*fM p a a ^ (m / 2) % p=y:=by
 rw[ai7,ai7,<-h,Nat.mul_mod,Nat.mod_mod,Nat.pow_mod,Nat.mod_mod,<-Nat.pow_mod,<-Nat.mul_mod]
 congr 1
 obtain⟨k,hk⟩:∃k,k=m / 2:=⟨_,rfl⟩;rw[<-hk,show m=1+2*k by omega,zw5,zxh,Nat.pow_mul,show a ^ 2=a*a from Nat.pow_two a,Nat.mul_assoc]
def ajA(h:o*a ^ m % p=y)(hm:¬m % 2=1):o*fM p a a ^ (m / 2) % p=y:=by
 rw[ai7,<-h,Nat.mul_mod,Nat.pow_mod,Nat.mod_mod,<-Nat.pow_mod,<-Nat.mul_mod]
 congr 1
 obtain⟨k,hk⟩:∃k,k=m / 2:=⟨_,rfl⟩;rw[<-hk,show m=2*k by omega,Nat.pow_mul,show a ^ 2=a*a from Nat.pow_two a]
def fI(p x:Nat):Nat:=if x % p=0 then 0 else x ^ (p - 2) % p
def fI_lt(hp:PrP p)(x:Nat):fI p x < p:=by
 have:=hp.lt;unfold fI
 split
 ·omega
 ·exact zyi _ zE
attribute [local irreducible] IntKind.wrap Go1 Reg WP aK aN bD aZ aJ aA aj ak aT Sat
attribute [local irreducible] PrP fS fM fI
def anX(hp:PrP p)(x n:Nat)(hx:x < 18446744073709551616)(hn:n < 18446744073709551616):ah prog 555 [.agg (gfA p),.v (.int .u64 (x:Int)),.v (.int .u64 (n:Int))] (.v (.int .u64 ((x ^ n % p:Nat):Int))):=by
 have hpl:=hp.lt;have c1:=eG hp 1 zc
 refine ah.fq func555 ?_;intros
 refine zg ?_;refine W.aht (fun(a m o:Nat)=>a < 18446744073709551616/\m<=n/\o < p/\o*a ^ m % p=x ^ n % p) (fun a m o=>[(1,.v (.int .u64 (a:Int))),(2,.v (.int .u64 (m:Int))),(3,.ptr 3 0),(7,.v (.int .u64 (o:Int)))]) (fun _ _ _=>[(3,.box 267 (gfA p))]) (fun _ m _=>m) x n (1 % p) ⟨hx,zq6 _,zyi _ zE,by rw[Nat.mul_mod,Nat.mod_mod,<-Nat.mul_mod,Nat.one_mul]⟩ (fun a m o ⟨h1,h2,h3,h4⟩=>?_)
 by_cases h:0 < m
 ·have hr:IntKind.u64.wrap ((m:Int).tmod 2)=((m % 2:Nat):Int):=by rw[show (2:Int)=((2:Nat):Int)from rfl,mH];exact wrapN (zxb (Nat.mod_le m 2) zE)
  have hd:IntKind.u64.wrap ((m:Int).tdiv 2)=((m / 2:Nat):Int):=by rw[show (2:Int)=((2:Nat):Int)from rfl,arz];exact wrapN (zxb (Nat.div_le_self m 2) zE)
  have cM:=mG hp o a zE h1
  have cA:=mG hp a a h1 h1;have l1:=wo hp o a;have l2:=wo hp a a;by_cases h5:m % 2=1
  ·refine zg ?_;exact W.afn (fM p a a) (m / 2) (fM p o a) ⟨zE,zE,l1,aob h4 h5⟩ zE
  ·refine zg ?_;exact W.afn (fM p a a) (m / 2) o ⟨zE,zE,h3,ajA h4 h5⟩ zE
 ·obtain rfl:m=0:=zE
  rw[Nat.pow_zero,Nat.mul_one,zw4 h3]at h4;refine zg ?_;refine dZ (t:=6) (k:= .u64) (z:=(o:Int)) (by rw[h4]) ?_
  rfl
def anK(hp:PrP p)(x:Nat)(hx:x < 18446744073709551616):ah prog 493 [.agg (gfA p),.v (.int .u64 (x:Int))] (.v (.int .u64 ((fI p x:Nat):Int))):=by
 have hpl:=hp.lt;have c1:=eG hp x hx;have c2:=pJ hp;have c3:=anX hp x (p - 2) hx zE
 unfold fI;refine ah.fq func493 ?_;intros
 by_cases h:x % p=0
 ·rw[if_pos h];rw[h]at c1;refine zg ?_;exact dZ rfl
 ·rw[if_neg h];have h1:¬((x % p:Nat):Int)=0:=zE
  refine zg ?_;exact dZ rfl
end
section
def dAk(p q:Nat)(b:List Nat)(i k:Nat)(f:Nat->Nat)(m:Nat):Nat:=if i<=m/\m < i+k then fS p (f m) (fM p q (b.getD (m - i) 0))else f m
def dF(p l:Nat)(b:List Nat)(n:Nat)(f0:Nat->Nat):Nat->Nat->Nat
 |0=>f0
 |s+1=>dAk p (fM p (dF p l b n f0 s (n - (s+1)+b.length - 1)) l) b (n - (s+1)) b.length (dF p l b n f0 s)
def dQ(p l:Nat)(b:List Nat)(n:Nat)(f0:Nat->Nat)(i:Nat):Nat:=fM p (dF p l b n f0 (n - (i+1)) (i+b.length - 1)) l
def PrP.dvd(hp:PrP p)(d:Nat)(h:d ∣ p):d=1\/d=p:=by
 have hpl:=hp.lt;obtain⟨e,he⟩:=h;rcases zyd d 2 with h1|h1
 ·rcases zye d with h2|h2
  ·subst h2;rw[zw3]at he;omega
  ·exact .inl zE
 rcases zyd e 2 with h2|h2
 ·rcases zye e with h3|h3
  ·subst h3;rw[Nat.mul_zero]at he;omega
  ·obtain rfl:e=1:=zE
   exact .inr zE
 exfalso
 have hde:=zx8 d h2;have hed:=zx1 e h1;rcases Nat.le_total d e with h3|h3
 ·refine hp.2.2 d zE ⟨h1,by rw[he];exact zx8 d h3⟩ ?_
  rw[he,Nat.mul_mod_right]
 ·refine hp.2.2 e zE ⟨h2,by rw[he];exact zx1 e h3⟩ ?_
  rw[he,Nat.mul_mod_left]
def ayO(hp:PrP p){x:Nat}(hx:x % p≠0):x*fI p x % p=1:=by
 have hpl:=hp.lt;unfold fI;rw[if_neg hx];have hd:¬p ∣ x:=fun h=>hx (Nat.mod_eq_zero_of_dvd h)
 have h:=FM.a0r (PrP.dvd hp) zE hd
 rw[Nat.mul_mod,Nat.mod_mod,<-Nat.mul_mod,zxj,<-zyf,show (p - 2).succ=p - 1 by omega]
 exact h
def a0o(hp:PrP p)(hy:y % p≠0)(x:Nat)(hx:x < p):fM p (fM p x (fI p y)) y=x:=by
 have hpl:=hp.lt;have h:=ayO hp hy;rw[ai7,ai7,Nat.mul_mod,Nat.mod_mod,<-Nat.mul_mod,Nat.mul_assoc,zxj (fI p y) y,Nat.mul_mod,h,Nat.mul_one,Nat.mod_mod,zw4 hx]
def fQuo(p:Nat)(a b:List Nat):List Nat:=
 if(bL p b).length=0\/(bL p a).length < (bL p b).length then []
 else
  let n:=(bL p a).length - (bL p b).length+1
  let l:=fI p ((bL p b).getD ((bL p b).length - 1) 0)
  bL p (jg n (dQ p l (bL p b) n fun m=>(bL p a).getD m 0))
def fRem(p:Nat)(a b:List Nat):List Nat:=
 if(bL p b).length=0 then []
 else if(bL p a).length < (bL p b).length then bL p a
 else
  let n:=(bL p a).length - (bL p b).length+1
  let l:=fI p ((bL p b).getD ((bL p b).length - 1) 0)
  bL p (jg (bL p a).length (dF p l (bL p b) n (fun m=>(bL p a).getD m 0) n))
attribute [local irreducible] IntKind.wrap Go1 Reg WP aK aN bD aZ aJ aA aj ak aT Sat
attribute [local irreducible] PrP fS fM fI bL dAk dF dQ
end
section
def abb(p:Nat)(a:List Nat)(c:Nat):List Nat:=bL p (jg a.length fun i=>fM p (a.getD i 0) c)
def awv(hp:PrP p)(a:List Nat)(c:Nat):∀z∈abb p a c,z < p:=qO hp _
def ai4(p:Nat)(a:List Nat)(c:Nat):(abb p a c).length<=a.length:=by
 have:=jX p (jg a.length fun i=>fM p (a.getD i 0) c)
 rw[eH]at this;exact this
structure Eu where
 a:List Nat
 b:List Nat
 s:List Nat
 t:List Nat
def Eu.step(p:Nat)(e:Eu):Eu:=⟨e.b,fRem p e.a e.b,e.t,anY p e.s (vX p (fQuo p e.a e.b) e.t)⟩
def abU(hl:∀x∈l,x < p)(hg:gN l):bL p l=l:=by
 unfold bL;rw[alb hl,akK hg]
structure Eu.Ok(p L:Nat)(e:Eu):Prop where
 a:(∀x∈e.a,x < p)/\e.a.length<=L
 b:(∀x∈e.b,x < p)/\gN e.b/\e.b.length<=L
 s:(∀x∈e.s,x < p)/\e.s.length+L*e.b.length<=1+L*L
 t:(∀x∈e.t,x < p)/\e.t.length+L*e.b.length<=1+L*L
attribute [local irreducible] IntKind.wrap Go1 Reg WP aK aN bD aZ aJ aA aj ak aT Sat
attribute [local irreducible] PrP fM bL fQuo fRem vX abb
def ajw(hp:PrP p)(hl:l.length<=10000)(hb:∀x∈l,x < 18446744073709551616)(c:Nat)(hc:c < 18446744073709551616):ah prog 477 [.agg (gfA p),.r (aD 1 wdC l),.v (.int .u64 (c:Int))] (.r (aD 1 wdC (abb p l c))):=by
 have hpl:=hp.lt;obtain⟨n,hn⟩:∃n,n=l.length:=⟨_,rfl⟩;have cN:=wQ hp (n:=n) (f:=fun i=>fM p (l.getD i 0) c) zE (fun i=>by have:=wo hp (l.getD i 0) c;show fM p (l.getD i 0) c < _;omega)
 unfold abb;rw[<-hn];refine ah.fq func477 fun _ _ _ _ hB=>?_
 refine zg ?_;refine W.loop (fun k=>k<=n) (fun k=>[(2,.v (.int .u64 (c:Int))),(3,.ptr 3 0),(7,.own 100),(13,.r (aD 1 wdC l)),(14,.v (.int .i64 (n:Int))),(15,.v (.int .i64 (k:Int)))]) (fun k=>[(3,.box 267 (gfA p)),(100,.row 35 1 n ((jg n fun i=>if i < k then fM p (l.getD i 0) c else 0).flatMap wdC))]) (fun k=>n - k) 0 (zq8 _) (fun k hk=>?_)
  (by
   refine St.aS [(100,some 12)] z6 ?_ ?_ rfl
   ·exact yf
   ·exact⟨ay.same rfl rfl,ay.row rfl rfl zE (by rw[<-hn];exact vT fun m=>by rw[if_neg (zvj m)]),trivial⟩)
 by_cases h:k < n
 ·obtain⟨x,hx⟩:∃x,l[k]? =some x:=⟨_,zyh zE⟩
  have gx:l.getD k 0=x:=by rw[zx7,hx];rfl
  have lx:=hb x (zq4 hx);have cM:=mG hp x c lx hc;have hln:=eH n fun i=>if i < k then fM p (l.getD i 0) c else 0
  have hst:=yX (n:=n) (f:=fun i=>if i < k then fM p (l.getD i 0) c else 0) (g:=fun i=>if i < k+1 then fM p (l.getD i 0) c else 0) (k:=k) (x:=fM p x c) (fun i=>by
   by_cases hi:i=k
   ·subst hi;rw[if_pos rfl,if_pos zE,gx]
   ·rw[if_neg hi];by_cases hi2:i < k
    ·rw[if_pos hi2,if_pos zE]
    ·rw[if_neg hi2,if_neg zE])
  refine zg ?_;refine W.next (k+1) h zE (by
   refine St.aS [(100,some 100)] z6 ?_ ?_ rfl
   ·exact ye
   ·exact⟨ay.same rfl rfl,ay.row rfl rfl rfl ((agn (by rw[hln];exact h)).trans (by rw[hst])),trivial⟩)
 ·obtain rfl:k=n:=zE
  have e9:(jg k fun i=>if i < k then fM p (l.getD i 0) c else 0)=jg k fun i=>fM p (l.getD i 0) c:=by
   unfold jg;exact zvg fun i hi=>if_pos (List.mem_range.1 hi)
  rw[e9];refine WP.freeze 100 hB rfl ?_;refine zg ?_;exact agr rfl
end
end Go.Proofs.YtcamgbgfelmbaaaGreatDoor
namespace Go.Proofs.YtcamgbgfelmbaaaGreatDoor
open Go.RowKit QM SX LA
def zEv(zs:List Int)(x:Int):Nat->Int
 |0=>0
 |k+1=>zEv zs x k*x+zs.getD (zs.length - (k+1)) 0
def agO{zs:List Int}{x:Int}{K L:Nat}(h:∀z∈zs,z.natAbs < WB ^ K)(hx:x.natAbs < WB ^ L):∀k,(zEv zs x k).natAbs < WB ^ (K+k*(L+1))
 |0=>by show (0:Int).natAbs < _;exact Nat.pow_pos aX
 |k+1=>by
  have h1:=kG (agO h hx k) hx;have h2:=bd_up (zat_b h (zs.length - (k+1))) (show K<=K+k*(L+1)+L by omega)
  have h3:=afM (K+k*(L+1)+L);rw[show K+(k+1)*(L+1)=K+k*(L+1)+L+1 by rw[zy5,Nat.one_mul];omega]
  show (zEv zs x k*x+zs.getD (zs.length - (k+1)) 0).natAbs < _;have:=Int.natAbs_add_le (zEv zs x k*x) (zs.getD (zs.length - (k+1)) 0);omega
def zEv_0(zs:List Int)(x:Int):zEv zs x 0=0:=rfl
attribute [local irreducible] IntKind.wrap Go1 Reg WP aK aN bD aZ aJ aA aj ak aT Sat
attribute [local irreducible] zEv
def apA{l:List Z2}{zs:List Int}{x:Int}{K L:Nat}(hMl:MZ l zs K)(hz:∀z∈zs,z.natAbs < WB ^ K)(hx:x.natAbs < WB ^ L)(hl:zs.length<=10000)(hK:K+zs.length*(L+1)+K+L<=100000):ah prog 297 [.r (aD 2 z2C l),.agg (zN x)] (.agg (zN (zEv zs x zs.length))):=by
 have m1:l.length=zs.length:=hMl.len;refine ah.fq func297 ?_;intros
 refine zg ?_;refine W.loop (fun j=>j<=zs.length) (fun j=>[(0,.r (aD 2 z2C l)),(3,.ptr 3 0),(4,.ptr 4 0),(5,.ptr 5 0),(6,.v (.int .i64 ((j:Int) - 1)))]) (fun j=>[(3,.box 33 (zN x)),(4,.box 33 [.c (.val (.bool false)),.c (.val (.slice none 0 0))]),(5,.box 33 (zN (zEv zs x (zs.length - j))))]) (fun j=>j) zs.length (zq6 _) (fun j hj=>?_)
  (by
   rw[Nat.sub_self,zEv_0];refine St.aS [] z6 ?_ ?_ rfl
   ·repeat(first|exact trivial|refine⟨⟨_,rfl,aF.same rfl⟩,?_⟩|refine⟨⟨_,rfl,aF.int (by rw[m1])⟩,?_⟩)
   ·exact⟨ay.same rfl rfl,ay.same rfl rfl,ay.jE rfl rfl ⟨aB.same rfl,aB.nilN0,trivial⟩,trivial⟩)
 cases j with
 |zero=>
  rw[Nat.sub_zero];refine zg ?_;exact jG aj.fK rfl
 |succ m=>
  rw[show ((m+1:Nat):Int) - 1=(m:Int)by omega]
  obtain⟨z,hz1⟩:∃z,zs[m]? =some z:=⟨_,zyh zE⟩
  have gz:zs.getD m 0=z:=by rw[zx7,hz1];rfl
  obtain⟨q,hz2⟩:∃q,l[m]? =some q:=⟨_,zyh zE⟩
  have be:=agO hz hx (zs.length - (m+1));have hmm:=zx1 (L+1) (show zs.length - (m+1)<=zs.length by omega)
  have qe:ZQ (z2v (zEv zs x (zs.length - (m+1)))) (zEv zs x (zs.length - (m+1))) (K+(zs.length - (m+1))*(L+1)):=ZQ.made be;have qx:ZQ (z2v x) x L:=ZQ.made hx;have qz:ZQ q z K:=hMl.z m q z hz2 hz1;have cM:=(abX (h:=qe.zi) (h':=qx.zi)).h zE
  have qm:ZQ (z2v (zEv zs x (zs.length - (m+1))*x)) (zEv zs x (zs.length - (m+1))*x) (K+(zs.length - (m+1))*(L+1)+L):=ZQ.made (kG be hx);have cA:=(yN (h:=qm.zi) (h':=qz.zi)).h zE
  have hE:zEv zs x (zs.length - (m+1))*x+z=zEv zs x (zs.length - m):=by
   rw[show zs.length - m=zs.length - (m+1)+1 by omega]
   conv=>rhs;unfold zEv
   rw[show zs.length - (zs.length - (m+1)+1)=m by omega,gz]
  rw[hE]at cA;refine zg ?_;exact W.next m zE zE
end Go.Proofs.YtcamgbgfelmbaaaGreatDoor
namespace Go.Proofs.YtcamgbgfelmbaaaGreatDoor
open Go.RowKit QM SX LA
def cF(p:Nat)(q:List Nat)(n k m:Nat):Nat:=if m / n < k then(if m % n+1=n then fA p 0 (fS p 0 (q.getD (m / n) 0))else if m % n+1=m / n then 1 else 0)else 0
def cG(p:Nat)(q:List Nat)(n k m:Nat):Nat:=if 0 < k/\m=k*n+k - 1 then 1 else cF p q n k m
attribute [local irreducible] IntKind.wrap Go1 Reg WP aK aN bD aZ aJ aA aj ak aT Sat
attribute [local irreducible] PrP fA fS cF cG
def aov{p:Nat}(hp:PrP p)(x:Nat)(hx:x < 18446744073709551616):ah prog 404 [.agg (gfA p),.v (.int .u64 (x:Int))] (.v (.int .u64 ((fS p 0 x:Nat):Int))):=by
 have c:ah prog 343 [.agg (gfA p),.v (.int .u64 0),.v (.int .u64 (x:Int))] (.v (.int .u64 ((fS p 0 x:Nat):Int))):=abB hp 0 x zc hx
 refine ah.fq func404 ?_;intros
 refine zg ?_;exact dZ rfl
end Go.Proofs.YtcamgbgfelmbaaaGreatDoor
namespace Go.Proofs.YtcamgbgfelmbaaaGreatDoor
open Go.RowKit QM SX LA
abbrev nDeg:List UInt8:=[100,101,103]
abbrev nDer:List UInt8:=[100,101,114,105,118,101]
abbrev ad9:List UInt8:=[101,118,97,108]
abbrev nGcd:List UInt8:=[103,99,100]
abbrev nXgc:List UInt8:=[120,103,99,100]
abbrev zV:List UInt8:=[108,105,102,116]
abbrev isP(t:List UInt8):Prop:=t=nDeg\/t=nDer\/t=ad9\/t=nGcd\/t=nXgc\/t=zV
attribute [local irreducible] IntKind.wrap Go1 Reg WP aK aN bD aZ aJ aA aj ak aT Sat
section
variable{t:List UInt8}{vs:List Vl}(ht:isP t)
include ht
theorem ap8:ah prog 214 [.agg (bR t vs)] (.agg qd):=by
 rcases ht with rfl|rfl|rfl|rfl|rfl|rfl <;> (
  refine ah.fq func214 ?_;intros
  refine zg ?_;exact mO aj.fF
 )
theorem aoE:ah prog 215 [.agg (bR t vs)] (.agg qd):=by
 rcases ht with rfl|rfl|rfl|rfl|rfl|rfl <;> (
  refine ah.fq func215 ?_;intros
  refine zg ?_;exact mO aj.fF
 )
theorem ai5:ah prog 216 [.agg (bR t vs)] (.agg qd):=by
 rcases ht with rfl|rfl|rfl|rfl|rfl|rfl <;> (
  refine ah.fq func216 ?_;intros
  refine zg ?_;exact mO aj.fF
 )
theorem aeg:ah prog 217 [.agg (bR t vs)] (.agg qd):=by
 rcases ht with rfl|rfl|rfl|rfl|rfl|rfl <;> (
  refine ah.fq func217 ?_;intros
  refine zg ?_;exact mO aj.fF
 )
end
def ajg{z:Int}{K:Nat}(hz:z.natAbs < WB ^ K)(h1:1<=K)(hK:K<=100000):ah prog 270 [.agg (zN z),.v (.int .i64 0)] (.agg (kC (vI z) 0 true)):=by
 have cW:ah prog 156 [.agg (zN z)] (.agg (vlA (vI z))):=vD (q:=z2v z) (ZQ.made hz) h1 hK;have cd:=tV (vI z);refine ah.fq func270 ?_;intros
 refine zg ?_;refine jY aj.fF ?_;exact z7 _
end Go.Proofs.YtcamgbgfelmbaaaGreatDoor
namespace Go.Proofs.YtcamgbgfelmbaaaGreatDoor
open Go.RowKit QM SX LA
attribute [local irreducible] IntKind.wrap Go1 Reg WP aK aN bD aZ aJ aA aj ak aT Sat
attribute [local irreducible] PrP zEv
def am3(zs:List Int):∃z:Int,ah prog 346 [.agg (vlA (gP zs))] (.tup [.agg (zN z),.one (.c (.val (.bool false)))]):=om pW.1 pW.2 (fun h=>by have h':(3:Int)=1:=h;omega)
def so_qq(zs:List Int):ah prog 281 [.agg (vlA (gP zs)),.v (.int .u8 113)] (.v (.bool true)):=by
 have h:=ou (gP zs);rw[decide_eq_true rfl]at h;exact h
def axJ{x:Int}{K:Nat}(hx:x.natAbs < WB ^ K)(h1:1<=K)(hK:K<=100000):ah prog 346 [.agg (vlA (vI x))] (.tup [.agg (zN x),.one (.c (.val (.bool true)))]):=jT hx h1 hK
section
variable{t:List UInt8}
def ay0(zs:List Int){x:Int}{K:Nat}(hx:x.natAbs < WB ^ K)(h1:1<=K)(hK:K<=100000):ah prog 249 [.agg (bR t [gP zs,vI x]),.v (str t),.v (str [113,110])] (.v (.bool true)):=
 lI (so:=[113,110]) (fun _=>true) rfl (zqc rfl) fun i v hv=>by
  match i,hv with
  |0,hv=>cases hv;exact so_qq zs
  |1,hv=>cases hv;exact fV (axJ hx h1 hK)
end
section
variable{zs:List Int}{K:Nat}(hz:∀z∈zs,z.natAbs < WB ^ K)(hK1:1<=K)(hK:K<=10000)(hn:pN zs)(hl:zs.length<=1000)
include hz hK1 hK hn hl
theorem abZ{x:Int}{L:Nat}(hx:x.natAbs < WB ^ L)(h1:1<=L)(hL:L<=50):ah prog 219 [.agg (bR ad9 [gP zs,vI x])] (.agg (kC (vI (zEv zs x zs.length)) 0 true)):=by
 have hv:[gP zs,vI x][0]? =some (gP zs):=rfl;have hv1:[gP zs,vI x][1]? =some (vI x):=rfl;obtain⟨z,w⟩:=am3 zs;have cm:=aad (vs:=[vI x]) w (zqc rfl);have a1:=ay0 (t:=ad9) zs hx h1 zE
 have cn:ah prog 252 [.agg (bR ad9 [gP zs,vI x]),.v (.int .i64 1)] (.agg (zN x)):=ad5 hv1 zc (axJ hx h1 zE)
 have hm:=zxd hl (show L+1<=51 by omega)
 have cE:=apA (MZ.ofz hz) hz hx zE zE
 have hb:=agO hz hx zs.length;have cN:=ajg hb zE zE
 refine ah.fq func219 ?_;intros
 refine zg ?_;refine jY aj.fF ?_;exact z7 _
end
section
variable{p:Nat}(hp:PrP p){l:List Nat}(hb:∀x∈l,x < p)(hl:l.length<=1000)
include hp hb hl
end
end Go.Proofs.YtcamgbgfelmbaaaGreatDoor
namespace Go.Proofs.YtcamgbgfelmbaaaGreatDoor
open Go.RowKit QM SX LA
attribute [local irreducible] IntKind.wrap Go1 Reg WP aK aN bD aZ aJ aA aj ak aT Sat
attribute [local irreducible] PrP
section
variable{p:Nat}(hp:PrP p){l l':List Nat}(hb:∀x∈l,x < p)(hb':∀x∈l',x < p)(hl:l.length<=50)(hl':l'.length<=50)
include hp hb hb' hl hl'
end
end Go.Proofs.YtcamgbgfelmbaaaGreatDoor
namespace Go.Proofs.YtcamgbgfelmbaaaGreatDoor
open Go.RowKit QM SX LA
abbrev toI(l:List Nat):List Int:=l.map fun x:Nat=>(x:Int)
attribute [local irreducible] IntKind.wrap Go1 Reg WP aK aN bD aZ aJ aA aj ak aT Sat
attribute [local irreducible] PrP
section
variable{p:Nat}(hp:PrP p){l:List Nat}(hb:∀x∈l,x < p)(hl:l.length<=1000)
include hp hb hl
end
end Go.Proofs.YtcamgbgfelmbaaaGreatDoor
namespace Go.Proofs.YtcamgbgfelmbaaaGreatDoor
open Go.RowKit QM SX LA
attribute [local irreducible] IntKind.wrap Go1 Reg WP aK aN bD aZ aJ aA aj ak aT Sat
attribute [local irreducible] PrP
section
variable{p:Nat}(hp:PrP p){l:List Nat}(hb:∀x∈l,x < p)(hl:l.length<=60)
include hp hb hl
end
end Go.Proofs.YtcamgbgfelmbaaaGreatDoor
namespace Go.Proofs.YtcamgbgfelmbaaaGreatDoor
open Go.RowKit QM SX LA
attribute [local irreducible] IntKind.wrap Go1 Reg WP aK aN bD aZ aJ aA aj ak aT Sat
attribute [local irreducible] PrP zEv
variable{t:List UInt8}{v w:Vl}
def cN_P(ht:isP t):ah prog 146 [.v (str su),.v (str (([32]++t)++[32]))] (.v (.bool true)):=by
 rcases ht with rfl|rfl|rfl|rfl|rfl|rfl
 ·exact bg iw yW
 ·exact bg iw yW
 ·exact bg iw yW
 ·exact bg iw yW
 ·exact bg iw yW
 ·exact bg iw yW
def cB_P(ht:isP t):ah prog 146 [.v (str t),.v (str [32])] (.v (.bool false)):=by
 rcases ht with rfl|rfl|rfl|rfl|rfl|rfl
 ·exact bg zc yW
 ·exact bg zc yW
 ·exact bg zc yW
 ·exact bg zc yW
 ·exact bg zc yW
 ·exact bg zc yW
def avC(ht:isP t):t.length<=1000:=by rcases ht with rfl|rfl|rfl|rfl|rfl|rfl <;> decide
def aeP(ht:isP t){vs:List Vl}{r:Vl}(hl:vs.length<=100000)(hF:∀v∈vs,ah prog 44 [.agg (vlA v)] (.v (.bool true)))(hf:ah prog 218 [.agg (bR t vs)] (.agg qd))(h5:ah prog 219 [.agg (bR t vs)] (.agg (kC r 0 true))):ah prog 199 [.v (str t),.r (aD 15 vlE vs)] (.tup [.agg (vlA r),eNo 0]):=by
 refine oN (n0:=5) (avC ht) zc hl hF (cN_P ht) (cB_P ht) (fun k f hk hg=>?_) (fun f hg=>?_)
 ·match k,hk,hg with
  |0,_,hg=>cases hg;exact ap8 ht
  |1,_,hg=>cases hg;exact aoE ht
  |2,_,hg=>cases hg;exact ai5 ht
  |3,_,hg=>cases hg;exact aeg ht
  |4,_,hg=>cases hg;exact hf
 ·cases hg;exact h5
def F1(h:ah prog 44 [.agg (vlA v)] (.v (.bool true))):∀u∈[v],ah prog 44 [.agg (vlA u)] (.v (.bool true)):=fun u hu=>by
 rw[zxi]at hu;subst hu;exact h
def F2(h:ah prog 44 [.agg (vlA v)] (.v (.bool true)))(h':ah prog 44 [.agg (vlA w)] (.v (.bool true))):∀u∈[v,w],ah prog 44 [.agg (vlA u)] (.v (.bool true)):=fun u hu=>by
 rcases zy3.1 hu with rfl|hu
 ·exact h
 ·rw[zxi]at hu;subst hu;exact h'
def no_f2:ah prog 218 [.agg (bR t [v,w])] (.agg qd):=afj (fun h=>by have h':2=1:=h;omega) (zqc rfl)
def Fp{zs:List Int}{K:Nat}(hz:∀z∈zs,z.natAbs < WB ^ K)(hK:K<=10000)(hn:pN zs)(hl:zs.length<=1000):ah prog 44 [.agg (vlA (gP zs))] (.v (.bool true)):=
 (Cv.one (n:=0) (.pol zs zE hn hz:Sh K _)).F zE zc
section
variable{zs:List Int}{K:Nat}(hz:∀z∈zs,z.natAbs < WB ^ K)(hK1:1<=K)(hK:K<=10000)(hn:pN zs)(hl:zs.length<=1000)
include hz hK1 hK hn hl
theorem aoU{x:Int}{L:Nat}(hx:x.natAbs < WB ^ L)(h1:1<=L)(hL:L<=50):ah prog 199 [.v (str ad9),.r (aD 15 vlE [gP zs,vI x])] (.tup [.agg (vlA (vI (zEv zs x zs.length))),eNo 0]):=
 aeP (.inr (.inr (.inl rfl))) (zqc rfl) (F2 (Fp hz hK hn hl) (qc hx h1 zE)) no_f2 (abZ hz hK1 hK hn hl hx h1 hL)
end
section
variable{p:Nat}(hp:PrP p){l:List Nat}(hb:∀x∈l,x < p)(hn:wN l)(hl:l.length<=50)
include hp hb hn hl
end
