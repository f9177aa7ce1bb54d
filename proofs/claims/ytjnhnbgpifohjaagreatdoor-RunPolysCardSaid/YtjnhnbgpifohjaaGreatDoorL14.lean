import Derived.Test.YtjnhnbgpifohjaaGreatDoorL10
import Derived.Test.YtjnhnbgpifohjaaGreatDoorL6
set_option maxRecDepth 20000
set_option maxHeartbeats 4000000
set_option linter.unusedVariables false
set_option linter.unusedSimpArgs false
open Go.Proofs.Tryz
namespace Go.Proofs.YtjnhnbgpifohjaaGreatDoor
open Go.RowKit QM SX LA
section
def fA(p x y:Nat):Nat:=(x % p+y % p) % p
def fS(p x y:Nat):Nat:=(x % p+p - y % p) % p
def fM(p x y:Nat):Nat:=(x % p*(y % p)) % p
theorem al1{p:Nat}(h:PrP p)(x y:Nat):fA p x y < p:=zyi _ (by have:=h.lt;omega)
theorem aqi{p:Nat}(h:PrP p)(x y:Nat):fS p x y < p:=zyi _ (by have:=h.lt;omega)
theorem y7{p:Nat}(h:PrP p)(x y:Nat):fM p x y < p:=zyi _ (by have:=h.lt;omega)
def tabW(c:Nat)(val:Nat->Nat->Nat)(i:Nat):List Nat:=(List.range i).flatMap fun i=>(List.range c).map (val i)
theorem ayV{c:Nat}{val:Nat->Nat->Nat}:tabW c val 0=[]:=rfl
attribute [local irreducible] IntKind.wrap Go1 Reg WP aO aR bM bK aN aD aj ak aX Sat
attribute [local irreducible] bO bX bV cK bW qv dH mf PrP qOk zOk vP dP lz vF cq rqv dX aS bU aV fB fA fS fM
theorem agu{p:Nat}(h:PrP p)(x y:Nat)(hx:x < 18446744073709551616)(hy:y < 18446744073709551616):ah prog 76 [.agg (gfA p),.v (.int .u64 (x:Int)),.v (.int .u64 (y:Int))] (.v (.int .u64 ((fA p x y:Nat):Int))):=by
 have hp:=h.lt;have m1:x % p < p:=zyi _ zE
 have m2:y % p < p:=zyi _ zE
 have c:=sQ h;have c1:=fP h x hx;have c2:=fP h y hy;have hr:IntKind.u64.wrap (((x % p+y % p:Nat):Int).tmod (p:Int))=((fA p x y:Nat):Int):=by unfold fA;rw[nu];exact wrapN (zxb (Nat.mod_le _ p) zE)
 unfold fA;refine ah.fq func76 results76 ntmps76 fun _ _ _ _ _=>?_
 refine zg ?_;exact fC rfl
theorem af8{p:Nat}(h:PrP p)(x y:Nat)(hx:x < 18446744073709551616)(hy:y < 18446744073709551616):ah prog 117 [.agg (gfA p),.v (.int .u64 (x:Int)),.v (.int .u64 (y:Int))] (.v (.int .u64 ((fS p x y:Nat):Int))):=by
 have hp:=h.lt;have m1:x % p < p:=zyi _ zE
 have m2:y % p < p:=zyi _ zE
 have c:=sQ h;have c1:=fP h x hx;have c2:=fP h y hy;have hr:IntKind.u64.wrap (((x % p+p - y % p:Nat):Int).tmod (p:Int))=((fS p x y:Nat):Int):=by unfold fS;rw[nu];exact wrapN (zxb (Nat.mod_le _ p) zE)
 unfold fS;refine ah.fq func117 results117 ntmps117 fun _ _ _ _ _=>?_
 refine zg ?_;exact fC rfl
theorem qI{p:Nat}(h:PrP p)(x y:Nat)(hx:x < 18446744073709551616)(hy:y < 18446744073709551616):ah prog 87 [.agg (gfA p),.v (.int .u64 (x:Int)),.v (.int .u64 (y:Int))] (.v (.int .u64 ((fM p x y:Nat):Int))):=by
 have hp:=h.lt;have m1:x % p < p:=zyi _ zE
 have m2:y % p < p:=zyi _ zE
 have c:=sQ h;have c1:=fP h x hx;have c2:=fP h y hy;have hb:x % p*(y % p)<=2147483648*2147483648:=zxd zE zE
 have hm:IntKind.u64.wrap (((x % p:Nat):Int)*((y % p:Nat):Int))=((x % p*(y % p):Nat):Int):=by rw[<-Int.natCast_mul];exact wrapN zE
 have hr:IntKind.u64.wrap (((x % p*(y % p):Nat):Int).tmod (p:Int))=((fM p x y:Nat):Int):=by unfold fM;rw[nu];exact wrapN (zxb (Nat.mod_le _ p) zE)
 unfold fM;refine ah.fq func87 results87 ntmps87 fun _ _ _ _ _=>?_
 refine zg ?_;exact fC rfl
section
variable{p r c:Nat}(hp:PrP p){l l':List Nat}(hl:l.length=r*c)(hr:r<=64)(hc:c<=64)(hb:∀x∈l,x < 18446744073709551616)
include hp hl hr hc hb
end
end
section
def wl(zs:List Nat):Nat->Nat
 |0=>0
 |k+1=>if zs.getD k 0=0 then wl zs k else k+1
def wR(zs:List Nat):Nat:=wl zs zs.length
def qd(zs:List Nat):List Nat:=zs.take (wR zs)
def gN(zs:List Nat):Prop:=zs.length=0\/zs.getD (zs.length - 1) 0≠0
theorem awj(zs:List Nat):∀k,wl zs k<=k
 |0=>zq6 _
 |k+1=>by unfold wl;split;exact Nat.le_succ_of_le (awj zs k);exact zq6 _
theorem ak2(zs:List Nat):∀k,wl zs k=0\/zs.getD (wl zs k - 1) 0≠0
 |0=> .inl rfl
 |k+1=>by
  unfold wl;split
  ·exact ak2 zs k
  ·next h=>exact .inr h
theorem alH(zs:List Nat):∀(k j:Nat),wl zs k<=j->j < k->zs.getD j 0=0
 |0,j,_,h=>absurd h (zvj _)
 |k+1,j,h1,h2=>by
  unfold wl at h1
  split at h1
  ·next h=>
   by_cases hj:j=k
   ·subst hj;exact h
   ·exact alH zs k j h1 zE
  ·omega
theorem abP(zs:List Nat):wR zs<=zs.length:=awj zs _
theorem oz(zs:List Nat):(qd zs).length=wR zs:=by unfold qd;rw[zx3];exact zv9 (abP zs)
theorem aaf{zs:List Nat}{j:Nat}(h:zs.length<=j):zs.getD j 0=0:=by rw[zx7,zqe h];rfl
theorem adV(zs:List Nat)(j:Nat):(qd zs).getD j 0=zs.getD j 0:=by
 by_cases h:j < wR zs
 ·unfold qd;rw[zx7,zy9,if_pos h,<-zx7]
 ·rw[aaf (by rw[oz];omega)]
  by_cases h2:j < zs.length
  ·exact(alH zs _ j (by unfold wR at h;omega) h2).symm
  ·exact(aaf zE).symm
theorem ahK(zs:List Nat):gN (qd zs):=by
 rcases ak2 zs zs.length with h|h
 ·exact .inl (by rw[oz];exact h)
 ·exact .inr (by rw[oz,adV];exact h)
theorem apU{a b:List Nat}(ha:gN a)(hb:gN b)(h:∀j,a.getD j 0=b.getD j 0):a=b:=by
 have key:∀{a b:List Nat},gN a->(∀j,a.getD j 0=b.getD j 0)->a.length<=b.length:=fun {a b} ha h=>by
  rcases ha with h0|h0
  ·omega
  ·rcases zyd b.length a.length with h1|h1
   ·rw[h,aaf zE]at h0;exact absurd rfl h0
   ·exact h1
 have hl:a.length=b.length:=Nat.le_antisymm (key ha h) (key hb fun j=>(h j).symm)
 apply zyb;intro j
 by_cases hj:j < a.length
 ·have:=h j;rw[zx7,zx7,zyh hj,zyh zE]at this
  rw[zyh hj,zyh zE]
  exact congrArg some this
 ·rw[zqe zE,zqe zE]
theorem acV{zs:List Nat}(h:gN zs):qd zs=zs:=apU (ahK zs) h (adV zs)
theorem an1{zs:List Nat}:∀z∈qd zs,z∈zs:=fun z h=>zv3 h
def fZ(n:Nat)(f:Nat->Nat):List Nat:=(List.range n).map f
theorem dn(n:Nat)(f:Nat->Nat):(fZ n f).length=n:=by unfold fZ;rw[zq5,zy1]
theorem auO{n:Nat}{f:Nat->Nat}{j:Nat}(h:j < n):(fZ n f).getD j 0=f j:=by
 unfold fZ;rw[zx7,zqa,zvb h];rfl
theorem atq{zs:List Nat}{p:Nat}(h:∀z∈zs,z < p):∀z∈qd zs,z < p:=fun z hz=>h z (an1 z hz)
theorem avp{n p:Nat}{f:Nat->Nat}(h:∀i,f i < p):∀z∈fZ n f,z < p:=fun z hz=>by
 unfold fZ at hz;obtain⟨i,_,rfl⟩:=zqg.1 hz;exact h i
theorem jo{n:Nat}{f:Nat->Nat}{k:Nat}(h:k < n):(fZ n f)[k]? =some (f k):=by
 unfold fZ;rw[zqa,zvb h];rfl
theorem lu{n:Nat}{f g:Nat->Nat}{k:Nat}{x:Nat}(h:∀m,(if m=k then x else f m)=g m):(fZ n f).set k x=fZ n g:=by
 apply zyb
 intro j;rw[zv2]
 by_cases hj:k=j
 ·subst hj;rw[if_pos rfl,dn];by_cases hk:k < n
  ·rw[if_pos hk,jo hk,<-h k,if_pos rfl]
  ·rw[if_neg hk,zqe (by rw[dn];omega)]
 ·rw[if_neg hj];by_cases hk:j < n
  ·rw[jo hk,jo hk,<-h j,if_neg (fun e=>hj e.symm)]
  ·rw[zqe (by rw[dn];omega),zqe (by rw[dn];omega)]
theorem mG{n:Nat}{f:Nat->Nat}(h:∀m,f m=0):List.replicate n (CA.val (.int .u64 0))=(fZ n f).flatMap wdC:=by
 have:fZ n f=List.replicate n 0:=by
  apply zyb;intro j
  rw[List.getElem?_replicate]
  by_cases hj:j < n
  ·rw[jo hj,if_pos hj,h]
  ·rw[if_neg hj,zqe (by rw[dn];omega)]
 rw[this];clear this h
 induction n with
 |zero=>rfl
 |succ n ih=>rw[List.replicate_succ,List.replicate_succ,zq7,<-ih];rfl
theorem asI(l:List Nat):l.flatMap wdC=l.map fun x:Nat=>CA.val (.int .u64 (x:Int)):=by
 induction l with
 |nil=>rfl
 |cons a l ih=>rw[zq7,ih];rfl
theorem sK{l:List Nat}{i x:Nat}(h:i < l.length):spl (l.flatMap wdC) (i*1) [CA.val (.int .u64 (x:Int))]=(l.set i x).flatMap wdC:=by
 rw[asI,asI,Nat.mul_one];exact agw (fun x:Nat=>CA.val (.int .u64 (x:Int))) l i x h
def jG(p:Nat)(l:List Nat):List Nat:=l.map (· % p)
theorem aaA(p:Nat)(l:List Nat):(jG p l).length=l.length:=zq5 _
theorem rR(p:Nat)(l:List Nat)(k:Nat):(jG p l).getD k 0=l.getD k 0 % p:=by
 unfold jG;rw[zx7,zx7,zqa]
 by_cases hk:k < l.length
 ·rw[zyh hk];rfl
 ·rw[zqe zE];exact(Nat.zero_mod p).symm
theorem aqN{p:Nat}(hp:PrP p)(l:List Nat):∀z∈jG p l,z < p:=fun z hz=>by
 unfold jG at hz;obtain⟨i,_,rfl⟩:=zqg.1 hz;exact zyi _ (by have:=hp.lt;omega)
theorem acA{p:Nat}{l:List Nat}(h:∀x∈l,x < p):jG p l=l:=by
 unfold jG;have h2:l.map (· % p)=l.map id:=zvg fun x hx=>zw4 (h x hx)
 rw[h2,List.map_id]
theorem rP{l:List Nat}{B:Nat}(h:∀x∈l,x < B)(hB:0 < B)(k:Nat):l.getD k 0 < B:=by
 rw[zx7]
 by_cases hi:k < l.length
 ·rw[zyh hi];exact h _ (List.getElem_mem hi)
 ·rw[zqe zE];exact hB
def aH(p:Nat)(l:List Nat):List Nat:=qd (jG p l)
theorem jY(p:Nat)(l:List Nat):gN (aH p l):=ahK _
theorem fD{p:Nat}(hp:PrP p)(l:List Nat):∀z∈aH p l,z < p:=atq (aqN hp l)
theorem dA(p:Nat)(l:List Nat):(aH p l).length<=l.length:=by
 unfold aH;rw[oz];have:=abP (jG p l)
 rwa [aaA]at this
theorem ah8(p:Nat)(l:List Nat)(j:Nat):(aH p l).getD j 0=l.getD j 0 % p:=by unfold aH;rw[adV,rR]
theorem yh{n:Nat}{l:List Nat}(h:l.length=n):aA 1 wdC l=aQ 1 n (l.flatMap wdC):=by subst h;rfl
attribute [local irreducible] IntKind.wrap Go1 Reg WP aO aR bM bK aN aD aj ak aX Sat
attribute [local irreducible] bO bX bV cK bW qv dH mf PrP qOk zOk vP dP lz vF cq rqv dX aS bU aV fB fA fS fM wR qd jG
theorem am1(l:List Nat)(i:Nat)(hl:l.length<=1000000):ah prog 214 [.r (aA 1 wdC l),.v (.int .i64 (i:Int))] (.v (.int .u64 ((l.getD i 0:Nat):Int))):=by
 rw[zx7]
 refine ah.fq func214 results214 ntmps214 fun _ _ _ _ _=>?_
 by_cases h:i < l.length
 ·obtain⟨q,hq⟩:∃q,l[i]? =some q:=⟨_,zyh h⟩
  rw[hq];refine zg ?_;exact fC rfl
 ·rw[zqe zE]
  refine zg ?_;exact fC rfl
theorem iH{p:Nat}(hp:PrP p){l:List Nat}(hl:l.length<=100000)(hb:∀x∈l,x < 18446744073709551616):ah prog 64 [.agg (gfA p),.r (aA 1 wdC l)] (.r (aA 1 wdC (aH p l))):=by
 have hlen:=aaA p l;have hle:=abP (jG p l);have hpl:=hp.lt;refine ah.fq func64 results64 ntmps64 fun _ _ _ _ _=>?_
 refine zg ?_;refine W.loop (fun k=>k<=l.length/\wl (jG p l) k=wR (jG p l)) (fun k=>[(1,.r (aA 1 wdC l)),(2,.ptr 2 0),(5,.v (.int .i64 (k:Int)))]) (fun _=>[(2,.box 65 (gfA p))]) (fun k=>k) l.length ⟨zq6 _,by rw[<-hlen];unfold wR;rfl⟩ (fun k ⟨hk,he⟩=>?_)
 by_cases h0:0 < k
 ·obtain⟨m,rfl⟩:∃m,k=m+1:=⟨k - 1,zE⟩
  obtain⟨q,hq⟩:∃q,l[m+1 - 1]? =some q:=⟨_,zyh zE⟩
  have hq':l[m]? =some q:=hq;have hg:(jG p l).getD m 0=q % p:=by rw[rR,zx7,hq'];rfl
  have cS:=fP hp q (hb q (zq4 hq'));unfold wl at he;rw[hg]at he;by_cases hz0:q % p=0
  ·rw[if_pos hz0]at he;rw[hz0]at cS;refine zg ?_;exact W.next m ⟨zE,he⟩ zE
  ·rw[if_neg hz0]at he;have h1:¬((q % p:Nat):Int)=0:=zE
   rw[<-he]at hle;refine zg ?_;refine W.loop (fun j=>j<=m+1) (fun j=>[(1,.r (aA 1 wdC l)),(2,.ptr 2 0),(6,.own 100),(29,.v (.int .i64 ((m+1:Nat):Int))),(30,.v (.int .i64 (j:Int)))]) (fun j=>[(2,.box 65 (gfA p)),(100,.row 36 1 (m+1) ((fZ (m+1) fun i=>if i < j then l.getD i 0 % p else 0).flatMap wdC))]) (fun j=>m+1 - j) 0 (zq8 _) (fun j hj=>?_)
    (by
     refine St.aW [(100,some 27)] zt ?_ ?_ rfl
     ·exact yb
     ·exact⟨ay.same rfl rfl,ay.row rfl rfl rfl (mG fun m=>by rw[if_neg (zvj m)]),trivial⟩)
   by_cases h2:j < m+1
   ·obtain⟨q2,hq2⟩:∃q2,l[j]? =some q2:=⟨_,zyh zE⟩
    have cF:=fP hp q2 (hb q2 (zq4 hq2));have g2:l.getD j 0=q2:=by rw[zx7,hq2];rfl
    have hln:=dn (m+1) fun i=>if i < j then l.getD i 0 % p else 0
    have hst:=lu (n:=m+1) (f:=fun i=>if i < j then l.getD i 0 % p else 0) (g:=fun i=>if i < j+1 then l.getD i 0 % p else 0) (k:=j) (x:=q2 % p) (fun i=>by
     by_cases hi:i=j
     ·subst hi;rw[if_pos rfl,if_pos zE,g2]
     ·rw[if_neg hi];by_cases hi2:i < j
      ·rw[if_pos hi2,if_pos zE]
      ·rw[if_neg hi2,if_neg zE])
    refine zg ?_;refine W.next (j+1) h2 zE (by
     refine St.aW [(100,some 100)] zt ?_ ?_ rfl
     ·exact yb
     ·exact⟨ay.same rfl rfl,ay.row rfl rfl rfl ((sK (by rw[hln];exact h2)).trans (by rw[hst])),trivial⟩)
   ·obtain rfl:j=m+1:=zE
    refine zg ?_;refine aN.frz 100 ?_;refine uX ?_;have e9:(fZ (m+1) fun i=>if i < m+1 then l.getD i 0 % p else 0)=aH p l:=by
     unfold aH qd;rw[<-he];apply zyb;intro i
     by_cases hi:i < m+1
     ·rw[jo hi,if_pos hi,zy9,if_pos hi]
      have h7:=rR p l i;have hi3:i < (jG p l).length:=zE
      rw[zx7,zyh hi3]at h7
      rw[zyh hi3,<-h7];rfl
     ·rw[zqe (by rw[dn];omega),zqe (by rw[zx3];omega)]
    rw[e9];have e8:(aH p l).length=m+1:=by rw[<-e9,dn]
    rw[yh e8];rfl
 ·obtain rfl:k=0:=zE
  have he':wR (jG p l)=0:=he.symm;refine zg ?_;refine zY ?_;unfold aH qd;rw[he'];exact fun E S w v h=>(aB.nil (α:=Nat) (enc:=wdC) (size:=1)) E S w v h
end
section
def aaW(p:Nat)(op:Nat->Nat->Nat)(a b:List Nat):List Nat:=aH p (fZ (max a.length b.length) fun i=>op (a.getD i 0) (b.getD i 0))
def wvR(p:Nat)(a b:List Nat):Nat->Nat->Nat
 |0,_=>0
 |i+1,m=>if i<=m/\m < i+b.length then fA p (wvR p a b i m) (fM p (a.getD i 0) (b.getD (m - i) 0))else wvR p a b i m
def wvP(p:Nat)(a b:List Nat)(i k m:Nat):Nat:=if i<=m/\m < i+k then fA p (wvR p a b i m) (fM p (a.getD i 0) (b.getD (m - i) 0))else wvR p a b i m
theorem ar2(p:Nat)(a b:List Nat)(i m:Nat):wvP p a b i 0 m=wvR p a b i m:=by unfold wvP;rw[if_neg zE]
theorem aq5(p:Nat)(a b:List Nat)(i m:Nat):wvP p a b i b.length m=wvR p a b (i+1) m:=rfl
theorem apz(p:Nat)(a b:List Nat)(i k m:Nat):(if m=i+k then fA p (wvP p a b i k (i+k)) (fM p (a.getD i 0) (b.getD k 0))else wvP p a b i k m)=wvP p a b i (k+1) m:=by
 unfold wvP;by_cases h:m=i+k
 ·subst h;rw[if_pos rfl,if_neg zE,if_pos zE,show i+k - i=k by omega]
 ·rw[if_neg h];by_cases h2:i<=m/\m < i+k
  ·rw[if_pos h2,if_pos zE]
  ·rw[if_neg h2,if_neg zE]
theorem ajX{p:Nat}(h:PrP p)(a b:List Nat)(m:Nat):∀i,wvR p a b i m < p
 |0=>by have:=h.lt;show 0 < p;omega
 |i+1=>by
  unfold wvR;split
  ·exact al1 h _ _
  ·exact ajX h a b m i
theorem ayK{p:Nat}(h:PrP p)(a b:List Nat)(i k m:Nat):wvP p a b i k m < p:=by
 unfold wvP;split
 ·exact al1 h _ _
 ·exact ajX h a b m i
def rG(p:Nat)(a b:List Nat):List Nat:=if(aH p a).length=0\/(aH p b).length=0 then []else aH p (fZ ((aH p a).length+(aH p b).length - 1) (wvR p (aH p a) (aH p b) (aH p a).length))
theorem amf{p:Nat}(hp:PrP p)(a b:List Nat):∀z∈rG p a b,z < p:=by
 unfold rG;split
 ·intro z hz;cases hz
 ·exact fD hp _
theorem zM(p:Nat)(a b:List Nat):(rG p a b).length<=a.length+b.length:=by
 unfold rG;split
 ·exact zq8 _
 ·have h1:=dA p a;have h2:=dA p b;have h3:=dA p (fZ ((aH p a).length+(aH p b).length - 1) (wvR p (aH p a) (aH p b) (aH p a).length));rw[dn]at h3;omega
theorem aiT{p:Nat}(hp:PrP p)(op:Nat->Nat->Nat)(a b:List Nat):∀z∈aaW p op a b,z < p:=fD hp _
theorem aaE(p:Nat)(op:Nat->Nat->Nat)(a b:List Nat):(aaW p op a b).length<=max a.length b.length:=by
 have h:=dA p (fZ (max a.length b.length) fun i=>op (a.getD i 0) (b.getD i 0))
 rwa [dn]at h
attribute [local irreducible] IntKind.wrap Go1 Reg WP aO aR bM bK aN aD aj ak aX Sat
attribute [local irreducible] bO bX bV cK bW qv dH mf PrP qOk zOk vP dP lz vF cq rqv dX aS bU aV fB fA fS fM wR qd jG aH wvR wvP
theorem pI{p:Nat}(hp:PrP p){n:Nat}{f:Nat->Nat}(hn:n<=100000)(hf:∀i,f i < 18446744073709551616):ah prog 64 [.agg (gfA p),.r (aQ 1 n ((fZ n f).flatMap wdC))] (.r (aA 1 wdC (aH p (fZ n f)))):=by
 have c:=iH hp (l:=fZ n f) (by rw[dn];exact hn) (avp hf)
 rwa [yh (n:=n) (dn n f)]at c
theorem aoL{p:Nat}(hp:PrP p){l l':List Nat}(op:Nat->Nat->Nat)(x:CA)(hx1:x.eY=true)(hl:l.length<=10000)(hl':l'.length<=10000)
  (hx:∀i,FnV prog x [.v (.int .u64 ((l.getD i 0:Nat):Int)),.v (.int .u64 ((l'.getD i 0:Nat):Int))] (.v (.int .u64 ((op (l.getD i 0) (l'.getD i 0):Nat):Int)))) (hb:∀x y,op x y < 18446744073709551616):
  ah prog 118 [.agg (gfA p),.r (aA 1 wdC l),.r (aA 1 wdC l'),.it (.one (.c x))] (.r (aA 1 wdC (aaW p op l l'))):=by
 have cN:=pI hp (n:=max l.length l'.length) (f:=fun i=>op (l.getD i 0) (l'.getD i 0)) zE (fun i=>hb _ _)
 have hm:max l.length l'.length<=10000:=zE
 refine ah.fq func118 results118 ntmps118 fun _ _ _ _ hB=>?_
 refine zg ?_;refine W.loop (fun k=>k<=max l.length l'.length) (fun k=>[(1,.r (aA 1 wdC l)),(2,.r (aA 1 wdC l')),(3,.it (.one (.c x))),(4,.ptr 4 0),(9,.own 100),(18,.v (.int .i64 ((max l.length l'.length:Nat):Int))),(19,.v (.int .i64 (k:Int)))]) (fun k=>[(4,.box 65 (gfA p)),(100,.row 36 1 (max l.length l'.length) ((fZ (max l.length l'.length) fun i=>if i < k then op (l.getD i 0) (l'.getD i 0)else 0).flatMap wdC))]) (fun k=>max l.length l'.length - k) 0 (zq8 _) (fun k hk=>?_)
  (by
   refine St.aW [(100,some 16)] zt ?_ ?_ rfl
   ·exact yb
   ·exact⟨ay.same rfl rfl,ay.row rfl rfl rfl (mG fun m=>by rw[if_neg (zvj m)]),trivial⟩)
 by_cases h:k < max l.length l'.length
 ·have c1:=am1 l k zE
  have c2:=am1 l' k zE
  have c3:=hx k;have hln:=dn (max l.length l'.length) fun i=>if i < k then op (l.getD i 0) (l'.getD i 0)else 0
  have hst:=lu (n:=max l.length l'.length) (f:=fun i=>if i < k then op (l.getD i 0) (l'.getD i 0)else 0) (g:=fun i=>if i < k+1 then op (l.getD i 0) (l'.getD i 0)else 0) (k:=k) (x:=op (l.getD k 0) (l'.getD k 0)) (fun i=>by
   by_cases hi:i=k
   ·subst hi;rw[if_pos rfl,if_pos zE]
   ·rw[if_neg hi];by_cases hi2:i < k
    ·rw[if_pos hi2,if_pos zE]
    ·rw[if_neg hi2,if_neg zE])
  refine zg ?_;refine W.next (k+1) h zE (by
   refine St.aW [(100,some 100)] zt ?_ ?_ rfl
   ·exact yb
   ·exact⟨ay.same rfl rfl,ay.row rfl rfl rfl ((sK (by rw[hln];exact h)).trans (by rw[hst])),trivial⟩)
 ·obtain rfl:k=max l.length l'.length:=zE
  have e9:(fZ (max l.length l'.length) fun i=>if i < max l.length l'.length then op (l.getD i 0) (l'.getD i 0)else 0)=fZ (max l.length l'.length) fun i=>op (l.getD i 0) (l'.getD i 0):=by
   unfold fZ;exact zvg fun i hi=>if_pos (List.mem_range.1 hi)
  rw[e9];refine WP.freeze 100 hB rfl ?_;refine zg ?_;exact uX rfl
abbrev atB(p:Nat):=aaW p (fS p)
theorem aiG{p:Nat}(hp:PrP p){l l':List Nat}(hl:l.length<=10000)(hl':l'.length<=10000)(hb:∀x∈l,x < 18446744073709551616)(hb':∀x∈l',x < 18446744073709551616):
  ah prog 70 [.agg (gfA p),.r (aA 1 wdC l),.r (aA 1 wdC l')] (.r (aA 1 wdC (atB p l l'))):=by
 have hpl:=hp.lt;have c:=aoL hp (fS p) (.sat (cloA 117 [.val (.int .u64 (p:Int))])) rfl hl hl' (fun i=>FnV.bound (af8 hp _ _ (rP hb zc i) (rP hb' zc i))) (fun x y=>by have:=aqi hp x y;omega)
 refine ah.fq func70 results70 ntmps70 fun _ _ _ _ _=>?_
 refine zg ?_;refine WP.aI ?_;refine zg ?_;exact uX rfl
theorem ahQ{p:Nat}(hp:PrP p){l l':List Nat}(hl:l.length<=10000)(hl':l'.length<=10000)(hb:∀x∈l,x < 18446744073709551616)(hb':∀x∈l',x < 18446744073709551616):
  ah prog 71 [.agg (gfA p),.r (aA 1 wdC l),.r (aA 1 wdC l')] (.r (aA 1 wdC (rG p l l'))):=by
 have hpl:=hp.lt;have c1:=iH hp (l:=l) zE hb
 have c2:=iH hp (l:=l') zE hb'
 have n1:=dA p l;have n2:=dA p l';have hA:=fD hp l;have hB':=fD hp l';unfold rG;generalize aH p l=a at*;generalize aH p l'=b at*;by_cases h0:a.length=0\/b.length=0
 ·rw[if_pos h0];refine ah.fq func71 results71 ntmps71 fun w0 T B E0 hB=>?_
  by_cases h1:a.length=0
  ·refine zg ?_;refine zY ?_;exact fun E S w v h=>aB.nil (α:=Nat) (enc:=wdC) (size:=1) E S w v h
  ·have h2:=h0.resolve_left h1;refine zg ?_;refine zY ?_;exact fun E S w v h=>aB.nil (α:=Nat) (enc:=wdC) (size:=1) E S w v h
 rw[if_neg h0];have hN:∃N,N=a.length+b.length - 1:=⟨_,rfl⟩;obtain⟨N,hN⟩:=hN;have cN:=pI hp (n:=N) (f:=wvR p a b a.length) zE (fun i=>by have:=ajX hp a b i a.length;omega)
 rw[<-hN];refine ah.fq func71 results71 ntmps71 fun w0 T B E0 hB=>?_
 refine zg ?_;refine W.loop (fun i=>i<=a.length) (fun i=>[(2,.r (aA 1 wdC b)),(3,.ptr 3 0),(7,.own 100),(33,.r (aA 1 wdC a)),(34,.v (.int .i64 (a.length:Int))),(35,.v (.int .i64 (i:Int)))]) (fun i=>[(3,.box 65 (gfA p)),(100,.row 36 1 N ((fZ N (wvR p a b i)).flatMap wdC))]) (fun i=>a.length - i) 0 (zq8 _) (fun i hi=>?_)
  (by
   refine St.aW [(100,some 32)] zt ?_ ?_ rfl
   ·exact yd
   ·exact⟨ay.same rfl rfl,ay.row rfl rfl zE (by rw[show a.length+b.length - 1=N by omega];exact mG fun m=>by unfold wvR;rfl),trivial⟩)
 by_cases h:i < a.length
 rotate_left
 ·obtain rfl:i=a.length:=zE
  refine WP.freeze 100 hB rfl ?_;refine zg ?_;exact uX rfl
 obtain⟨x,hx⟩:∃x,a[i]? =some x:=⟨_,zyh h⟩
 have gx:a.getD i 0=x:=by rw[zx7,hx];rfl
 have lx:=hA x (zq4 hx);refine zg ?_;refine W.loop (fun k=>k<=b.length) (fun k=>[(2,.r (aA 1 wdC b)),(3,.ptr 3 0),(7,.own 100),(8,.v (.int .i64 (i:Int))),(9,.v (.int .u64 (x:Int))),(33,.r (aA 1 wdC a)),(34,.v (.int .i64 (a.length:Int))),(35,.v (.int .i64 (i:Int))),(40,.r (aA 1 wdC b)),(41,.v (.int .i64 (b.length:Int))),(42,.v (.int .i64 (k:Int)))]) (fun k=>[(3,.box 65 (gfA p)),(100,.row 36 1 N ((fZ N (wvP p a b i k)).flatMap wdC))]) (fun k=>b.length - k) 0 (zq8 _) (fun k hk=>?_)
  (by
   refine St.aW [(100,some 100)] zt ?_ ?_ rfl
   ·exact yd
   ·exact⟨ay.same rfl rfl,ay.row rfl rfl rfl (by rw[show wvP p a b i 0=wvR p a b i from funext fun m=>ar2 p a b i m]),trivial⟩)
 by_cases h2:k < b.length
 ·obtain⟨y,hy⟩:∃y,b[k]? =some y:=⟨_,zyh h2⟩
  have gy:b.getD k 0=y:=by rw[zx7,hy];rfl
  have ly:=hB' y (zq4 hy);have hN2:i+k < N:=zE
  have hat:=jo (f:=wvP p a b i k) hN2;have hln:=dn N (wvP p a b i k);have l1:=ayK hp a b i k (i+k);have l2:=y7 hp x y;have cM:=qI hp x y zE zE
  have cA:=agu hp (wvP p a b i k (i+k)) (fM p x y) zE zE
  have hst:=lu (n:=N) (f:=wvP p a b i k) (g:=wvP p a b i (k+1)) (k:=i+k) (x:=fA p (wvP p a b i k (i+k)) (fM p x y)) (fun m=>by
   have:=apz p a b i k m;rw[gx,gy]at this;exact this)
  refine zg ?_;refine W.next (k+1) h2 zE (by
   refine St.aW [(100,some 100)] zt ?_ ?_ rfl
   ·exact yb
   ·exact⟨ay.same rfl rfl,ay.row rfl rfl rfl ((sK (by rw[hln];exact hN2)).trans (by rw[hst])),trivial⟩)
 ·obtain rfl:k=b.length:=zE
  rw[show wvP p a b i b.length=wvR p a b (i+1)from funext fun m=>aq5 p a b i m]
  refine zg ?_;exact W.next (i+1) h zE
end
end Go.Proofs.YtjnhnbgpifohjaaGreatDoor
set_option linter.unusedSectionVars false
namespace Go.Proofs.YtjnhnbgpifohjaaGreatDoor
open Go.RowKit QM SX LA
section
def cvR(a b:List Int):Nat->Nat->Int
 |0,_=>0
 |i+1,m=>cvR a b i m+(if i<=m then a.getD i 0*b.getD (m - i) 0 else 0)
def cvP(a b:List Int)(i k m:Nat):Int:=cvR a b i m+(if i<=m/\m < i+k then a.getD i 0*b.getD (m - i) 0 else 0)
def akE(a b:List Int):List Int:=if a.length=0\/b.length=0 then []else aS (xK (a.length+b.length - 1) (cvR a b a.length))
abbrev uo(n:Nat)(f:Nat->Int):List Z2:=(List.range n).map fun m=>z2v (f m)
theorem zV{n:Nat}{f:Nat->Int}{k:Nat}(h:k < n):(uo n f)[k]? =some (z2v (f k)):=by
 rw[zqa,zvb h];rfl
theorem zJ{n:Nat}{f g:Nat->Int}{k:Nat}{x:Int}(h:∀m,(if m=k then x else f m)=g m):(uo n f).set k (z2v x)=uo n g:=by
 apply zyb
 intro j;rw[zv2]
 by_cases hj:k=j
 ·subst hj;rw[if_pos rfl,zq5,zy1];by_cases hk:k < n
  ·rw[if_pos hk,zV hk,<-h k,if_pos rfl]
  ·rw[if_neg hk,zqe (by rw[zq5,zy1];omega)]
 ·rw[if_neg hj];by_cases hk:j < n
  ·rw[zV hk,zV hk,<-h j,if_neg (fun e=>hj e.symm)]
  ·rw[zqe (by rw[zq5,zy1];omega),zqe (by rw[zq5,zy1];omega)]
theorem aar{n:Nat}{f:Nat->Int}(h:∀m,f m=0):(List.replicate n (z2C (z2v 0))).flatten=(uo n f).flatMap z2C:=by
 have:uo n f=List.replicate n (z2v 0):=by
  apply zyb;intro j
  rw[List.getElem?_replicate]
  by_cases hj:j < n
  ·rw[zV hj,if_pos hj,h]
  ·rw[if_neg hj,zqe (by rw[zq5,zy1];omega)]
 rw[this,List.flatMap,List.map_replicate]
theorem uq(n:Nat)(f:Nat->Int):(uo n f).length=n:=by rw[zq5,zy1]
attribute [local irreducible] IntKind.wrap Go1 Reg WP aO aR bM bK aN aD aj ak aX Sat
attribute [local irreducible] bO bX bV cK bW qv dH mf PrP qOk zOk vP dP lz vF cq rqv dX aS bU aV fB cvR cvP akE
theorem abY{l:List Z2}{zs:List Int}{K:Nat}(hM:MZ l zs K)(hK:K<=1000000)(hl:l.length<=100000)(hn:pN zs):ah prog 23 [.r (aA 2 z2C l)] (.r (aA 2 z2C (zs.map z2v))):=by
 have c:=jr hM hK hl
 rwa [ajw hn]at c
end
section
theorem wB{α β:Type}{enc:β->List CA}{f:α->β}{l:List α}{k:Nat}{x:α}(hx:l[k]? =some x):((l.take k).map f).flatMap enc++enc (f x)=((l.take (k+1)).map f).flatMap enc:=by
 rw[mP hx];simp
attribute [local irreducible] IntKind.wrap Go1 Reg WP aO aR bM bK aN aD aj ak aX Sat
attribute [local irreducible] bO bX bV cK bW qv dH mf PrP qOk zOk vP dP lz vF cq rqv dX aS bU aV fB jn sq aY qS zS tS tbS
end
end Go.Proofs.YtjnhnbgpifohjaaGreatDoor
set_option linter.unusedSectionVars false
namespace Go.Proofs.YtjnhnbgpifohjaaGreatDoor
open Go.RowKit QM SX LA
def gX(zs:List Int)(n:Nat):List Int:=List.replicate n 0++zs
theorem anQ(zs:List Int)(n j:Nat):(gX zs n).getD j 0=if n<=j then zs.getD (j - n) 0 else 0:=by
 unfold gX;rw[zx7,List.getElem?_append,List.length_replicate]
 by_cases h:n<=j
 ·rw[if_neg zE,if_pos h,zx7]
 ·rw[if_pos zE,if_neg h,List.getElem?_replicate,if_pos zE];rfl
theorem xI(zs:List Int)(n:Nat):(gX zs n).length=n+zs.length:=by unfold gX;rw[zqi,List.length_replicate]
theorem vU{zs:List Int}{n K:Nat}(h:∀z∈zs,z.natAbs < WB ^ K):∀z∈gX zs n,z.natAbs < WB ^ K:=fun z hz=>by
 unfold gX at hz;rw[zyg]at hz;rcases hz with hz|hz
 ·rw[(List.mem_replicate.1 hz).2];exact Nat.pow_pos aZ
 ·exact h z hz
theorem akq(zs:List Int)(n:Nat):(gX zs n).map z2v=List.replicate n (z2v 0)++zs.map z2v:=by unfold gX;rw[List.map_append,List.map_replicate]
theorem aqH{a b:List Int}{K:Nat}(h:∀z∈a,z.natAbs < WB ^ K)(h':∀z∈b,z.natAbs < WB ^ K):∀z∈aak a b,z.natAbs < WB ^ (K+1):=fun z hz=>by
 obtain⟨j,rfl⟩:=acS hz;rw[abF];have h1:=qE h j;have h2:=qE h' j;have h3:=aga K;have:=Int.natAbs_sub_le (a.getD j 0) (b.getD j 0);omega
def exF(b:List Int):Nat->List Int->(Nat->Int)->Option ((Nat->Int)×List Int)
 |0,a,f=>some (f,a)
 |n+1,a,f=>if nH (a.getD (n+b.length - 1) 0) (b.getD (b.length - 1) 0)then exF b n (aak a (gX (aV b (eX (a.getD (n+b.length - 1) 0) (b.getD (b.length - 1) 0))) n)) (fun i=>if i=n then eX (a.getD (n+b.length - 1) 0) (b.getD (b.length - 1) 0)else f i)else none
def exR(zs b:List Int):Option (List Int):=if b.length=0 then none else match exF b (zs.length+1 - b.length) zs (fun _=>0)with
 |none=>none
 |some (f,a)=>if a.length=0 then some (aS (xK (zs.length+1 - b.length) f))else none
theorem atU{x y:Int}{K:Nat}(h:x.natAbs < WB ^ K):(eX x y).natAbs < WB ^ K:=by
 unfold eX
 split
 ·rw[Int.natAbs_tdiv];exact zxb (Nat.div_le_self _ _) h
 ·exact Nat.pow_pos aZ
attribute [local irreducible] IntKind.wrap Go1 Reg WP aO aR bM bK aN aD aj ak aX Sat
attribute [local irreducible] bO bX bV cK bW qv dH mf PrP qOk zOk vP dP lz vF cq rqv dX aS bU aV fB cvR cvP akE gX eX nH exF
theorem abo{zs:List Int}{n:Nat}(hl:zs.length<=100000)(hn:n<=100000):ah prog 180 [.r (aA 2 z2C (zs.map z2v)),.v (.int .i64 (n:Int))] (.r (aA 2 z2C ((gX zs n).map z2v))):=by
 have m1:(zs.map z2v).length=zs.length:=zq5 _;rw[akq];refine ah.fq func180 results180 ntmps180 fun _ _ _ _ _=>?_
 refine zg ?_;refine aN.frz 12 ?_;refine uX ?_;show AV0.one (.c (.sat (aQ 2 (n+(zs.map z2v).length) _)))= .one (.c (.sat (aQ 2 (List.replicate n (z2v 0)++zs.map z2v).length _)));rw[zqi,List.length_replicate,zvc];have e:(List.replicate n (z2v 0)).flatMap z2C=(List.replicate n (z2C (z2v 0))).flatten:=by rw[List.flatMap,List.map_replicate]
 rw[e]
structure DvK(S L K K':Nat)(n:Nat)(a:List Int)(f:Nat->Int):Prop where
 le:n<=S
 p:pN a
 l:a.length<=L
 b:∀z∈a,z.natAbs < WB ^ (K+(S - n)*(K'+1))
 f:∀i,(f i).natAbs < WB ^ (K+S*(K'+1))
theorem abe{x K L:Nat}(h:x < WB ^ K)(hK:K<=L):x < WB ^ L:=zqf h (zx2 aZ hK)
theorem asG(a:List Int)(i:Nat):aiI (a.map z2v) i=z2v (a.getD i 0):=by
 unfold aiI;rw[zx7,zx7,zqa]
 cases a[i]? <;> rfl
end Go.Proofs.YtjnhnbgpifohjaaGreatDoor
set_option linter.unusedSectionVars false
namespace Go.Proofs.YtjnhnbgpifohjaaGreatDoor
open Go.RowKit QM SX LA
attribute [local irreducible] IntKind.wrap Go1 Reg WP aO aR bM bK aN aD aj ak aX Sat
attribute [local irreducible] bO bX bV cK bW qv dH mf PrP qOk zOk vP dP lz vF cq rqv dX aS bU aV fB cvR cvP akE gX eX nH exF vW kP
theorem as0{x y:Rat}{K L:Nat}(hx:RB x K)(hy:RB y L)(hK:K+L<=100000)(h0:y≠0):ah prog 514 [.agg (vlA (iR x)),.agg (vlA (iR y))] (.tup [.agg (vlA (iR (x / y))),eNo 0]):=by
 haveI:=Ra.cq hx
 haveI:=Ra.cq hy
 have c:=(ahj (l:=q4A (rq (cq x))) (l':=q4A (rq (cq y))) (K:=K) (K':=L)).h zE
 rw[decide_eq_true h0]at c;have cN:=aiN (x / y) 3;refine ah.fq func514 results514 ntmps514 fun _ _ _ _ _=>?_
 refine zg ?_;refine .ok (aD.mk2 aj.ig (aj.tmp rfl))
section
variable{a b:List Int}{K L:Nat}(h:∀z∈a,z.natAbs < WB ^ K)(h':∀z∈b,z.natAbs < WB ^ L)(hn:pN a)(hn':pN b)(hl:a.length<=4000)(hl':b.length<=4000)(hK:K+(a.length+1)*(L+1)<=30000)(hL:L<=30000)
include h h' hn hn' hl hl' hK hL
end
section
end
