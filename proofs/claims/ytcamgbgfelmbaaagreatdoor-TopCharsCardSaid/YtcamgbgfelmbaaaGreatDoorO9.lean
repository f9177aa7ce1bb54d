import Derived.Test.YtcamgbgfelmbaaaGreatDoorO6
import Derived.Test.YtcamgbgfelmbaaaGreatDoorO3
set_option linter.all false
set_option maxRecDepth 20000
set_option maxHeartbeats 4000000
open Go.Proofs.Tryz
namespace Go.Proofs.YtcamgbgfelmbaaaGreatDoor
open Go.RowKit QM SX LA
variable{l l' zs:List Nat}{B c j p r x:Nat}
section
def fA(p x y:Nat):Nat:=(x % p+y % p) % p
def fS(p x y:Nat):Nat:=(x % p+p - y % p) % p
def fM(p x y:Nat):Nat:=(x % p*(y % p)) % p
def am6(h:PrP p)(x y:Nat):fA p x y < p:=zyi _ (by have:=h.lt;omega)
def adk(h:PrP p)(x y:Nat):fS p x y < p:=zyi _ (by have:=h.lt;omega)
def wo(h:PrP p)(x y:Nat):fM p x y < p:=zyi _ (by have:=h.lt;omega)
def iN(c:Nat)(val:Nat->Nat->Nat)(i:Nat):List Nat:=(List.range i).flatMap fun i=>(List.range c).map (val i)
def aoV{val:Nat->Nat->Nat}:iN c val 0=[]:=rfl
def uX{i:Nat}{val:Nat->Nat->Nat}:iN c val (i+1)=iN c val i++(List.range c).map (val i):=by
 unfold iN;rw[List.range_succ,zvc];simp
def oJ{c:Nat}{val:Nat->Nat->Nat}:∀i,(iN c val i).length=i*c
 |0=>by simp[aoV]
 |i+1=>by rw[uX,zqi,oJ i];simp[zv8]
def avi{val:Nat->Nat->Nat}(h:∀i k,val i k < p):∀v∈iN c val r,v < p:=by
 intro v hv;unfold iN at hv;obtain⟨i,hi,hv⟩:=zx9.1 hv;obtain⟨k,hk,rfl⟩:=zqg.1 hv;exact h i k
def mJ(val:Nat->Nat->Nat)(i k:Nat):List Nat:=(List.range k).map (val i)
def adf{val:Nat->Nat->Nat}{i k:Nat}:mJ val i (k+1)=mJ val i k++[val i k]:=by
 unfold mJ;rw[List.range_succ,List.map_append];rfl
def fat(l:List Nat)(c i k:Nat):Nat:=l.getD (i*c+k) 0
def afL{i k:Nat}(hl:l.length=r*c)(hi:i < r)(hk:k < c):l[i*c+k]? =some (fat l c i k):=by
 unfold fat;have h:=rW hi hk;rw[zx7,zyh zE];rfl
def arG(h:∀x∈l,x < B)(hB:0 < B)(c i k:Nat):fat l c i k < B:=by
 unfold fat;rw[zx7]
 by_cases hi:i*c+k < l.length
 ·rw[zyh hi];exact h _ (List.getElem_mem hi)
 ·rw[zqe zE];exact hB
abbrev ptrP(p:Nat):AV:= .r (dL [.val (.int .u64 (p:Int))])
attribute [local irreducible] IntKind.wrap Go1 Reg WP aK aN bD aZ aJ aA aj ak aT Sat
attribute [local irreducible] PrP fA fS fM
def amY(h:PrP p)(x y:Nat)(hx:x < 18446744073709551616)(hy:y < 18446744073709551616):ah prog 403 [.agg (gfA p),.v (.int .u64 (x:Int)),.v (.int .u64 (y:Int))] (.v (.int .u64 ((fA p x y:Nat):Int))):=by
 have hp:=h.lt;have m1:x % p < p:=zyi _ zE
 have m2:y % p < p:=zyi _ zE
 have c:=pJ h;have c1:=eG h x hx;have c2:=eG h y hy;have hr:IntKind.u64.wrap (((x % p+y % p:Nat):Int).tmod (p:Int))=((fA p x y:Nat):Int):=by unfold fA;rw[mH];exact wrapN (zxb (Nat.mod_le _ p) zE)
 unfold fA;refine ah.fq func403 ?_;intros
 refine zg ?_;exact dZ rfl
def abB(h:PrP p)(x y:Nat)(hx:x < 18446744073709551616)(hy:y < 18446744073709551616):ah prog 343 [.agg (gfA p),.v (.int .u64 (x:Int)),.v (.int .u64 (y:Int))] (.v (.int .u64 ((fS p x y:Nat):Int))):=by
 have hp:=h.lt;have m1:x % p < p:=zyi _ zE
 have m2:y % p < p:=zyi _ zE
 have c:=pJ h;have c1:=eG h x hx;have c2:=eG h y hy;have hr:IntKind.u64.wrap (((x % p+p - y % p:Nat):Int).tmod (p:Int))=((fS p x y:Nat):Int):=by unfold fS;rw[mH];exact wrapN (zxb (Nat.mod_le _ p) zE)
 unfold fS;refine ah.fq func343 ?_;intros
 refine zg ?_;exact dZ rfl
def mG(h:PrP p)(x y:Nat)(hx:x < 18446744073709551616)(hy:y < 18446744073709551616):ah prog 339 [.agg (gfA p),.v (.int .u64 (x:Int)),.v (.int .u64 (y:Int))] (.v (.int .u64 ((fM p x y:Nat):Int))):=by
 have hp:=h.lt;have m1:x % p < p:=zyi _ zE
 have m2:y % p < p:=zyi _ zE
 have c:=pJ h;have c1:=eG h x hx;have c2:=eG h y hy;have hb:x % p*(y % p)<=2147483648*2147483648:=zxd zE zE
 have hm:IntKind.u64.wrap (((x % p:Nat):Int)*((y % p:Nat):Int))=((x % p*(y % p):Nat):Int):=by rw[<-Int.natCast_mul];exact wrapN zE
 have hr:IntKind.u64.wrap (((x % p*(y % p):Nat):Int).tmod (p:Int))=((fM p x y:Nat):Int):=by unfold fM;rw[mH];exact wrapN (zxb (Nat.mod_le _ p) zE)
 unfold fM;refine ah.fq func339 ?_;intros
 refine zg ?_;exact dZ rfl
def auN{r i k:Nat}(hq:l[i*c+k]? =some x)(hi:i<=100)(hc:c<=100)(hk:k<=100):
  ah prog 340 [.agg (fmA r c l),.v (.int .i64 (i:Int)),.v (.int .i64 (k:Int))] (.v (.int .u64 (x:Int))):=by
 have hb:=zxd hi hc;have hlt:=oL hq;refine ah.fq func340 ?_;intros
 refine zg ?_;exact dZ rfl
def afo(hp:PrP p)(r c:Nat)(x:CA)(val:Nat->Nat->Nat)(hr:r<=100)(hc:c<=100)(hx:∀i k,i < r->k < c->FnV prog x [.v (.int .i64 (i:Int)),.v (.int .i64 (k:Int))] (.v (.int .u64 (val i k:Int))))(hL:∀i k,i < r->k < c->val i k < p)(hx1:x.dN=true):
  ah prog 337 [.agg (gfA p),.v (.int .i64 (r:Int)),.v (.int .i64 (c:Int)),.it (.one (.c x))] (.agg (fmA r c (iN c val r))):=by
 have hpl:=hp.lt;refine ah.fq func337 ?_;intros
 refine zg ?_;refine W.loop (fun i=>i<=r) (fun i=>[(2,.v (.int .i64 (c:Int))),(3,.it (.one (.c x))),(4,.ptr 4 0),(8,.ptr 8 0),(9,.ptr 9 0),(15,.v (.int .i64 (r:Int))),(16,.v (.int .i64 (i:Int)))]) (fun i=>[(4,.box 267 (gfA p)),(8,.box 57 [.c (.val (.int .i64 0)),.c (.val (.int .i64 0)),.c (.val (.slice none 0 0))]),(9,.box 57 [.c (.val (.int .i64 (r:Int))),.c (.val (.int .i64 (c:Int))),.own 100]),(100,.row 35 1 (i*c) ((iN c val i).flatMap wdC))]) (fun i=>r - i) 0 (zq8 _) (fun i hi=>?_)
  (by
   refine St.aS [(100,none)] z6 ?_ ?_ rfl
   ·exact yd
   ·exact⟨ay.same rfl rfl,ay.same rfl rfl,ay.jE rfl rfl ⟨aB.same rfl,aB.same rfl,aB.nil rfl,trivial⟩,by rw[zw3];exact ay.dw rfl,trivial⟩)
 by_cases h:i < r
 ·refine zg ?_;refine W.loop (fun k=>k<=c) (fun k=>[(2,.v (.int .i64 (c:Int))),(3,.it (.one (.c x))),(4,.ptr 4 0),(8,.ptr 8 0),(9,.ptr 9 0),(10,.v (.int .i64 (i:Int))),(15,.v (.int .i64 (r:Int))),(16,.v (.int .i64 (i:Int))),(19,.v (.int .i64 (c:Int))),(20,.v (.int .i64 (k:Int)))]) (fun k=>[(4,.box 267 (gfA p)),(8,.box 57 [.c (.val (.int .i64 0)),.c (.val (.int .i64 0)),.c (.val (.slice none 0 0))]),(9,.box 57 [.c (.val (.int .i64 (r:Int))),.c (.val (.int .i64 (c:Int))),.own 100]),(100,.row 35 1 (i*c+k) ((iN c val i++mJ val i k).flatMap wdC))]) (fun k=>c - k) 0 (zq8 _) (fun k hk=>?_)
   (by
    have e:Ent.row 35 1 (i*c) ((iN c val i).flatMap wdC)=Ent.row 35 1 (i*c+0) ((iN c val i++mJ val i 0).flatMap wdC):=by simp[mJ]
    refine St.aS [] z6 ?_ ?_ rfl
    ·exact yd
    ·exact⟨ay.same rfl rfl,ay.same rfl rfl,ay.same rfl rfl,ay.eq rfl e rfl,trivial⟩)
  by_cases h2:k < c
  ·have hf:=hx i k h h2;have hl:=hL i k h h2;have cR:=eG hp (val i k) zE
   rw[zw4 hl]at cR;have hlen:i*c+k<=20000:=by
    have:=zxd (show i<=100 by omega) hc
    omega
   refine zg ?_;refine W.next (k+1) h2 zE (by
    have e2:(iN c val i++mJ val i k).flatMap wdC++wdC (val i k)=(iN c val i++mJ val i (k+1)).flatMap wdC:=by
     rw[adf,<-zqj,zvc (xs:=iN c val i++mJ val i k)];simp
    refine St.aS [(100,some 32)] z6 ?_ ?_ rfl
    ·exact yd
    ·exact⟨ay.same rfl rfl,ay.same rfl rfl,ay.jE rfl rfl ⟨aB.same rfl,aB.same rfl,aB.own rfl,trivial⟩,ay.row rfl rfl zE e2,trivial⟩)
  ·obtain rfl:k=c:=zE
   refine zg ?_;refine W.next (i+1) h zE (by
    have e2:Ent.row 35 1 (i*k+k) ((iN k val i++mJ val i k).flatMap wdC)=Ent.row 35 1 ((i+1)*k) ((iN k val (i+1)).flatMap wdC):=by rw[zv8,uX];rfl
    refine St.aS [] z6 ?_ ?_ rfl
    ·exact yd
    ·exact⟨ay.same rfl rfl,ay.same rfl rfl,ay.same rfl rfl,ay.eq rfl e2 rfl,trivial⟩)
 ·obtain rfl:i=r:=zE
  refine zg ?_;have hm:fmA i c (iN c val i)=[.c (.val (.int .i64 (i:Int))),.c (.val (.int .i64 (c:Int))),.c (.sat (aP 1 (i*c) ((iN c val i).flatMap wdC)))]:=by
   show [_,_,Atom.c (.sat (aP 1 (iN c val i).length _))]=_;rw[oJ]
  rw[hm];refine aJ.frz 100 ?_;exact jG aj.aW rfl
section
variable{p r c:Nat}(hp:PrP p){l l':List Nat}(hl:l.length=r*c)(hr:r<=64)(hc:c<=64)(hb:∀x∈l,x < 18446744073709551616)
include hp hl hr hc hb
end
end
section
def wl(zs:List Nat):Nat->Nat
 |0=>0
 |k+1=>if zs.getD k 0=0 then wl zs k else k+1
def agc(zs:List Nat):Nat:=wl zs zs.length
def sM(zs:List Nat):List Nat:=zs.take (agc zs)
def gN(zs:List Nat):Prop:=zs.length=0\/zs.getD (zs.length - 1) 0≠0
def axY(zs:List Nat):∀k,wl zs k<=k
 |0=>zq6 _
 |k+1=>by unfold wl;split;exact Nat.le_succ_of_le (axY zs k);exact zq6 _
def asB(zs:List Nat):∀k,wl zs k=0\/zs.getD (wl zs k - 1) 0≠0
 |0=> .inl rfl
 |k+1=>by
  unfold wl;split
  ·exact asB zs k
  ·next h=>exact .inr h
def al8(zs:List Nat):∀(k j:Nat),wl zs k<=j->j < k->zs.getD j 0=0
 |0,j,_,h=>absurd h (zvj _)
 |k+1,j,h1,h2=>by
  unfold wl at h1
  split at h1
  ·next h=>
   by_cases hj:j=k
   ·subst hj;exact h
   ·exact al8 zs k j h1 zE
  ·omega
def agT(zs:List Nat):agc zs<=zs.length:=axY zs _
def vG(zs:List Nat):(sM zs).length=agc zs:=by unfold sM;rw[zx3];exact zv9 (agT zs)
def jl(h:zs.length<=j):zs.getD j 0=0:=by rw[zx7,zqe h];rfl
def abP(zs:List Nat)(j:Nat):(sM zs).getD j 0=zs.getD j 0:=by
 by_cases h:j < agc zs
 ·unfold sM;rw[zx7,zy9,if_pos h,<-zx7]
 ·rw[jl (by rw[vG];omega)]
  by_cases h2:j < zs.length
  ·exact(al8 zs _ j (by unfold agc at h;omega) h2).symm
  ·exact(jl zE).symm
def ahW(zs:List Nat):gN (sM zs):=by
 rcases asB zs zs.length with h|h
 ·exact .inl (by rw[vG];exact h)
 ·exact .inr (by rw[vG,abP];exact h)
def atY{a b:List Nat}(ha:gN a)(hb:gN b)(h:∀j,a.getD j 0=b.getD j 0):a=b:=by
 have key:∀{a b:List Nat},gN a->(∀j,a.getD j 0=b.getD j 0)->a.length<=b.length:=fun {a b} ha h=>by
  rcases ha with h0|h0
  ·omega
  ·rcases zyd b.length a.length with h1|h1
   ·rw[h,jl zE]at h0;exact absurd rfl h0
   ·exact h1
 have hl:a.length=b.length:=Nat.le_antisymm (key ha h) (key hb fun j=>(h j).symm)
 apply zyb;intro j
 by_cases hj:j < a.length
 ·have:=h j;rw[zx7,zx7,zyh hj,zyh zE]at this
  rw[zyh hj,zyh zE]
  exact congrArg some this
 ·rw[zqe zE,zqe zE]
def akK(h:gN zs):sM zs=zs:=atY (ahW zs) h (abP zs)
def aoj:∀z∈sM zs,z∈zs:=fun z h=>zv3 h
def jg(n:Nat)(f:Nat->Nat):List Nat:=(List.range n).map f
def eH(n:Nat)(f:Nat->Nat):(jg n f).length=n:=by unfold jg;rw[zq5,zy1]
def agB{n:Nat}{f:Nat->Nat}(h:j < n):(jg n f).getD j 0=f j:=by
 unfold jg;rw[zx7,zqa,zvb h];rfl
def asi(h:∀z∈zs,z < p):∀z∈sM zs,z < p:=fun z hz=>h z (aoj z hz)
def axo{n:Nat}{f:Nat->Nat}(h:∀i,f i < p):∀z∈jg n f,z < p:=fun z hz=>by
 unfold jg at hz;obtain⟨i,_,rfl⟩:=zqg.1 hz;exact h i
def qy{n:Nat}{f:Nat->Nat}{k:Nat}(h:k < n):(jg n f)[k]? =some (f k):=by
 unfold jg;rw[zqa,zvb h];rfl
def yX{n:Nat}{f g:Nat->Nat}{k:Nat}(h:∀m,(if m=k then x else f m)=g m):(jg n f).set k x=jg n g:=by
 apply zyb
 intro j;rw[zv2]
 by_cases hj:k=j
 ·subst hj;rw[if_pos rfl,eH];by_cases hk:k < n
  ·rw[if_pos hk,qy hk,<-h k,if_pos rfl]
  ·rw[if_neg hk,zqe (by rw[eH];omega)]
 ·rw[if_neg hj];by_cases hk:j < n
  ·rw[qy hk,qy hk,<-h j,if_neg (fun e=>hj e.symm)]
  ·rw[zqe (by rw[eH];omega),zqe (by rw[eH];omega)]
def vT{n:Nat}{f:Nat->Nat}(h:∀m,f m=0):List.replicate n (CA.val (.int .u64 0))=(jg n f).flatMap wdC:=by
 have:jg n f=List.replicate n 0:=by
  apply zyb;intro j
  rw[List.getElem?_replicate]
  by_cases hj:j < n
  ·rw[qy hj,if_pos hj,h]
  ·rw[if_neg hj,zqe (by rw[eH];omega)]
 rw[this];clear this h
 induction n with
 |zero=>rfl
 |succ n ih=>rw[List.replicate_succ,List.replicate_succ,zq7,<-ih];rfl
def ar9(l:List Nat):l.flatMap wdC=l.map fun x:Nat=>CA.val (.int .u64 (x:Int)):=by
 induction l with
 |nil=>rfl
 |cons a l ih=>rw[zq7,ih];rfl
def agn{i:Nat}(h:i < l.length):spl (l.flatMap wdC) (i*1) [CA.val (.int .u64 (x:Int))]=(l.set i x).flatMap wdC:=by
 rw[ar9,ar9,Nat.mul_one];exact yj (fun x:Nat=>CA.val (.int .u64 (x:Int))) l i x h
def ny(p:Nat)(l:List Nat):List Nat:=l.map (· % p)
def ae8(p:Nat)(l:List Nat):(ny p l).length=l.length:=zq5 _
def acM(p:Nat)(l:List Nat)(k:Nat):(ny p l).getD k 0=l.getD k 0 % p:=by
 unfold ny;rw[zx7,zx7,zqa]
 by_cases hk:k < l.length
 ·rw[zyh hk];rfl
 ·rw[zqe zE];exact(Nat.zero_mod p).symm
def asN(hp:PrP p)(l:List Nat):∀z∈ny p l,z < p:=fun z hz=>by
 unfold ny at hz;obtain⟨i,_,rfl⟩:=zqg.1 hz;exact zyi _ (by have:=hp.lt;omega)
def alb(h:∀x∈l,x < p):ny p l=l:=by
 unfold ny;have h2:l.map (· % p)=l.map id:=zvg fun x hx=>zw4 (h x hx)
 rw[h2,List.map_id]
def ad2(h:∀x∈l,x < B)(hB:0 < B)(k:Nat):l.getD k 0 < B:=by
 rw[zx7]
 by_cases hi:k < l.length
 ·rw[zyh hi];exact h _ (List.getElem_mem hi)
 ·rw[zqe zE];exact hB
def bL(p:Nat)(l:List Nat):List Nat:=sM (ny p l)
def xQ(p:Nat)(l:List Nat):gN (bL p l):=ahW _
def qO(hp:PrP p)(l:List Nat):∀z∈bL p l,z < p:=asi (asN hp l)
def jX(p:Nat)(l:List Nat):(bL p l).length<=l.length:=by
 unfold bL;rw[vG];have:=agT (ny p l)
 rwa [ae8]at this
def zJ(p:Nat)(l:List Nat)(j:Nat):(bL p l).getD j 0=l.getD j 0 % p:=by unfold bL;rw[abP,acM]
def acw{n:Nat}(h:l.length=n):aD 1 wdC l=aP 1 n (l.flatMap wdC):=by subst h;rfl
attribute [local irreducible] IntKind.wrap Go1 Reg WP aK aN bD aZ aJ aA aj ak aT Sat
attribute [local irreducible] PrP agc sM ny
def amC(l:List Nat)(i:Nat)(hl:l.length<=1000000):ah prog 439 [.r (aD 1 wdC l),.v (.int .i64 (i:Int))] (.v (.int .u64 ((l.getD i 0:Nat):Int))):=by
 rw[zx7]
 refine ah.fq func439 ?_;intros
 by_cases h:i < l.length
 ·obtain⟨q,hq⟩:∃q,l[i]? =some q:=⟨_,zyh h⟩
  rw[hq];refine zg ?_;exact dZ rfl
 ·rw[zqe zE]
  refine zg ?_;exact dZ rfl
def vg(hp:PrP p)(hl:l.length<=100000)(hb:∀x∈l,x < 18446744073709551616):ah prog 402 [.agg (gfA p),.r (aD 1 wdC l)] (.r (aD 1 wdC (bL p l))):=by
 have hlen:=ae8 p l;have hle:=agT (ny p l);have hpl:=hp.lt;refine ah.fq func402 ?_;intros
 refine zg ?_;refine W.loop (fun k=>k<=l.length/\wl (ny p l) k=agc (ny p l)) (fun k=>[(1,.r (aD 1 wdC l)),(2,.ptr 2 0),(5,.v (.int .i64 (k:Int)))]) (fun _=>[(2,.box 267 (gfA p))]) (fun k=>k) l.length ⟨zq6 _,by rw[<-hlen];unfold agc;rfl⟩ (fun k ⟨hk,he⟩=>?_)
 by_cases h0:0 < k
 ·obtain⟨m,rfl⟩:∃m,k=m+1:=⟨k - 1,zE⟩
  obtain⟨q,hq⟩:∃q,l[m+1 - 1]? =some q:=⟨_,zyh zE⟩
  have hq':l[m]? =some q:=hq;have hg:(ny p l).getD m 0=q % p:=by rw[acM,zx7,hq'];rfl
  have cS:=eG hp q (hb q (zq4 hq'));unfold wl at he;rw[hg]at he;by_cases hz0:q % p=0
  ·rw[if_pos hz0]at he;rw[hz0]at cS;refine zg ?_;exact W.next m ⟨zE,he⟩ zE
  ·rw[if_neg hz0]at he;have h1:¬((q % p:Nat):Int)=0:=zE
   rw[<-he]at hle;refine zg ?_;refine W.loop (fun j=>j<=m+1) (fun j=>[(1,.r (aD 1 wdC l)),(2,.ptr 2 0),(6,.own 100),(29,.v (.int .i64 ((m+1:Nat):Int))),(30,.v (.int .i64 (j:Int)))]) (fun j=>[(2,.box 267 (gfA p)),(100,.row 35 1 (m+1) ((jg (m+1) fun i=>if i < j then l.getD i 0 % p else 0).flatMap wdC))]) (fun j=>m+1 - j) 0 (zq8 _) (fun j hj=>?_)
    (by
     refine St.aS [(100,some 27)] z6 ?_ ?_ rfl
     ·exact ye
     ·exact⟨ay.same rfl rfl,ay.row rfl rfl rfl (vT fun m=>by rw[if_neg (zvj m)]),trivial⟩)
   by_cases h2:j < m+1
   ·obtain⟨q2,hq2⟩:∃q2,l[j]? =some q2:=⟨_,zyh zE⟩
    have cF:=eG hp q2 (hb q2 (zq4 hq2));have g2:l.getD j 0=q2:=by rw[zx7,hq2];rfl
    have hln:=eH (m+1) fun i=>if i < j then l.getD i 0 % p else 0
    have hst:=yX (n:=m+1) (f:=fun i=>if i < j then l.getD i 0 % p else 0) (g:=fun i=>if i < j+1 then l.getD i 0 % p else 0) (k:=j) (x:=q2 % p) (fun i=>by
     by_cases hi:i=j
     ·subst hi;rw[if_pos rfl,if_pos zE,g2]
     ·rw[if_neg hi];by_cases hi2:i < j
      ·rw[if_pos hi2,if_pos zE]
      ·rw[if_neg hi2,if_neg zE])
    refine zg ?_;refine W.next (j+1) h2 zE (by
     refine St.aS [(100,some 100)] z6 ?_ ?_ rfl
     ·exact ye
     ·exact⟨ay.same rfl rfl,ay.row rfl rfl rfl ((agn (by rw[hln];exact h2)).trans (by rw[hst])),trivial⟩)
   ·obtain rfl:j=m+1:=zE
    refine zg ?_;refine aJ.frz 100 ?_;refine agr ?_;have e9:(jg (m+1) fun i=>if i < m+1 then l.getD i 0 % p else 0)=bL p l:=by
     unfold bL sM;rw[<-he];apply zyb;intro i
     by_cases hi:i < m+1
     ·rw[qy hi,if_pos hi,zy9,if_pos hi]
      have h7:=acM p l i;have hi3:i < (ny p l).length:=zE
      rw[zx7,zyh hi3]at h7
      rw[zyh hi3,<-h7];rfl
     ·rw[zqe (by rw[eH];omega),zqe (by rw[zx3];omega)]
    rw[e9];have e8:(bL p l).length=m+1:=by rw[<-e9,eH]
    rw[acw e8];rfl
 ·obtain rfl:k=0:=zE
  have he':agc (ny p l)=0:=he.symm;refine zg ?_;refine aaH ?_;unfold bL sM;rw[he'];exact fun E S w v h=>(aH.nil (α:=Nat) (enc:=wdC) (size:=1)) E S w v h
end
section
def aaE(p:Nat)(op:Nat->Nat->Nat)(a b:List Nat):List Nat:=bL p (jg (max a.length b.length) fun i=>op (a.getD i 0) (b.getD i 0))
def wvR(p:Nat)(a b:List Nat):Nat->Nat->Nat
 |0,_=>0
 |i+1,m=>if i<=m/\m < i+b.length then fA p (wvR p a b i m) (fM p (a.getD i 0) (b.getD (m - i) 0))else wvR p a b i m
def wvP(p:Nat)(a b:List Nat)(i k m:Nat):Nat:=if i<=m/\m < i+k then fA p (wvR p a b i m) (fM p (a.getD i 0) (b.getD (m - i) 0))else wvR p a b i m
def arJ(p:Nat)(a b:List Nat)(i m:Nat):wvP p a b i 0 m=wvR p a b i m:=by unfold wvP;rw[if_neg zE]
def auv(p:Nat)(a b:List Nat)(i m:Nat):wvP p a b i b.length m=wvR p a b (i+1) m:=rfl
def auT(p:Nat)(a b:List Nat)(i k m:Nat):(if m=i+k then fA p (wvP p a b i k (i+k)) (fM p (a.getD i 0) (b.getD k 0))else wvP p a b i k m)=wvP p a b i (k+1) m:=by
 unfold wvP;by_cases h:m=i+k
 ·subst h;rw[if_pos rfl,if_neg zE,if_pos zE,show i+k - i=k by omega]
 ·rw[if_neg h];by_cases h2:i<=m/\m < i+k
  ·rw[if_pos h2,if_pos zE]
  ·rw[if_neg h2,if_neg zE]
def alg{p:Nat}(h:PrP p)(a b:List Nat)(m:Nat):∀i,wvR p a b i m < p
 |0=>by have:=h.lt;show 0 < p;omega
 |i+1=>by
  unfold wvR;split
  ·exact am6 h _ _
  ·exact alg h a b m i
def ay7(h:PrP p)(a b:List Nat)(i k m:Nat):wvP p a b i k m < p:=by
 unfold wvP;split
 ·exact am6 h _ _
 ·exact alg h a b m i
def vX(p:Nat)(a b:List Nat):List Nat:=if(bL p a).length=0\/(bL p b).length=0 then []else bL p (jg ((bL p a).length+(bL p b).length - 1) (wvR p (bL p a) (bL p b) (bL p a).length))
def aw2(p:Nat)(a b:List Nat):gN (vX p a b):=by
 unfold vX;split
 ·exact .inl rfl
 ·exact xQ _ _
def awx(hp:PrP p)(a b:List Nat):∀z∈vX p a b,z < p:=by
 unfold vX;split
 ·intro z hz;cases hz
 ·exact qO hp _
def auc(p:Nat)(a b:List Nat):(vX p a b).length<=a.length+b.length:=by
 unfold vX;split
 ·exact zq8 _
 ·have h1:=jX p a;have h2:=jX p b;have h3:=jX p (jg ((bL p a).length+(bL p b).length - 1) (wvR p (bL p a) (bL p b) (bL p a).length));rw[eH]at h3;omega
def asb(p:Nat)(op:Nat->Nat->Nat)(a b:List Nat):gN (aaE p op a b):=xQ _ _
def as4(hp:PrP p)(op:Nat->Nat->Nat)(a b:List Nat):∀z∈aaE p op a b,z < p:=qO hp _
def aoD(p:Nat)(op:Nat->Nat->Nat)(a b:List Nat):(aaE p op a b).length<=max a.length b.length:=by
 have h:=jX p (jg (max a.length b.length) fun i=>op (a.getD i 0) (b.getD i 0))
 rwa [eH]at h
def att{op:Nat->Nat->Nat}(h0:op 0 0=0)(hop:∀x y,op x y < p)(a b:List Nat)(j:Nat):(aaE p op a b).getD j 0=op (a.getD j 0) (b.getD j 0):=by
 unfold aaE;rw[zJ];by_cases h:j < max a.length b.length
 ·rw[agB h];exact zw4 (hop _ _)
 ·rw[jl (by rw[eH];omega),jl (zs:=a) zE,jl (zs:=b) zE,h0,Nat.zero_mod]
attribute [local irreducible] IntKind.wrap Go1 Reg WP aK aN bD aZ aJ aA aj ak aT Sat
attribute [local irreducible] PrP fA fS fM bL wvR wvP
def wQ(hp:PrP p){n:Nat}{f:Nat->Nat}(hn:n<=100000)(hf:∀i,f i < 18446744073709551616):ah prog 402 [.agg (gfA p),.r (aP 1 n ((jg n f).flatMap wdC))] (.r (aD 1 wdC (bL p (jg n f)))):=by
 have c:=vg hp (l:=jg n f) (by rw[eH];exact hn) (axo hf)
 rwa [acw (n:=n) (eH n f)]at c
def apF(hp:PrP p)(op:Nat->Nat->Nat)(x:CA)(hx1:x.dN=true)(hl:l.length<=10000)(hl':l'.length<=10000)(hx:∀i,FnV prog x [.v (.int .u64 ((l.getD i 0:Nat):Int)),.v (.int .u64 ((l'.getD i 0:Nat):Int))] (.v (.int .u64 ((op (l.getD i 0) (l'.getD i 0):Nat):Int))))(hb:∀x y,op x y < 18446744073709551616):
  ah prog 342 [.agg (gfA p),.r (aD 1 wdC l),.r (aD 1 wdC l'),.it (.one (.c x))] (.r (aD 1 wdC (aaE p op l l'))):=by
 have cN:=wQ hp (n:=max l.length l'.length) (f:=fun i=>op (l.getD i 0) (l'.getD i 0)) zE (fun i=>hb _ _)
 have hm:max l.length l'.length<=10000:=zE
 refine ah.fq func342 fun _ _ _ _ hB=>?_
 refine zg ?_;refine W.loop (fun k=>k<=max l.length l'.length) (fun k=>[(1,.r (aD 1 wdC l)),(2,.r (aD 1 wdC l')),(3,.it (.one (.c x))),(4,.ptr 4 0),(9,.own 100),(18,.v (.int .i64 ((max l.length l'.length:Nat):Int))),(19,.v (.int .i64 (k:Int)))]) (fun k=>[(4,.box 267 (gfA p)),(100,.row 35 1 (max l.length l'.length) ((jg (max l.length l'.length) fun i=>if i < k then op (l.getD i 0) (l'.getD i 0)else 0).flatMap wdC))]) (fun k=>max l.length l'.length - k) 0 (zq8 _) (fun k hk=>?_)
  (by
   refine St.aS [(100,some 16)] z6 ?_ ?_ rfl
   ·exact ye
   ·exact⟨ay.same rfl rfl,ay.row rfl rfl rfl (vT fun m=>by rw[if_neg (zvj m)]),trivial⟩)
 by_cases h:k < max l.length l'.length
 ·have c1:=amC l k zE
  have c2:=amC l' k zE
  have c3:=hx k;have hln:=eH (max l.length l'.length) fun i=>if i < k then op (l.getD i 0) (l'.getD i 0)else 0
  have hst:=yX (n:=max l.length l'.length) (f:=fun i=>if i < k then op (l.getD i 0) (l'.getD i 0)else 0) (g:=fun i=>if i < k+1 then op (l.getD i 0) (l'.getD i 0)else 0) (k:=k) (x:=op (l.getD k 0) (l'.getD k 0)) (fun i=>by
   by_cases hi:i=k
   ·subst hi;rw[if_pos rfl,if_pos zE]
   ·rw[if_neg hi];by_cases hi2:i < k
    ·rw[if_pos hi2,if_pos zE]
    ·rw[if_neg hi2,if_neg zE])
  refine zg ?_;refine W.next (k+1) h zE (by
   refine St.aS [(100,some 100)] z6 ?_ ?_ rfl
   ·exact ye
   ·exact⟨ay.same rfl rfl,ay.row rfl rfl rfl ((agn (by rw[hln];exact h)).trans (by rw[hst])),trivial⟩)
 ·obtain rfl:k=max l.length l'.length:=zE
  have e9:(jg (max l.length l'.length) fun i=>if i < max l.length l'.length then op (l.getD i 0) (l'.getD i 0)else 0)=jg (max l.length l'.length) fun i=>op (l.getD i 0) (l'.getD i 0):=by
   unfold jg;exact zvg fun i hi=>if_pos (List.mem_range.1 hi)
  rw[e9];refine WP.freeze 100 hB rfl ?_;refine zg ?_;exact agr rfl
abbrev anY(p:Nat):=aaE p (fS p)
def atB(hp:PrP p)(hl:l.length<=10000)(hl':l'.length<=10000)(hb:∀x∈l,x < 18446744073709551616)(hb':∀x∈l',x < 18446744073709551616):
  ah prog 248 [.agg (gfA p),.r (aD 1 wdC l),.r (aD 1 wdC l')] (.r (aD 1 wdC (anY p l l'))):=by
 have hpl:=hp.lt;have c:=apF hp (fS p) (.sat (aqN 343 [.val (.int .u64 (p:Int))])) rfl hl hl' (fun i=>FnV.bound (abB hp _ _ (ad2 hb zc i) (ad2 hb' zc i))) (fun x y=>by have:=adk hp x y;omega)
 refine ah.fq func248 ?_;intros
 refine zg ?_;refine WP.aG ?_;refine zg ?_;exact agr rfl
def aqs(hp:PrP p)(hl:l.length<=10000)(hl':l'.length<=10000)(hb:∀x∈l,x < 18446744073709551616)(hb':∀x∈l',x < 18446744073709551616):
  ah prog 431 [.agg (gfA p),.r (aD 1 wdC l),.r (aD 1 wdC l')] (.r (aD 1 wdC (vX p l l'))):=by
 have hpl:=hp.lt;have c1:=vg hp (l:=l) zE hb
 have c2:=vg hp (l:=l') zE hb'
 have n1:=jX p l;have n2:=jX p l';have hA:=qO hp l;have hB':=qO hp l';unfold vX;generalize bL p l=a at*;generalize bL p l'=b at*;by_cases h0:a.length=0\/b.length=0
 ·rw[if_pos h0];refine ah.fq func431 fun w0 T B E0 hB=>?_
  by_cases h1:a.length=0
  ·refine zg ?_;refine aaH ?_;exact fun E S w v h=>aH.nil (α:=Nat) (enc:=wdC) (size:=1) E S w v h
  ·have h2:=h0.resolve_left h1;refine zg ?_;refine aaH ?_;exact fun E S w v h=>aH.nil (α:=Nat) (enc:=wdC) (size:=1) E S w v h
 rw[if_neg h0];have hN:∃N,N=a.length+b.length - 1:=⟨_,rfl⟩;obtain⟨N,hN⟩:=hN;have cN:=wQ hp (n:=N) (f:=wvR p a b a.length) zE (fun i=>by have:=alg hp a b i a.length;omega)
 rw[<-hN];refine ah.fq func431 fun w0 T B E0 hB=>?_
 refine zg ?_;refine W.loop (fun i=>i<=a.length) (fun i=>[(2,.r (aD 1 wdC b)),(3,.ptr 3 0),(7,.own 100),(33,.r (aD 1 wdC a)),(34,.v (.int .i64 (a.length:Int))),(35,.v (.int .i64 (i:Int)))]) (fun i=>[(3,.box 267 (gfA p)),(100,.row 35 1 N ((jg N (wvR p a b i)).flatMap wdC))]) (fun i=>a.length - i) 0 (zq8 _) (fun i hi=>?_)
  (by
   refine St.aS [(100,some 32)] z6 ?_ ?_ rfl
   ·exact yf
   ·exact⟨ay.same rfl rfl,ay.row rfl rfl zE (by rw[show a.length+b.length - 1=N by omega];exact vT fun m=>by unfold wvR;rfl),trivial⟩)
 by_cases h:i < a.length
 rotate_left
 ·obtain rfl:i=a.length:=zE
  refine WP.freeze 100 hB rfl ?_;refine zg ?_;exact agr rfl
 obtain⟨x,hx⟩:∃x,a[i]? =some x:=⟨_,zyh h⟩
 have gx:a.getD i 0=x:=by rw[zx7,hx];rfl
 have lx:=hA x (zq4 hx);refine zg ?_;refine W.loop (fun k=>k<=b.length) (fun k=>[(2,.r (aD 1 wdC b)),(3,.ptr 3 0),(7,.own 100),(8,.v (.int .i64 (i:Int))),(9,.v (.int .u64 (x:Int))),(33,.r (aD 1 wdC a)),(34,.v (.int .i64 (a.length:Int))),(35,.v (.int .i64 (i:Int))),(40,.r (aD 1 wdC b)),(41,.v (.int .i64 (b.length:Int))),(42,.v (.int .i64 (k:Int)))]) (fun k=>[(3,.box 267 (gfA p)),(100,.row 35 1 N ((jg N (wvP p a b i k)).flatMap wdC))]) (fun k=>b.length - k) 0 (zq8 _) (fun k hk=>?_)
  (by
   refine St.aS [(100,some 100)] z6 ?_ ?_ rfl
   ·exact yf
   ·exact⟨ay.same rfl rfl,ay.row rfl rfl rfl (by rw[show wvP p a b i 0=wvR p a b i from funext fun m=>arJ p a b i m]),trivial⟩)
 by_cases h2:k < b.length
 ·obtain⟨y,hy⟩:∃y,b[k]? =some y:=⟨_,zyh h2⟩
  have gy:b.getD k 0=y:=by rw[zx7,hy];rfl
  have ly:=hB' y (zq4 hy);have hN2:i+k < N:=zE
  have hat:=qy (f:=wvP p a b i k) hN2;have hln:=eH N (wvP p a b i k);have l1:=ay7 hp a b i k (i+k);have l2:=wo hp x y;have cM:=mG hp x y zE zE
  have cA:=amY hp (wvP p a b i k (i+k)) (fM p x y) zE zE
  have hst:=yX (n:=N) (f:=wvP p a b i k) (g:=wvP p a b i (k+1)) (k:=i+k) (x:=fA p (wvP p a b i k (i+k)) (fM p x y)) (fun m=>by
   have:=auT p a b i k m;rw[gx,gy]at this;exact this)
  refine zg ?_;refine W.next (k+1) h2 zE (by
   refine St.aS [(100,some 100)] z6 ?_ ?_ rfl
   ·exact ye
   ·exact⟨ay.same rfl rfl,ay.row rfl rfl rfl ((agn (by rw[hln];exact hN2)).trans (by rw[hst])),trivial⟩)
 ·obtain rfl:k=b.length:=zE
  rw[show wvP p a b i b.length=wvR p a b (i+1)from funext fun m=>auv p a b i m]
  refine zg ?_;exact W.next (i+1) h zE
end
end Go.Proofs.YtcamgbgfelmbaaaGreatDoor
namespace Go.Proofs.YtcamgbgfelmbaaaGreatDoor
open Go.RowKit QM SX LA
section
def cvR(a b:List Int):Nat->Nat->Int
 |0,_=>0
 |i+1,m=>cvR a b i m+(if i<=m then a.getD i 0*b.getD (m - i) 0 else 0)
def cvP(a b:List Int)(i k m:Nat):Int:=cvR a b i m+(if i<=m/\m < i+k then a.getD i 0*b.getD (m - i) 0 else 0)
def pMul(a b:List Int):List Int:=if a.length=0\/b.length=0 then []else jD (xg (a.length+b.length - 1) (cvR a b a.length))
abbrev afY(n:Nat)(f:Nat->Int):List Z2:=(List.range n).map fun m=>z2v (f m)
def vo{n:Nat}{f:Nat->Int}{k:Nat}(h:k < n):(afY n f)[k]? =some (z2v (f k)):=by
 rw[zqa,zvb h];rfl
def ahC{n:Nat}{f g:Nat->Int}{k:Nat}{x:Int}(h:∀m,(if m=k then x else f m)=g m):(afY n f).set k (z2v x)=afY n g:=by
 apply zyb
 intro j;rw[zv2]
 by_cases hj:k=j
 ·subst hj;rw[if_pos rfl,zq5,zy1];by_cases hk:k < n
  ·rw[if_pos hk,vo hk,<-h k,if_pos rfl]
  ·rw[if_neg hk,zqe (by rw[zq5,zy1];omega)]
 ·rw[if_neg hj];by_cases hk:j < n
  ·rw[vo hk,vo hk,<-h j,if_neg (fun e=>hj e.symm)]
  ·rw[zqe (by rw[zq5,zy1];omega),zqe (by rw[zq5,zy1];omega)]
def aoh{n:Nat}{f:Nat->Int}(h:∀m,f m=0):(List.replicate n (z2C (z2v 0))).flatten=(afY n f).flatMap z2C:=by
 have:afY n f=List.replicate n (z2v 0):=by
  apply zyb;intro j
  rw[List.getElem?_replicate]
  by_cases hj:j < n
  ·rw[vo hj,if_pos hj,h]
  ·rw[if_neg hj,zqe (by rw[zq5,zy1];omega)]
 rw[this,List.flatMap,List.map_replicate]
def aiL(n:Nat)(f:Nat->Int):(afY n f).length=n:=by rw[zq5,zy1]
attribute [local irreducible] IntKind.wrap Go1 Reg WP aK aN bD aZ aJ aA aj ak aT Sat
attribute [local irreducible] jD cvR cvP pMul
def aqU{n K:Nat}{f:Nat->Int}(h:∀i,i < n->(f i).natAbs < WB ^ K)(hK:K<=1000000)(hl:n<=100000):ah prog 378 [.r (aP 2 n ((afY n f).flatMap z2C))] (.r (aD 2 z2C ((jD (xg n f)).map z2v))):=by
 have c:=afx (asF (n:=n) (f:=f) h) hK (by rw[zq5,zy1];exact hl)
 rwa [an3 (n:=n) (by rw[zq5,zy1])]at c
end
section
def afc{α β:Type}{enc:β->List CA}{f:α->β}{l:List α}{k:Nat}{x:α}(hx:l[k]? =some x):((l.take k).map f).flatMap enc++enc (f x)=((l.take (k+1)).map f).flatMap enc:=by
 rw[lQ hx];simp
attribute [local irreducible] IntKind.wrap Go1 Reg WP aK aN bD aZ aJ aA aj ak aT Sat
end
end Go.Proofs.YtcamgbgfelmbaaaGreatDoor
namespace Go.Proofs.YtcamgbgfelmbaaaGreatDoor
open Go.RowKit QM SX LA
def auP(zs:List Int)(n:Nat):List Int:=List.replicate n 0++zs
def exF(b:List Int):Nat->List Int->(Nat->Int)->Option ((Nat->Int)×List Int)
 |0,a,f=>some (f,a)
 |n+1,a,f=>if sS (a.getD (n+b.length - 1) 0) (b.getD (b.length - 1) 0)then exF b n (aes a (auP (agX b (gJ (a.getD (n+b.length - 1) 0) (b.getD (b.length - 1) 0))) n)) (fun i=>if i=n then gJ (a.getD (n+b.length - 1) 0) (b.getD (b.length - 1) 0)else f i)else none
def exR(zs b:List Int):Option (List Int):=if b.length=0 then none else match exF b (zs.length+1 - b.length) zs (fun _=>0)with
 |none=>none
 |some (f,a)=>if a.length=0 then some (jD (xg (zs.length+1 - b.length) f))else none
attribute [local irreducible] IntKind.wrap Go1 Reg WP aK aN bD aZ aJ aA aj ak aT Sat
attribute [local irreducible] jD agX auP gJ sS exF
structure DvK(S L K K':Nat)(n:Nat)(a:List Int)(f:Nat->Int):Prop where
 le:n<=S
 p:pN a
 l:a.length<=L
 b:∀z∈a,z.natAbs < WB ^ (K+(S - n)*(K'+1))
 f:∀i,(f i).natAbs < WB ^ (K+S*(K'+1))
def bd_up{x K L:Nat}(h:x < WB ^ K)(hK:K<=L):x < WB ^ L:=zqf h (zx2 aX hK)
end Go.Proofs.YtcamgbgfelmbaaaGreatDoor
namespace Go.Proofs.YtcamgbgfelmbaaaGreatDoor
open Go.RowKit QM SX LA
attribute [local irreducible] IntKind.wrap Go1 Reg WP aK aN bD aZ aJ aA aj ak aT Sat
attribute [local irreducible] cq
def asy{x y:Rat}{K L:Nat}(hx:RB x K)(hy:RB y L)(hK:K+L<=100000)(h0:y≠0):ah prog 231 [.agg (vlA (eY x)),.agg (vlA (eY y))] (.tup [.agg (vlA (eY (x / y))),eNo 0]):=by
 haveI:=Ra.cq hx
 haveI:=Ra.cq hy
 have c:=(aiJ (l:=q4A (rq (cq x))) (l':=q4A (rq (cq y))) (K:=K) (K':=L)).h zE
 rw[decide_eq_true h0]at c;have cN:=abM (x / y) 3;refine ah.fq func231 ?_;intros
 refine zg ?_;refine .ok (aA.mk2 aj.fC (aj.tmp rfl))
section
variable{a b:List Int}{K L:Nat}(h:∀z∈a,z.natAbs < WB ^ K)(h':∀z∈b,z.natAbs < WB ^ L)(hn:pN a)(hn':pN b)(hl:a.length<=4000)(hl':b.length<=4000)(hK:K+(a.length+1)*(L+1)<=30000)(hL:L<=30000)
include h h' hn hn' hl hl' hK hL
end
section
end
