import Derived.Test.YtcamgbgfelmbaaaGreatDoorO12
import Derived.Test.YtcamgbgfelmbaaaGreatDoorO10
import Derived.Test.YtcamgbgfelmbaaaGreatDoorO9
import Derived.Test.YtcamgbgfelmbaaaGreatDoorO14
import Derived.Test.YtcamgbgfelmbaaaGreatDoorO3
import Derived.Test.YtcamgbgfelmbaaaGreatDoorO5
set_option linter.all false
set_option maxRecDepth 20000
set_option maxHeartbeats 4000000
open Go.Proofs.Tryz
namespace Go.Proofs.YtcamgbgfelmbaaaGreatDoor
open Go.RowKit QM SX LA
def d3(a b c d e f g h i:Int):Int:=a*(e*i - f*h) - b*(d*i - f*g)+c*(d*h - e*g)
def mn(a:Nat->Nat->Int)(i j:Nat):Nat->Int
 |0=>a i j
 |1=>a i j*a 0 0 - a i 0*a 0 j
 |2=>d3 (a 0 0) (a 0 1) (a 0 j) (a 1 0) (a 1 1) (a 1 j) (a i 0) (a i 1) (a i j)
 |_=>a i j*d3 (a 0 0) (a 0 1) (a 0 2) (a 1 0) (a 1 1) (a 1 2) (a 2 0) (a 2 1) (a 2 2) - a i 2*d3 (a 0 0) (a 0 1) (a 0 j) (a 1 0) (a 1 1) (a 1 j) (a 2 0) (a 2 1) (a 2 j)
  +a i 1*d3 (a 0 0) (a 0 2) (a 0 j) (a 1 0) (a 1 2) (a 1 j) (a 2 0) (a 2 2) (a 2 j) - a i 0*d3 (a 0 1) (a 0 2) (a 0 j) (a 1 1) (a 1 2) (a 1 j) (a 2 1) (a 2 2) (a 2 j)
def dn(a:Nat->Nat->Int):Nat->Int
 |0=>1
 |k+1=>mn a k k k
def sylv(a:Nat->Nat->Int)(k i j:Nat)(hk:k<=2):mn a i j k*mn a k k k - mn a i k k*mn a k j k=dn a k*mn a i j (k+1):=by
 match k,hk with
 |0,_=>simp only[mn,dn];grind
 |1,_=>simp only[mn,dn,d3];grind
 |2,_=>simp only[mn,dn,d3];grind
def sy31(a:Nat->Nat->Int):d3 (mn a 1 1 1) (mn a 1 2 1) (mn a 1 3 1) (mn a 2 1 1) (mn a 2 2 1) (mn a 2 3 1) (mn a 3 1 1) (mn a 3 2 1) (mn a 3 3 1)=a 0 0*a 0 0*mn a 3 3 3:=by
 simp only[mn,d3];grind
def awm(a:Nat->Nat->Int){n k:Nat}(hn:n<=4)(hk:k < n)(h0:dn a k≠0)(h:∀i,k<=i->i < n->mn a i k k=0):dn a n=0:=by
 by_cases hk1:n=k+1
 ·subst hk1;exact h k (zq6 k) zE
 have hc:(k=0/\n=2)\/(k=0/\n=3)\/(k=0/\n=4)\/(k=1/\n=3)\/(k=1/\n=4)\/(k=2/\n=4):=zE
 rcases hc with⟨rfl,rfl⟩|⟨rfl,rfl⟩|⟨rfl,rfl⟩|⟨rfl,rfl⟩|⟨rfl,rfl⟩|⟨rfl,rfl⟩
 ·have e0:=h 0 zE zE;have e1:=h 1 zE zE
  simp only[mn,dn]at e0 e1 ⊢;rw[e0,e1];grind
 ·have e0:=h 0 zE zE;have e1:=h 1 zE zE;have e2:=h 2 zE zE
  simp only[mn,dn,d3]at e0 e1 e2 ⊢;rw[e0,e1,e2];grind
 ·have e0:=h 0 zE zE;have e1:=h 1 zE zE;have e2:=h 2 zE zE;have e3:=h 3 zE zE
  simp only[mn,dn,d3]at e0 e1 e2 e3 ⊢;rw[e0,e1,e2,e3];grind
 ·have e1:=h 1 zE zE;have e2:=h 2 zE zE
  have s:=sylv a 1 2 2 zE
  rw[e1,e2,Int.mul_zero,Int.zero_mul,Int.sub_zero]at s;exact(Int.mul_eq_zero.1 s.symm).resolve_left h0
 ·have e1:=h 1 zE zE;have e2:=h 2 zE zE;have e3:=h 3 zE zE
  have s:=sy31 a;rw[e1,e2,e3,show d3 0 (mn a 1 2 1) (mn a 1 3 1) 0 (mn a 2 2 1) (mn a 2 3 1) 0 (mn a 3 2 1) (mn a 3 3 1)=0 by unfold d3;grind]at s
  have h0':a 0 0≠0:=h0;exact(Int.mul_eq_zero.1 s.symm).resolve_left fun e=>(Int.mul_eq_zero.1 e).elim h0' h0'
 ·have e2:=h 2 zE zE;have e3:=h 3 zE zE
  have s:=sylv a 2 3 3 zE
  rw[e2,e3,Int.mul_zero,Int.zero_mul,Int.sub_zero]at s;exact(Int.mul_eq_zero.1 s.symm).resolve_left h0
def swR(a:Nat->Nat->Int)(i k:Nat):Nat->Nat->Int:=fun x=>if x=k then a i else if x=i then a k else a x
def avs(a:Nat->Nat->Int){n i k:Nat}(hn:n<=4)(hi:i < n)(hk:k < i):dn (swR a i k) n= -dn a n:=by
 have hc:(n=2/\i=1/\k=0)\/(n=3/\i=1/\k=0)\/(n=3/\i=2/\k=0)\/(n=3/\i=2/\k=1)\/(n=4/\i=1/\k=0)\/(n=4/\i=2/\k=0)\/(n=4/\i=3/\k=0)\/(n=4/\i=2/\k=1)\/(n=4/\i=3/\k=1)\/(n=4/\i=3/\k=2):=zE
 rcases hc with⟨rfl,rfl,rfl⟩|⟨rfl,rfl,rfl⟩|⟨rfl,rfl,rfl⟩|⟨rfl,rfl,rfl⟩|⟨rfl,rfl,rfl⟩|⟨rfl,rfl,rfl⟩|⟨rfl,rfl,rfl⟩|⟨rfl,rfl,rfl⟩|⟨rfl,rfl,rfl⟩|⟨rfl,rfl,rfl⟩;all_goals(simp only[mn,dn,d3,swR];simp;grind)
def abC{a b:Nat->Nat->Int}{k x y:Nat}(hk:k<=3)(h:∀r,r < k->a r=b r)(hx:a x=b y)(j:Nat):mn a x j k=mn b y j k:=by
 match k,hk with
 |0,_=>simp only[mn];rw[hx]
 |1,_=>simp only[mn];rw[hx,h 0 zE]
 |2,_=>simp only[mn];rw[hx,h 0 zE,h 1 zE]
 |3,_=>simp only[mn];rw[hx,h 0 zE,h 1 zE,h 2 zE]
def amo{a b:Nat->Nat->Int}{k:Nat}(hk:k<=4)(h:∀r,r < k->a r=b r):dn a k=dn b k:=by
 match k,hk with
 |0,_=>rfl
 |k+1,hk=>exact abC zE (fun r hr=>h r zE) (h k zE) k
abbrev gM(M:List (List Int))(i j:Nat):Int:=(M.getD i []).getD j 0
structure BV(s:BS)(n k:Nat)(a a':Nat->Nat->Int):Prop where
 ps:s.ps.length=k
 len:s.M.length=n
 row:∀i,i < n->(s.M.getD i []).length=n
 mn:∀i j,k<=i->i < n->k<=j->j < n->gM s.M i j=mn a' i j k
 la:s.la=dn a' k
 nz:dn a' k≠0
 od:dn a' n=if s.odd then -dn a n else dn a n
def BV.swap{s:BS}{n k i:Nat}{a a':Nat->Nat->Int}(h:BV s n k a a')(hn:n<=4)(hk:k < n)(hi:k<=i)(hin:i < n):BV (afe s i) n k a (swR a' i k):=by
 have hs:∀r,r < k->swR a' i k r=a' r:=fun r hr=>by unfold swR;rw[if_neg zE,if_neg zE]
 have hg:∀r,r < n->(sw s.M i k).getD r []=if r=k then s.M.getD i []else if r=i then s.M.getD k []else s.M.getD r []:=fun r hr=>anb (by rw[h.len];exact hin) (by rw[h.len];exact hk) (by rw[h.len];exact hr)
 have hps:=h.ps;refine⟨h.ps,by show (sw s.M i s.ps.length).length=n;rw[apN];exact h.len,fun r hr=>?_,fun x j h1 h2 h3 h4=>?_,?_,?_,?_⟩
 ·show ((sw s.M i s.ps.length).getD r []).length=n;rw[hps,hg r hr]
  split
  ·exact h.row i hin
  ·split
   ·exact h.row k hk
   ·exact h.row r hr
 ·show ((sw s.M i s.ps.length).getD x []).getD j 0=_;rw[hps,hg x h2];by_cases e1:x=k
  ·rw[if_pos e1];rw[abC (a:=swR a' i k) (b:=a') (y:=i) zE hs (by unfold swR;rw[if_pos e1])]
   exact h.mn i j hi hin h3 h4
  ·rw[if_neg e1];by_cases e2:x=i
   ·rw[if_pos e2,abC (a:=swR a' i k) (b:=a') (y:=k) zE hs (by unfold swR;rw[if_neg e1,if_pos e2])]
    exact h.mn k j (zq6 k) hk h3 h4
   ·rw[if_neg e2,abC (a:=swR a' i k) (b:=a') (y:=x) zE hs (by unfold swR;rw[if_neg e1,if_neg e2])]
    exact h.mn x j h1 h2 h3 h4
 ·show s.la=_;rw[amo (b:=a') zE hs];exact h.la
 ·rw[amo (b:=a') zE hs];exact h.nz
 ·show dn (swR a' i k) n=if(if i=s.ps.length then s.odd else !s.odd)=true then -dn a n else dn a n
  rw[hps];by_cases e:i=k
  ·subst e;have:swR a' i i=a':=by funext x;unfold swR;split <;> (try split) <;> simp_all
   rw[if_pos rfl,this];exact h.od
  ·rw[if_neg e,avs a' hn hin zE,h.od]
   cases s.odd <;> simp
def aez{x y:Int}(hy:y≠0):gJ (y*x) y=x:=by
 rw[acE hy ⟨x,rfl⟩,Int.mul_tdiv_cancel_left x hy]
def ayw{b r:List Int}{col:Nat}{l:Int}{j:Nat}(hl:r.length=b.length)(hj:j < r.length):(bcR b col l r).getD j 0=gJ (r.getD j 0*b.getD col 0 - r.getD col 0*b.getD j 0) l:=by
 unfold bcR bcL;rw[zvh,zqb,zy8,zxc zE]
 simp only[zx7,List.getElem?_zipWith]
 rw[zyh hj,zyh (show j < b.length by omega)]
 rfl
def awh{b r:List Int}{col:Nat}{l:Int}(hl:r.length=b.length):(bcR b col l r).length=r.length:=agJ hl (zq6 _)
def azs{M:List (List Int)}{top col:Nat}{l:Int}{i:Nat}(hi:i < M.length):(bcM M top col l).getD i []=if i<=top then M.getD i []else bcR (M.getD top []) col l (M.getD i []):=by
 unfold bcM;simp only[zx7,List.getElem?_mapIdx]
 rw[zyh hi]
 rfl
def BV.clear{s:BS}{n k:Nat}{a a':Nat->Nat->Int}(h:BV s n k a a')(hn:n<=4)(hk:k < n)(hp:gM s.M k k≠0):BV (uI s k) n (k+1) a a':=by
 have hps:=h.ps;have hkk:=h.mn k k (zq6 k) hk (zq6 k) hk;have hd:dn a' (k+1)=gM s.M k k:=hkk.symm;have hg:∀i,i < n->(bcM s.M k k s.la).getD i []=if i<=k then s.M.getD i []else bcR (s.M.getD k []) k s.la (s.M.getD i []):=fun i hi=>azs (by rw[h.len];exact hi)
 refine⟨by show (s.ps++[k]).length=k+1;rw[zqi,hps];rfl,?_,fun i hi=>?_,fun i j h1 h2 h3 h4=>?_,?_,by rw[hd];exact hp,h.od⟩
 ·show (bcM s.M s.ps.length k s.la).length=n;unfold bcM;rw[List.length_mapIdx];exact h.len
 ·show ((bcM s.M s.ps.length k s.la).getD i []).length=n;rw[hps,hg i hi]
  split
  ·exact h.row i hi
  ·rw[awh (by rw[h.row i hi,h.row k hk]),h.row i hi]
 ·show ((bcM s.M s.ps.length k s.la).getD i []).getD j 0=_;rw[hps,hg i h2,if_neg zE,ayw (by rw[h.row i h2,h.row k hk]) (by rw[h.row i h2];exact h4)]
  have e1:=h.mn i j zE h2 zE h4
  have e2:=h.mn i k zE h2 (zq6 k) hk
  have e3:=h.mn k j (zq6 k) hk zE h4
  show gJ (gM s.M i j*gM s.M k k - gM s.M i k*gM s.M k j) s.la=_;rw[e1,e2,e3,hkk,sylv a' k i j zE,h.la]
  exact aez h.nz
 ·show (s.M.getD s.ps.length []).getD k 0=_;rw[hps,hd]
def anV(s:BS)(col:Nat):(oI s col).ps.length<=s.ps.length+1:=by
 unfold oI
 split
 ·omega
 ·show ((afe s _).ps++[col]).length<=_;rw[zqi];exact zq6 _
def aeN:∀(n col:Nat) (s:BS),(kV n col s).ps.length<=s.ps.length+n
 |0,_,s=>zq6 _
 |n+1,col,s=>by
  unfold kV
  split
  ·have h1:=aeN n (col+1) (oI s col);have h2:=anV s col;omega
  ·omega
def alv{n:Nat}{a:Nat->Nat->Int}(hn:n<=4):∀(m k:Nat) (s:BS) (a':Nat->Nat->Int),k+m=n->BV s n k a a'->wz (kV m k s) n=dn a n
 |0,k,s,a',hk,h=>by
  obtain rfl:k=n:=zE
  have hps:=h.ps;have hod:=h.od;unfold kV wz;rw[if_neg zE,h.la,hod]
  cases s.odd <;> simp
 |m+1,k,s,a',hk,h=>by
  have hps:=h.ps;have hlen:=h.len;unfold kV;rw[if_pos zE]
  by_cases hf:mU s.M s.ps.length k < 0
  ·have hno:∀i,k<=i->i < n->mn a' i k k=0:=fun i h1 h2=>by
    rw[<-h.mn i k h1 h2 (zq6 k) zE]
    have hm:s.M.getD i []∈s.M.drop k:=by
     rw[zx7,zyh (show i < s.M.length by omega)]
     exact List.mem_iff_getElem?.2 ⟨i - k,by rw[zv1,show k+(i - k)=i by omega,zyh (show i < s.M.length by omega)];rfl⟩
    unfold mU at hf;rw[hps]at hf;have:=agZ hf _ hm;unfold nzZ at this;exact Classical.not_not.1 (of_decide_eq_false this)
   have hz:=awm a' hn (show k < n by omega) h.nz hno
   have hst:oI s k=s:=by unfold oI;rw[if_pos hf]
   rw[hst];have hl:=aeN m (k+1) s;unfold wz;rw[if_pos zE]
   have hod:=h.od;rw[hz]at hod
   revert hod
   cases s.odd <;> simp <;> omega
  ·obtain⟨i,r,e1,e2,e3⟩:=agS _ _ hf;have hik:k+i < s.M.length:=by
    rw[hps,zv1]at e2
    exact vM e2
   have e4:(mU s.M s.ps.length k).toNat=k+i:=by unfold mU;rw[e1,hps];omega
   have hst:oI s k=uI (afe s (k+i)) k:=by unfold oI;rw[if_neg hf,e4]
   rw[hst];have h1:=h.swap hn (show k < n by omega) (show k<=k+i by omega) zE
   refine alv hn m (k+1) _ _ zE (h1.clear hn zE ?_)
   show ((sw s.M (k+i) s.ps.length).getD k []).getD k 0≠0;rw[hps,anb hik zE zE,if_pos rfl]
   rw[hps,zv1]at e2
   have e5:s.M.getD (k+i) []=r:=by rw[zx7,e2];rfl
   rw[e5];unfold nzZ at e3;exact of_decide_eq_true e3
def avv{n:Nat}{a:Nat->Nat->Int}(hn:n<=4):aii (zgM a n n) n=dn a n:=by
 unfold aii;refine alv hn n 0 _ a zE ⟨rfl,agf,fun i hi=>?_,fun i j _ hi _ hj=>?_,rfl,(by show (1:Int)≠0;decide),rfl⟩
 ·show ((zgM a n n).getD i []).length=n;unfold zgM;rw[zx7,zqa,zvb hi]
  exact agw
 ·show ((zgM a n n).getD i []).getD j 0=a i j;unfold zgM zrK;rw[zx7 (l:=List.map _ _),zqa,zvb hi]
  show (List.map (a i) (List.range n)).getD j 0=a i j;rw[zx7,zqa,zvb hj]
  rfl
end Go.Proofs.YtcamgbgfelmbaaaGreatDoor
namespace Go.Proofs.YtcamgbgfelmbaaaGreatDoor
open Go.RowKit QM SX LA
variable{c:Int}{A M:List Int}{K L i:Nat}
abbrev idZ(i k:Nat):Int:=if i=k then 1 else 0
def flI(n:Nat):List Int:=fJ n idZ n
def flA(A M:List Int)(n:Nat):List Int:=fJ n (fun i k=>smZ n (fun j=>zat A n i j*zat M n j k)) n
def flT(M:List Int)(n k:Nat):Int:=smZ k (fun i=>zat M n i i)
def flC(M:List Int)(n k:Nat):Int:=gJ (-flT M n n) (k:Int)
def flS(n:Nat)(c:Int):List Int:=fJ n (fun i k=>zat (flI n) n i k*c) n
def flN(M:List Int)(n:Nat)(c:Int):List Int:=fJ n (fun i k=>zat M n i k+zat (flS n c) n i k) n
def flM(A:List Int)(n:Nat):Nat->List Int
 |0=>flI n
 |k+1=>if k+1 < n then flN (flA A (flM A n k) n) n (flC (flA A (flM A n k) n) n (k+1))else flM A n k
def flG(A:List Int)(n k:Nat):Int:=flC (flA A (flM A n (k - 1)) n) n k
def flQ(A:List Int)(n k m:Nat):Int:=if m=n then 1 else if m < n/\n<=m+k then flG A n (n - m)else 0
def aun{n k:Nat}(h:k < n)(m:Nat):(if m=n - (k+1)then flG A n (k+1)else flQ A n k m)=flQ A n (k+1) m:=by
 unfold flQ;by_cases h1:m=n - (k+1)
 ·subst h1;rw[if_pos rfl,if_neg zE,if_pos zE,show n - (n - (k+1))=k+1 by omega]
 ·rw[if_neg h1];by_cases h2:m=n
  ·rw[if_pos h2,if_pos h2]
  ·rw[if_neg h2,if_neg h2];by_cases h3:m < n/\n<=m+k
   ·rw[if_pos h3,if_pos zE]
   ·rw[if_neg h3,if_neg zE]
def auA{n:Nat}(m:Nat):(if m=n then 1 else 0)=flQ A n 0 m:=by
 unfold flQ;by_cases h:m=n
 ·rw[if_pos h,if_pos h]
 ·rw[if_neg h,if_neg h,if_neg zE]
abbrev flB(K n k:Nat):Nat:=1+k*(K+2*n+2)
def ng{zs:List Int}{r c k:Nat}(hl:zs.length=r*c)(h:∀z∈zs,z.natAbs < WB ^ K)(hi:i < r)(hk:k < c):(zat zs c i k).natAbs < WB ^ K:=h _ (zq4 (qh hl hi hk))
def wJ{a:Nat}(h:a < WB ^ L)(hK:L<=K):a < WB ^ K:=zqf h (zx2 aX hK)
section
variable{A M:List Int}{n K L:Nat}(hA:A.length=n*n)(bA:∀z∈A,z.natAbs < WB ^ K)(hM:M.length=n*n)(bM:∀z∈M,z.natAbs < WB ^ L)
theorem arQ(i k:Nat):(idZ i k).natAbs < WB ^ 1:=by
 have:=bf;unfold idZ
 split <;> simp <;> omega
theorem sD:∀z∈flI n,z.natAbs < WB ^ 1:=nM fun i k _ _=>arQ i k
theorem ak0(k:Nat)(hk:k<=n)(hM:M.length=n*n)(bM:∀z∈M,z.natAbs < WB ^ L):(flT M n k).natAbs < WB ^ (L+k):=adh fun j hj=>ng hM bM zE zE
theorem akA(k:Nat)(hM:M.length=n*n)(bM:∀z∈M,z.natAbs < WB ^ L):(flC M n k).natAbs < WB ^ (L+n):=by
 haveI:Bd (-flT M n n) (L+n):=⟨by rw[Int.natAbs_neg];exact ak0 n (zq6 n) hM bM⟩
 exact(Bd.gJ (-flT M n n) (k:Int) (L+n)).h
include hA bA hM bM
theorem ald:∀z∈flA A M n,z.natAbs < WB ^ (K+L+n):=nM fun i k hi hk=>adh fun j hj=>kG (ng hA bA hi hj) (ng hM bM hj hk)
end
def ab7{n:Nat}:(flA A M n).length=n*n:=dM n
def atH{n:Nat}(h:c.natAbs < WB ^ L):∀z∈flS n c,z.natAbs < WB ^ (1+L):=nM fun i k hi hk=>kG (ng (dM n) sD hi hk) h
def azF{n:Nat}(hM:M.length=n*n)(bM:∀z∈M,z.natAbs < WB ^ L)(h:c.natAbs < WB ^ (L+n)):∀z∈flN M n c,z.natAbs < WB ^ (L+n+2):=nM fun i k hi hk=>by
 have h1:=wJ (ng hM bM hi hk) (show L<=L+n+1 by omega)
 have h2:=wJ (ng (dM n) (atH (n:=n) h) hi hk) (show 1+(L+n)<=L+n+1 by omega)
 exact add_lt h1 h2
def abA{A:List Int}{n:Nat}:∀k,(flM A n k).length=n*n
 |0=>dM n
 |k+1=>by
  unfold flM
  split
  ·exact dM n
  ·exact abA k
def ajJ{A:List Int}{n K:Nat}(hA:A.length=n*n)(bA:∀z∈A,z.natAbs < WB ^ K):∀k,∀z∈flM A n k,z.natAbs < WB ^ flB K n k
 |0=>fun z hz=>wJ (sD z hz) (by unfold flB;omega)
 |k+1=>fun z hz=>by
  have ih:=ajJ hA bA k;have e:flB K n (k+1)=K+flB K n k+n+n+2:=by unfold flB;rw[zv8];omega
  unfold flM at hz
  split at hz
  ·have h1:=ald hA bA (abA k) ih;rw[e];exact azF ab7 h1 (akA (k+1) ab7 h1) z hz
  ·exact wJ (ih z hz) (by rw[e];omega)
def ayy{n:Nat}(hA:A.length=n*n)(bA:∀z∈A,z.natAbs < WB ^ K)(k:Nat)(hk:k<=n):(flG A n k).natAbs < WB ^ flB K n (n+1):=by
 have h1:=akA k ab7 (ald hA bA (abA (k - 1)) (ajJ hA bA (k - 1)));refine wJ h1 ?_;unfold flB;have:=zx1 (K+2*n+2) (show k - 1+1<=n+1 by omega)
 rw[zv8]at this;omega
def arE{n:Nat}(hA:A.length=n*n)(bA:∀z∈A,z.natAbs < WB ^ K)(k m:Nat):(flQ A n k m).natAbs < WB ^ flB K n (n+1):=by
 unfold flQ
 split
 ·exact wJ (show (1:Int).natAbs < WB ^ 1 by rw[zxh,bf];decide) (by unfold flB;omega)
 ·split
  ·exact ayy hA bA _ zE
  ·exact Nat.pow_pos aX
def jm(A:List Int)(n:Nat):List Int:=jD (xg (n+1) (flQ A n n))
attribute [local irreducible] IntKind.wrap Go1 Reg WP aK aN bD aZ aJ aA aj ak aT Sat
attribute [local irreducible] jD flI flA flT flC flS flN flM flG flQ jm
def at5{k:Nat}(hi:i<=100)(hk:k<=100):ah prog 347 [.v (.int .i64 (i:Int)),.v (.int .i64 (k:Int))] (.agg (z2A (z2v (idZ i k)))):=by
 by_cases h:i=k
 ·have e:idZ i k=1:=if_pos h;rw[e];have o1:ah prog 8 [.v (.int .i64 1)] (.agg (zN 1)):=pq.h ⟨zE,zE⟩
  have h':(i:Int)=(k:Int):=zE
  refine ah.fq func347 fun w0 T B E0 hB=>?_
  refine zg ?_;exact jG aj.fK rfl
 ·have e:idZ i k=0:=if_neg h;rw[e];have h':¬(i:Int)=(k:Int):=zE
  refine ah.fq func347 fun w0 T B E0 hB=>?_
  refine zg ?_;refine uG aj.fK ?_;exact mg ⟨aH.refl _,fun E S w v h=>by rw[show v= .slice none 0 0 from h];exact bI.zero,trivial⟩
def wE{n:Nat}(hn:n<=64):ah prog 254 [.v (.int .i64 (n:Int))] (.tup [.agg (nG n n (flI n)),eNo 0]):=by
 have s1:=(qG (n:Int)).h trivial;rw[decide_eq_true (show 0<=(n:Int)/\(n:Int)<=64 by omega)]at s1
 have cM:=zG (qR n n (.sat (jR 347 [] [])) (fun i k=>z2v (idZ i k)) idZ 1 zE zE zc (fun i k hi hk=>FnV.const (at5 zE zE)) (fun i k hi hk=>ZQ.made (arQ i k)) rfl)
 rw[show fJ n idZ n=flI n by unfold flI;rfl]at cM
 refine ah.fq func254 ?_;intros
 refine zg ?_;exact .ok (aA.mk2 aj.aW (aj.tmp rfl))
def vE{r e:Int}{R:Rep}:ah prog 375 [.agg [.c (.val (.int .i64 r)),.c (.val (.int .i64 c)),.c (.sat R)],.it (eNo e)] (.agg [.c (.val (.int .i64 r)),.c (.val (.int .i64 c)),.c (.sat R)]):=by
 refine ah.fq func375 ?_;intros
 refine zg ?_;exact jG aj.aW rfl
def ajN{n:Nat}(hl:M.length=n*n)(hM:∀z∈M,z.natAbs < WB ^ K)(hn:n<=64)(hK:K<=100000):ah prog 370 [.agg (nG n n M)] (.agg (zN (flT M n n))):=by
 have e0:flT M n 0=0:=by unfold flT;rfl
 have es:∀k,flT M n (k+1)=flT M n k+zat M n k k:=fun k=>by unfold flT;rfl
 have hl':(M.map z2v).length=n*n:=by rw[zq5];exact hl
 have mz:MZ (M.map z2v) M K:=MZ.made hM;have hY:nG n n M=og n n (M.map z2v):=uM n n M;rw[hY];refine ah.fq func370 ?_;intros
 refine zg ?_;refine W.loop (fun k=>k<=n) (fun k=>[(1,.ptr 1 0),(2,.ptr 2 0),(3,.ptr 3 0),(6,.v (.int .i64 (n:Int))),(7,.v (.int .i64 (k:Int)))]) (fun k=>[(1,.box 24 (og n n (M.map z2v))),(2,.box 33 [.c (.val (.bool false)),.c (.val (.slice none 0 0))]),(3,.box 33 (zN (flT M n k)))]) (fun k=>n - k) 0 (zq8 _) (fun k hk=>?_)
  (by
   rw[e0];refine St.aS [] z6 ?_ ?_ rfl
   ·exact yd
   ·exact⟨ay.same rfl rfl,ay.same rfl rfl,ay.jE rfl rfl ⟨aB.same rfl,aB.au1,trivial⟩,trivial⟩)
 by_cases h:k < n
 ·have cA:=ab9 mz hl' hn hn h h zE
  have zt:=(ZQ.made (ak0 k hk hl hM)).zi;have za:=(ZQ.made (ng hl hM h h)).zi;have cD:=(yN (h:=zt) (h':=za)).h zE
  have e1:=es k;generalize flT M n (k+1)=x at*;subst e1;refine zg ?_;refine W.next (k+1) h zE (by
   rw[es];exact SX.W.le)
 ·obtain rfl:k=n:=zE
  refine zg ?_;exact jG aj.fK rfl
end Go.Proofs.YtcamgbgfelmbaaaGreatDoor
namespace Go.Proofs.YtcamgbgfelmbaaaGreatDoor
open Go.RowKit QM SX LA
def asM{A:List Int}{n k:Nat}(h:k+1 < n):flM A n (k+1)=flN (flA A (flM A n k) n) n (flC (flA A (flM A n k) n) n (k+1)):=by
 conv=>lhs;unfold flM
 rw[if_pos h]
def axr{A:List Int}{n k:Nat}(h:¬k+1 < n):flM A n (k+1)=flM A n k:=by
 conv=>lhs;unfold flM
 rw[if_neg h]
def aj7{n:Nat}:(List.replicate n (z2C (z2v 0))).flatten=(afY n fun _=>0).flatMap z2C:=aoh fun _=>rfl
attribute [local irreducible] IntKind.wrap Go1 Reg WP aK aN bD aZ aJ aA aj ak aT Sat
attribute [local irreducible] jD flI flA flT flC flS flN flM flG flQ jm
def ajU{n K:Nat}{l:List Z2}{A:List Int}(hM:MZ l A K)(hl:l.length=n*n)(bA:∀z∈A,z.natAbs < WB ^ K)(hn:n<=64)(hK:flB K n (n+1)<=50000):
  ah prog 373 [.agg (og n n l)] (.tup [.one (.c (.sat (aD 2 z2C ((jm A n).map z2v)))),.agg (nG n n (flM A n n))]):=by
 have hA:A.length=n*n:=by rw[<-hM.len];exact hl
 have cI:=wE hn;have cU:=vE (r:=(n:Int)) (c:=(n:Int)) (e:=0) (R:=aD 2 zC (flI n));have o1:ah prog 8 [.v (.int .i64 1)] (.agg (zN 1)):=pq.h ⟨zE,zE⟩
 have hz:∀m,(if m=n then(1:Int)else 0)=flQ A n 0 m:=fun m=>auA m
 have hst0:=ahC (n:=n+1) (f:=fun _=>0) (g:=flQ A n 0) (k:=n) (x:=1) hz
 have hat0:=vo (n:=n+1) (f:=fun _=>0) (k:=n) zE
 have hln0:=aiL (n+1) (fun _=>0)
 have m0:flM A n 0=flI n:=by unfold flM;rfl
 have cN:=aqU (n:=n+1) (f:=flQ A n n) (K:=flB K n (n+1)) (fun i _=>arE hA bA n i) zE zE
 rw[show jD (xg (n+1) (flQ A n n))=jm A n by unfold jm;rfl]at cN
 refine ah.fq func373 fun _ _ _ _ hB=>?_
 refine zg ?_;rw[aj7];refine SX.G.qJ (a:=z2v 1) ?_;rw[hst0];refine zg ?_;refine W.loop (fun k=>k<=n) (fun k=>[(1,.ptr 1 0),(3,.ptr 3 0),(4,.v (.int .i64 (n:Int))),(5,.ptr 5 0),(6,.own 100),(7,.ptr 7 0),(8,.v (.int .i64 ((k+1:Nat):Int)))]) (fun k=>[(1,.box 24 (og n n l)),(3,.box 24 mat0),(5,.box 24 (nG n n (flI n))),(7,.box 24 (nG n n (flM A n k))),(100,.row 33 2 (n+1) ((afY (n+1) (flQ A n k)).flatMap z2C))]) (fun k=>n - k) 0 (zq8 _) (fun k hk=>?_)
  (by
   rw[m0];refine St.aS [(100,some 21)] z6 ?_ ?_ rfl
   ·exact yf
   ·exact⟨ay.same rfl rfl,ay.same rfl rfl,ay.same rfl rfl,ay.same rfl rfl,ay.row rfl rfl rfl rfl,trivial⟩)
 by_cases h:k < n
 ·have hB:flB K n (k+1)<=flB K n (n+1):=by unfold flB;have:=zx1 (K+2*n+2) (show k+1<=n+1 by omega);omega
  have hB1:flB K n (k+1)=K+flB K n k+n+n+2:=by unfold flB;rw[zv8];omega
  have bM:=ajJ hA bA (n:=n) k;have lM:=abA (A:=A) (n:=n) k;have cMul:=ap5 hM hl (MZ.made bM) (by rw[zq5];exact lM) hn hn hn zE
  rw[<-uM]at cMul;have bX:=ald hA bA lM bM;have lX:(flA A (flM A n k) n).length=n*n:=ab7;have eX:fJ n (fun i k'=>smZ n (fun j=>zat A n i j*zat (flM A n k) n j k')) n=flA A (flM A n k) n:=by unfold flA;rfl
  rw[eX]at cMul;have hup:k+1 < n->flM A n (k+1)=flN (flA A (flM A n k) n) n (flC (flA A (flM A n k) n) n (k+1)):=fun h=>asM h
  have hen:¬k+1 < n->flM A n (k+1)=flM A n k:=fun h=>axr h
  have hG:flG A n (k+1)=flC (flA A (flM A n k) n) n (k+1):=by unfold flG;rfl
  have hstep:=aun (A:=A) h;rw[hG]at hstep;generalize flA A (flM A n k) n=X at*;have cU1:=vE (r:=(n:Int)) (c:=(n:Int)) (e:=0) (R:=aD 2 zC X);have cT:=ajN lX bX hn zE
  have bT:=ak0 n (zq6 n) lX bX;have cNg:=(atD (h:=(ZQ.made bT).zi)).h zE
  have bTn:(-flT X n n).natAbs < WB ^ (K+flB K n k+n+n):=by rw[Int.natAbs_neg];exact bT
  have cOf:ah prog 8 [.v (.int .i64 ((k+1:Nat):Int))] (.agg (zN ((k+1:Nat):Int))):=pq.h ⟨zE,zE⟩
  have bk:((k+1:Nat):Int).natAbs < WB ^ 1:=by rw[zxh,bf];omega
  have cEx:=(ajY (h:=(ZQ.made bTn).zi) (h':=(ZQ.made bk).zi)).h zE
  have eC:gJ (-flT X n n) ((k+1:Nat):Int)=flC X n (k+1):=by unfold flC;rfl
  rw[eC]at cEx;have bC:=akA (k+1) lX bX;generalize flC X n (k+1)=c at*;have hat:=vo (n:=n+1) (f:=flQ A n k) (k:=n - (k+1)) zE
  have hln:=aiL (n+1) (flQ A n k);have hst:=ahC (n:=n+1) (f:=flQ A n k) (g:=flQ A n (k+1)) (k:=n - (k+1)) (x:=c) hstep;by_cases h2:k+1 < n
  ·have cS:=ahm (MZ.made (sD (n:=n))) (by rw[zq5];exact(show (flI n).length=n*n by unfold flI;exact dM n)) (ZQ.made bC) hn hn zE
   rw[<-uM,show fJ n (fun i k'=>zat (flI n) n i k'*c) n=flS n c by unfold flS;rfl]at cS
   have cU2:=vE (r:=(n:Int)) (c:=(n:Int)) (e:=0) (R:=aD 2 zC (flS n c));have bS:=atH (n:=n) bC;have cA:=aoo (MZ.made (fun z hz=>wJ (bX z hz) (show _<=K+flB K n k+n+n+1 by omega))) (by rw[zq5];exact lX) (MZ.made (fun z hz=>wJ (bS z hz) (show _<=K+flB K n k+n+n+1 by omega))) (by rw[zq5];exact(show (flS n c).length=n*n by unfold flS;exact dM n)) hn hn zE
   rw[<-uM,<-uM,show fJ n (fun i k'=>zat X n i k'+zat (flS n c) n i k') n=flN X n c by unfold flN;rfl]at cA
   have cU3:=vE (r:=(n:Int)) (c:=(n:Int)) (e:=0) (R:=aD 2 zC (flN X n c));have hup:=hup h2;refine zg ?_;refine SX.G.qJ (a:=z2v c) ?_;rw[hst];refine zg ?_;refine W.next (k+1) h zE (by
    rw[hup];refine St.aS [(100,some 100)] z6 ?_ ?_ rfl
    ·exact yf
    ·exact⟨ay.same rfl rfl,ay.same rfl rfl,ay.same rfl rfl,ay.same rfl rfl,ay.row rfl rfl rfl rfl,trivial⟩)
  ·have hen:=hen h2;refine zg ?_;refine SX.G.qJ (a:=z2v c) ?_;rw[hst];refine zg ?_;refine W.next (k+1) h zE (by
    rw[hen];refine St.aS [(100,some 100)] z6 ?_ ?_ rfl
    ·exact yf
    ·exact⟨ay.same rfl rfl,ay.same rfl rfl,ay.same rfl rfl,ay.same rfl rfl,ay.row rfl rfl rfl rfl,trivial⟩)
 ·obtain rfl:k=n:=zE
  refine WP.freeze 100 hB rfl ?_;refine zg ?_;exact .ok (aA.mk2 (aj.tmp rfl) aj.aW)
end Go.Proofs.YtcamgbgfelmbaaaGreatDoor
namespace Go.Proofs.YtcamgbgfelmbaaaGreatDoor
open Go.RowKit QM SX LA
variable{c z:Int}{i p:Nat}
section
abbrev jU:List UInt8:=[99,104,97,114]
abbrev pU:List UInt8:=[105,100]
attribute [local irreducible] IntKind.wrap Go1 Reg WP aK aN bD aZ aJ aA aj ak aT Sat
attribute [local irreducible] flI jm
def aow{n K:Nat}{l:List Z2}{A:List Int}(hM:MZ l A K)(hl:l.length=n*n)(bA:∀z∈A,z.natAbs < WB ^ K)(hn:n<=64)(hK:flB K n (n+1)<=50000):
  ah prog 274 [.agg (og n n l)] (.tup [.one (.c (.sat (aD 2 z2C ((jm A n).map z2v)))),eNo 0]):=by
 have cF:=pY (ag:=l.flatMap z2C) (gX.nat hn hn hl);have cQ:ah prog 369 [.agg (og n n l)] (.v (.bool true)):=by
  refine ah.fq func369 fun w0 T B E0 hB=>?_
  refine zg ?_;refine aU ?_;exact decide_eq_true rfl
 have cS:=ajU hM hl bA hn hK;refine ah.fq func274 fun w0 T B E0 hB=>?_
 refine zg ?_;exact .ok (aA.mk2 (aj.tmp rfl) (aj.tmp rfl))
section
variable{vs:List Vl}
def aeC:ah prog 214 [.agg (bR jU vs)] (.agg qd):=by
 refine ah.fq func214 ?_;intros
 refine zg ?_;exact mO aj.fF
def aeS:ah prog 215 [.agg (bR jU vs)] (.agg qd):=by
 refine ah.fq func215 ?_;intros
 refine zg ?_;exact mO aj.fF
end
def atN:ah prog 146 [.v (str su),.v (str (([32]++jU)++[32]))] (.v (.bool true)):=bg iw yW
def as9:ah prog 146 [.v (str jU),.v (str [32])] (.v (.bool false)):=bg zc yW
def azn:ah prog 146 [.v (str su),.v (str (([32]++pU)++[32]))] (.v (.bool true)):=bg iw yW
def a0q:ah prog 146 [.v (str pU),.v (str [32])] (.v (.bool false)):=bg zc yW
abbrev iJ(r c:Nat)(zs:List Int):Vl:=dW r c (zs.map fun z:Int=>(z:Rat))
section
variable{n K:Nat}{A:List Int}(hA:A.length=n*n)(bA:∀z∈A,z.natAbs < WB ^ K)(hn:n<=64)(hK:flB K n (n+1)<=10000)(hK1:1<=K)(hB0:1+(n*n+1)*K<=50000)
include hA bA hn hK hK1 hB0
theorem ahz:ah prog 216 [.agg (bR jU [iJ n n A])] (.agg (kC (gP (jm A n)) 0 true)):=by
 have hv:[iJ n n A][0]? =some (iJ n n A):=rfl;have cW:=tZ hA hn hn bA hK1 hB0;have az:ah prog 249 [.agg (bR jU [iJ n n A]),.v (str jU),.v (str [109])] (.v (.bool true)):=
  lI (fun _=>true) rfl (zqc rfl) fun i u hv=>by
   match i,hv with
   |0,hv=>cases hv;exact wY cW
 have cm:ah prog 258 [.agg (bR jU [iJ n n A]),.v (.int .i64 0)] (.agg (nG n n A)):=ath (i:=0) hv zc cW
 have cC:=aow (MZ.made bA) (by rw[zq5];exact hA) bA hn zE
 rw[<-uM]at cC;have cP:=acn (zs:=jm A n);refine ah.fq func216 ?_;intros
 refine zg ?_;refine jY aj.fF ?_;exact z7 _
theorem aqF:ah prog 199 [.v (str jU),.r (aD 15 vlE [iJ n n A])] (.tup [.agg (vlA (gP (jm A n))),eNo 0]):=by
 refine oN (n0:=2) zc zc (zqc rfl) (fun u hu=>?_) atN as9 (fun k f hk hg=>?_) (fun f hg=>?_)
 ·rw[zxi]at hu;subst hu;have hKf:K<=flB K n (n+1):=by unfold flB;have:=zx1 (K+2*n+2) (show 1<=n+1 by omega);omega
  exact(Cv.one (n:=0) (.mat n n _ (by rw[zq5];exact hA) hn hn (fun v hv=>by
   obtain⟨z,hz,rfl⟩:=zqg.1 hv;exact RB.ofI (bA z hz) hK1):Sh K _)).F zE zc
 ·match k,hk,hg with
  |0,_,hg=>cases hg;exact aeC
  |1,_,hg=>cases hg;exact aeS
 ·cases hg;exact ahz hA bA hn hK hK1 hB0
end
def ael{n:Nat}(hn:n<=64):ah prog 214 [.agg (bR pU [vI (n:Int)])] (.agg (kC (iJ n n (flI n)) 0 true)):=by
 have hb:((n:Nat):Int).natAbs < WB ^ 1:=by rw[zxh,bf];omega
 have w1:=jT hb (zq6 1) zc
 have az:ah prog 249 [.agg (bR pU [vI (n:Int)]),.v (str pU),.v (str [110])] (.v (.bool true)):=
  lI (fun _=>true) rfl (zqc rfl) fun i u hv=>by
   match i,hv with
   |0,hv=>cases hv;exact fV w1
 have n0:ah prog 252 [.agg (bR pU [vI (n:Int)]),.v (.int .i64 0)] (.agg (zN (n:Int))):=ad5 (i:=0) rfl zc w1
 have cs:=aar (z:=(n:Int)) zE zE
 have cI:=wE hn;have cM:=zI (K:=1) (zs:=flI n) (by unfold flI;exact dM n) hn hn sD zc zc
 refine ah.fq func214 ?_;intros
 refine zg ?_;refine jY aj.fF ?_;exact z7 _
def atb{n:Nat}(hn:n<=64):ah prog 199 [.v (str pU),.r (aD 15 vlE [vI (n:Int)])] (.tup [.agg (vlA (iJ n n (flI n))),eNo 0]):=by
 have hb:((n:Nat):Int).natAbs < WB ^ 1:=by rw[zxh,bf];omega
 refine oN (n0:=0) zc zc (zqc rfl) (fun u hu=>?_) azn a0q (fun k f hk hg=>absurd hk (zvj _)) (fun f hg=>?_)
 ·rw[zxi]at hu;subst hu;exact qc hb (zq6 1) zc
 ·cases hg;exact ael hn
end
section
def zX{f g:Nat->Int}:∀{n:Nat},(∀j,j < n->f j=g j)->smZ n f=smZ n g
 |0,_=>rfl
 |n+1,h=>by
  show smZ n f+f n=smZ n g+g n;rw[zX (n:=n) fun j hj=>h j zE,h n zE]
def Ag(n:Nat)(L:List Int)(f:Nat->Nat->Int):Prop:=∀i j,i < n->j < n->zat L n i j=f i j
def Ag.tab{n:Nat}{f g:Nat->Nat->Int}(h:∀i j,i < n->j < n->f i j=g i j):Ag n (fJ n f n) g:=fun i j hi hj=>by
 unfold zat;rw[zx7,ag9 hj hi]
 exact h i j hi hj
def Ag.I(n:Nat):Ag n (flI n) idZ:=Ag.tab fun _ _ _ _=>rfl
def fcA(n:Nat)(a M:Nat->Nat->Int)(i k:Nat):Int:=smZ n fun j=>a i j*M j k
def fcT(n:Nat)(M:Nat->Nat->Int):Int:=smZ n fun i=>M i i
def fcN(M:Nat->Nat->Int)(c:Int)(i k:Nat):Int:=M i k+idZ i k*c
section
variable{n:Nat}{A M:List Int}{a f:Nat->Nat->Int}
def Ag.mul(hA:Ag n A a)(hM:Ag n M f):Ag n (flA A M n) (fcA n a f):=Ag.tab fun i k hi hk=>zX fun j hj=>by rw[hA i j hi hj,hM j k hj hk]
def Ag.tr(hM:Ag n M f):flT M n n=fcT n f:=zX fun i hi=>hM i i hi hi
def Ag.nx(hM:Ag n M f)(c:Int):Ag n (flN M n c) (fcN f c):=Ag.tab fun i k hi hk=>by
 rw[hM i k hi hk,show zat (flS n c) n i k=idZ i k*c from Ag.tab (g:=fun i k=>idZ i k*c) (fun i k hi hk=>by rw[Ag.I n i k hi hk]) i k hi hk]
 rfl
def Ag.co(hM:Ag n M f){k:Nat}(hk:0 < k)(h: -fcT n f=(k:Int)*c):flC M n k=c:=by
 unfold flC;rw[hM.tr,h];exact aez zE
def Ag.up{k:Nat}(hk:k+1 < n)(hM:Ag n (flM A n k) f)(hA:Ag n A a)(h: -fcT n (fcA n a f)=((k+1:Nat):Int)*c):flG A n (k+1)=c/\Ag n (flM A n (k+1)) (fcN (fcA n a f) c):=by
 have e:=(hA.mul hM).co (k:=k+1) zE h
 refine⟨e,?_⟩;rw[asM hk,e];exact(hA.mul hM).nx c
def Ag.last{k:Nat}(hM:Ag n (flM A n k) f)(hA:Ag n A a)(h: -fcT n (fcA n a f)=((k+1:Nat):Int)*c):flG A n (k+1)=c:=(hA.mul hM).co (k:=k+1) zE h
end
def Ag.M0(A:List Int)(n:Nat):Ag n (flM A n 0) idZ:=Ag.I n
def ch2(a:Nat->Nat->Int)(i j:Nat):Int:=a i i*a j j - a i j*a j i
def ch3(a:Nat->Nat->Int)(i j k:Nat):Int:=d3 (a i i) (a i j) (a i k) (a j i) (a j j) (a j k) (a k i) (a k j) (a k k)
def chC(a:Nat->Nat->Int):Nat->Nat->Int
 |1,1=> -a 0 0
 |2,1=> -(a 0 0+a 1 1)
 |2,2=>ch2 a 0 1
 |3,1=> -(a 0 0+a 1 1+a 2 2)
 |3,2=>ch2 a 0 1+ch2 a 0 2+ch2 a 1 2
 |3,3=> -ch3 a 0 1 2
 |4,1=> -(a 0 0+a 1 1+a 2 2+a 3 3)
 |4,2=>ch2 a 0 1+ch2 a 0 2+ch2 a 0 3+ch2 a 1 2+ch2 a 1 3+ch2 a 2 3
 |4,3=> -(ch3 a 0 1 2+ch3 a 0 1 3+ch3 a 0 2 3+ch3 a 1 2 3)
 |4,4=>mn a 3 3 3
 |_,_=>1
section
variable{A:List Int}{a:Nat->Nat->Int}
def fl1(hA:Ag 1 A a):flG A 1 1=chC a 1 1:=(Ag.M0 A 1).last hA (by simp[fcT,fcA,smZ,idZ,chC])
def fl2(hA:Ag 2 A a):flG A 2 1=chC a 2 1/\flG A 2 2=chC a 2 2:=by
 obtain⟨e1,h1⟩:=Ag.up (k:=0) (c:=chC a 2 1) zc (Ag.M0 A 2) hA (by simp[fcT,fcA,smZ,idZ,chC];try grind)
 exact⟨e1,h1.last hA (by simp[fcT,fcA,fcN,smZ,idZ,chC,ch2];grind)⟩
def fl3(hA:Ag 3 A a):flG A 3 1=chC a 3 1/\flG A 3 2=chC a 3 2/\flG A 3 3=chC a 3 3:=by
 obtain⟨e1,h1⟩:=Ag.up (k:=0) (c:=chC a 3 1) zc (Ag.M0 A 3) hA (by simp[fcT,fcA,smZ,idZ,chC];try grind)
 obtain⟨e2,h2⟩:=Ag.up (k:=1) (c:=chC a 3 2) zc h1 hA (by simp[fcT,fcA,fcN,smZ,idZ,chC,ch2];grind)
 exact⟨e1,e2,h2.last hA (by simp[fcT,fcA,fcN,smZ,idZ,chC,ch2,ch3,d3];grind)⟩
def fl4(hA:Ag 4 A a):flG A 4 1=chC a 4 1/\flG A 4 2=chC a 4 2/\flG A 4 3=chC a 4 3/\flG A 4 4=chC a 4 4:=by
 obtain⟨e1,h1⟩:=Ag.up (k:=0) (c:=chC a 4 1) zc (Ag.M0 A 4) hA (by simp[fcT,fcA,smZ,idZ,chC];try grind)
 obtain⟨e2,h2⟩:=Ag.up (k:=1) (c:=chC a 4 2) zc h1 hA (by simp[fcT,fcA,fcN,smZ,idZ,chC,ch2];grind)
 obtain⟨e3,h3⟩:=Ag.up (k:=2) (c:=chC a 4 3) zc h2 hA (by simp[fcT,fcA,fcN,smZ,idZ,chC,ch2,ch3,d3];grind)
 exact⟨e1,e2,e3,h3.last hA (by simp[fcT,fcA,fcN,smZ,idZ,chC,ch2,ch3,d3,mn];grind)⟩
def ayC{n:Nat}(hn:n<=4)(hA:Ag n A a){k:Nat}(h1:1<=k)(hk:k<=n):flG A n k=chC a n k:=by
 have hc:n=1\/n=2\/n=3\/n=4:=zE
 have hk':k=1\/k=2\/k=3\/k=4:=zE
 rcases hc with rfl|rfl|rfl|rfl
 ·obtain rfl:k=1:=zE
  exact fl1 hA
 ·have h:=fl2 hA;rcases hk' with rfl|rfl|rfl|rfl
  ·exact h.1
  ·exact h.2
  ·omega
  ·omega
 ·have h:=fl3 hA;rcases hk' with rfl|rfl|rfl|rfl
  ·exact h.1
  ·exact h.2.1
  ·exact h.2.2
  ·omega
 ·have h:=fl4 hA;rcases hk' with rfl|rfl|rfl|rfl
  ·exact h.1
  ·exact h.2.1
  ·exact h.2.2.1
  ·exact h.2.2.2
def chL(a:Nat->Nat->Int)(n:Nat):List Int:=(List.range (n+1)).map fun m=>chC a n (n - m)
def aya(a:Nat->Nat->Int)(n:Nat):chC a n 0=1:=by
 match n with
 |0|1|2|3|4|_+5=>rfl
def agC(a:Nat->Nat->Int)(n:Nat):(chL a n).length=n+1:=by unfold chL;rw[zq5,zy1]
def ay9(a:Nat->Nat->Int)(n:Nat):pN (chL a n):=by
 refine .inr ?_;rw[agC];show (chL a n).getD n 0≠0;unfold chL;rw[zx7,zqa,zvb zE]
 show chC a n (n - n)≠0;rw[Nat.sub_self,aya];decide
def aga{n:Nat}(hn:n<=4)(hA:Ag n A a):jm A n=chL a n:=by
 unfold jm;have e:xg (n+1) (flQ A n n)=chL a n:=by
  unfold xg chL;refine zvg fun m hm=>?_
  have hm':m < n+1:=List.mem_range.1 hm;unfold flQ;by_cases h:m=n
  ·rw[if_pos h,h,Nat.sub_self,aya]
  ·rw[if_neg h,if_pos zE]
   exact ayC hn hA zE zE
 rw[e];exact alm (ay9 a n)
def xI(a:Nat->Nat->Int)(x:Int)(i j:Nat):Int:=x*idZ i j - a i j
def ch_ev{n:Nat}(hn:n<=4)(x:Int):zEv (chL a n) x (chL a n).length=dn (xI a x) n:=by
 rw[agC];have hc:n=0\/n=1\/n=2\/n=3\/n=4:=zE
 rcases hc with rfl|rfl|rfl|rfl|rfl
 ·simp[zEv,chL,chC,dn,List.range,List.range.loop]
 ·simp[zEv,chL,chC,dn,mn,xI,idZ,List.range,List.range.loop];try grind
 ·simp[zEv,chL,chC,ch2,dn,mn,xI,idZ,List.range,List.range.loop];grind
 ·simp[zEv,chL,chC,ch2,ch3,d3,dn,mn,xI,idZ,List.range,List.range.loop];grind
 ·simp[zEv,chL,chC,ch2,ch3,d3,dn,mn,xI,idZ,List.range,List.range.loop];grind
end
end
def swS(a:Nat->Nat->Int)(i k:Nat):Nat->Nat->Int:=fun x y=>a (if x=k then i else if x=i then k else x) (if y=k then i else if y=i then k else y)
def clR(a:Nat->Nat->Int)(i k:Nat)(c:Int):Nat->Nat->Int:=fun x y=>if x=i then a i y - c*a k y else a x y
def clS(a:Nat->Nat->Int)(i k:Nat)(c:Int):Nat->Nat->Int:=fun x y=>if y=k then clR a i k c x k+c*clR a i k c x i else clR a i k c x y
def pairs{n k:Nat}(hn:n<=4)(hk:1<=k)(hi:k < i)(hin:i < n):(n=3/\i=2/\k=1)\/(n=4/\i=2/\k=1)\/(n=4/\i=3/\k=1)\/(n=4/\i=3/\k=2):=zE
def avy(a:Nat->Nat->Int){n k m:Nat}(hn:n<=4)(hk:1<=k)(hi:k < i)(hin:i < n)(h1:1<=m)(hm:m<=n):chC (swS a i k) n m=chC a n m:=by
 have hm':m=1\/m=2\/m=3\/m=4:=zE
 rcases pairs hn hk hi hin with⟨rfl,rfl,rfl⟩|⟨rfl,rfl,rfl⟩|⟨rfl,rfl,rfl⟩|⟨rfl,rfl,rfl⟩ <;> rcases hm' with rfl|rfl|rfl|rfl <;> first|omega|(simp[chC,ch2,ch3,d3,mn,swS];try grind)
def as5(a:Nat->Nat->Int){n k m:Nat}(c:Int)(hn:n<=4)(hk:1<=k)(hi:k < i)(hin:i < n)(h1:1<=m)(hm:m<=n):chC (clS a i k c) n m=chC a n m:=by
 have hm':m=1\/m=2\/m=3\/m=4:=zE
 rcases pairs hn hk hi hin with⟨rfl,rfl,rfl⟩|⟨rfl,rfl,rfl⟩|⟨rfl,rfl,rfl⟩|⟨rfl,rfl,rfl⟩ <;> rcases hm' with rfl|rfl|rfl|rfl <;> first|omega|(simp[chC,ch2,ch3,d3,mn,clS,clR];try grind)
section
def cg(p:Nat)(x y:Int):Prop:=x % (p:Int)=y % (p:Int)
section
variable{p:Nat}{x y u v:Int}
def cg.refl(x:Int):cg p x x:=rfl
def cg.symm(h:cg p x y):cg p y x:=Eq.symm h
def cg.trans(h:cg p x y)(h':cg p y u):cg p x u:=Eq.trans h h'
def cg.add(h:cg p x y)(h':cg p u v):cg p (x+u) (y+v):=by
 unfold cg at*;rw[Int.add_emod,h,h',<-Int.add_emod]
def cg.sub(h:cg p x y)(h':cg p u v):cg p (x - u) (y - v):=by
 unfold cg at*;rw[Int.sub_emod,h,h',<-Int.sub_emod]
def cg.mul(h:cg p x y)(h':cg p u v):cg p (x*u) (y*v):=by
 unfold cg at*;rw[Int.mul_emod,h,h',<-Int.mul_emod]
def cg.neg(h:cg p x y):cg p (-x) (-y):=by
 have:=(cg.refl (p:=p) 0).sub h
 rwa [Int.zero_sub,Int.zero_sub]at this
def cg.mod(x:Int):cg p (x % (p:Int)) x:=Int.emod_emod_of_dvd x (Int.dvd_refl _)
def cg.adi(x:Nat):cg p ((x % p:Nat):Int) x:=by
 rw[Int.natCast_emod];exact cg.mod _
def auf(x y:Nat):cg p (fA p x y:Nat) ((x:Int)+y):=by
 unfold fA;refine(cg.adi _).trans ?_;rw[Int.natCast_add];exact(cg.adi x).add (cg.adi y)
def adV(x y:Nat):cg p (fM p x y:Nat) ((x:Int)*y):=by
 unfold fM;refine(cg.adi _).trans ?_;rw[Int.natCast_mul];exact(cg.adi x).mul (cg.adi y)
def arH(hp:0 < p)(x y:Nat):cg p (fS p x y:Nat) ((x:Int) - y):=by
 unfold fS;refine(cg.adi _).trans ?_;have h:=zyi y hp;rw[Int.natCast_sub zE,Int.natCast_add]
 have h1:cg p (((x % p:Nat):Int)+(p:Int)) (x:Int):=by
  have:=(cg.adi (p:=p) x).add (show cg p (p:Int) 0 by unfold cg;rw[Int.emod_self,Int.zero_emod])
  rwa [Int.add_zero]at this
 exact h1.sub (cg.adi y)
def cg.eqN{a b:Nat}(h:cg p a b)(ha:a < p)(hb:b < p):a=b:=by
 unfold cg at h;rw[Int.emod_eq_of_lt zE zE,Int.emod_eq_of_lt zE zE]at h
 omega
end
def ayg{a b:Nat->Nat->Int}{n m:Nat}(hn:n<=4)(h1:1<=m)(hm:m<=n)(h:∀i j,i < n->j < n->cg p (a i j) (b i j)):cg p (chC a n m) (chC b n m):=by
 have hc:(n=1/\m=1)\/(n=2/\m=1)\/(n=2/\m=2)\/(n=3/\m=1)\/(n=3/\m=2)\/(n=3/\m=3)\/(n=4/\m=1)\/(n=4/\m=2)\/(n=4/\m=3)\/(n=4/\m=4):=zE
 rcases hc with⟨rfl,rfl⟩|⟨rfl,rfl⟩|⟨rfl,rfl⟩|⟨rfl,rfl⟩|⟨rfl,rfl⟩|⟨rfl,rfl⟩|⟨rfl,rfl⟩|⟨rfl,rfl⟩|⟨rfl,rfl⟩|⟨rfl,rfl⟩;all_goals(simp only[chC,ch2,ch3,d3,mn];repeat'(first|exact h _ _ zE zE|apply cg.neg|apply cg.add|apply cg.sub|apply cg.mul))
def aea(H:Nat->Nat->Nat)(i k:Nat):Nat->Nat->Nat:=fun x y=>H (if x=k then i else if x=i then k else x) (if y=k then i else if y=i then k else y)
def qZ(p:Nat)(H:Nat->Nat->Nat)(i k c:Nat):Nat->Nat->Nat:=fun x y=>if x=i then fS p (H i y) (fM p c (H k y))else H x y
def wT(p:Nat)(H:Nat->Nat->Nat)(i k c:Nat):Nat->Nat->Nat:=fun x y=>if y=k then fA p (qZ p H i k c x k) (fM p c (qZ p H i k c x i))else qZ p H i k c x y
def qU(H:Nat->Nat->Nat)(n k:Nat):Nat->Nat->Nat
 |0,i=>i
 |f+1,i=>if i < n/\H i (k - 1)=0 then qU H n k f (i+1)else i
def mZ(p:Nat)(k by':Nat)(H:Nat->Nat->Nat):Nat->Nat->Nat->Nat
 |0=>H
 |j+1=>if mZ p k by' H j (k+1+j) (k - 1)≠0 then wT p (mZ p k by' H j) (k+1+j) k (fM p (mZ p k by' H j (k+1+j) (k - 1)) by')else mZ p k by' H j
def abk(H:Nat->Nat->Nat)(n k:Nat):Nat->Nat->Nat:=if qU H n k n k > k then aea H (qU H n k n k) k else H
def tH(p:Nat)(H:Nat->Nat->Nat)(n k:Nat):Nat->Nat->Nat:=
 if qU H n k n k=n then H else mZ p k (fI p (abk H n k k (k - 1))) (abk H n k) (n - (k+1))
def xu(p:Nat)(H:Nat->Nat->Nat)(n:Nat):Nat->Nat->Nat->Nat
 |0=>H
 |k+1=>tH p (xu p H n k) n (k+1)
structure HI(p n c:Nat)(H:Nat->Nat->Nat)(a a':Nat->Nat->Int):Prop where
 lt:∀i j,i < n->j < n->H i j < p
 ev:∀i j,i < n->j < n->cg p (a' i j) (H i j:Nat)
 zr:∀i j,i < n->j < c->j+1 < i->H i j=0
 ch:∀m,1<=m->m<=n->chC a' n m=chC a n m
section
variable{p n c:Nat}{H:Nat->Nat->Nat}{a a':Nat->Nat->Int}
def HI.swap(h:HI p n c H a a'){k:Nat}(hn:n<=4)(hk:1<=k)(hi:k < i)(hin:i < n)(hc:c+1<=k):HI p n c (aea H i k) a (swS a' i k):=by
 refine⟨fun x y hx hy=>?_,fun x y hx hy=>?_,fun x y hx hy hxy=>?_,fun m h1 hm=>(avy a' hn hk hi hin h1 hm).trans (h.ch m h1 hm)⟩
 ·unfold aea;refine h.lt _ _ ?_ ?_ <;> (split <;> (try split) <;> omega)
 ·unfold aea swS;refine h.ev _ _ ?_ ?_ <;> (split <;> (try split) <;> omega)
 ·unfold aea;rw[if_neg (show¬y=k by omega),if_neg (show¬y=i by omega)]
  refine h.zr _ y ?_ hy ?_ <;> (split <;> (try split) <;> omega)
def HI.clear(hp:PrP p)(h:HI p n c H a a'){k c':Nat}(hn:n<=4)(hk:1<=k)(hi:k < i)(hin:i < n)(hc:c+1<=k):HI p n c (wT p H i k c') a (clS a' i k (c':Int)):=by
 have hp0:0 < p:=by have:=hp.1;omega
 have rl:∀x y,x < n->y < n->qZ p H i k c' x y < p:=fun x y hx hy=>by
  unfold qZ;split
  ·exact adk hp _ _
  ·exact h.lt x y hx hy
 have rc:∀x y,x < n->y < n->cg p (clR a' i k (c':Int) x y) (qZ p H i k c' x y:Nat):=fun x y hx hy=>by
  unfold clR qZ;by_cases e:x=i
  ·rw[if_pos e,if_pos e];exact((h.ev i y hin hy).sub ((cg.refl _).mul (h.ev k y zE hy) |>.trans (adV c' (H k y)).symm)).trans (arH hp0 _ _).symm
  ·rw[if_neg e,if_neg e];exact h.ev x y hx hy
 refine⟨fun x y hx hy=>?_,fun x y hx hy=>?_,fun x y hx hy hxy=>?_,fun m h1 hm=>(as5 a' (c':Int) hn hk hi hin h1 hm).trans (h.ch m h1 hm)⟩
 ·unfold wT;split
  ·exact am6 hp _ _
  ·exact rl x y hx hy
 ·unfold clS wT;by_cases e:y=k
  ·rw[if_pos e,if_pos e];exact((rc x k hx zE).add ((cg.refl _).mul (rc x i hx hin) |>.trans (adV c' _).symm)).trans (auf _ _).symm
  ·rw[if_neg e,if_neg e];exact rc x y hx hy
 ·unfold wT;rw[if_neg (show¬y=k by omega)]
  unfold qZ;by_cases e:x=i
  ·rw[if_pos e,h.zr i y hin hy zE,h.zr k y zE hy zE]
   unfold fS fM;simp
  ·rw[if_neg e];exact h.zr x y hx hy hxy
end
end
section
def aa3(H:Nat->Nat->Nat)(n k:Nat):∀(f i:Nat),n<=i+f->i<=n->i<=qU H n k f i/\qU H n k f i<=n/\(∀x,i<=x->x < qU H n k f i->H x (k - 1)=0)/\(qU H n k f i < n->H (qU H n k f i) (k - 1)≠0)
 |0,i,hf,hi=>by
  obtain rfl:i=n:=zE
  exact⟨zq6 _,zq6 _,fun x h1 h2=>by
   have h2:x < i:=h2;omega,fun h=>absurd h (Nat.lt_irrefl _)⟩
 |f+1,i,hf,hi=>by
  by_cases h:i < n/\H i (k - 1)=0
  ·have e:qU H n k (f+1) i=qU H n k f (i+1):=if_pos h;obtain⟨h1,h2,h3,h4⟩:=aa3 H n k f (i+1) zE zE
   rw[e];exact⟨zE,h2,fun x hx hx2=>by
    by_cases hxi:x=i
    ·rw[hxi];exact h.2
    ·exact h3 x zE hx2,h4⟩
  ·have e:qU H n k (f+1) i=i:=if_neg h;rw[e];exact⟨zq6 _,hi,fun x h1 h2=>zE,fun hlt h0=>h ⟨hlt,h0⟩⟩
section
variable{p n k:Nat}{H:Nat->Nat->Nat}{a a':Nat->Nat->Int}
def anp(hp:PrP p)(hn:n<=4)(hk:1<=k)(hkn:k < n)(h:HI p n (k - 1) H a a')(h0:H k (k - 1)≠0):∀j,j<=n - (k+1)->
  (∃b,HI p n (k - 1) (mZ p k (fI p (H k (k - 1))) H j) a b)/\(∀x,k < x->x < k+1+j->mZ p k (fI p (H k (k - 1))) H j x (k - 1)=0)/\mZ p k (fI p (H k (k - 1))) H j k (k - 1)=H k (k - 1)
 |0,_=>⟨⟨a',h⟩,fun x h1 h2=>zE,rfl⟩
 |j+1,hj=>by
  obtain⟨⟨b,hb⟩,hz,hpv⟩:=anp hp hn hk hkn h h0 j zE
  have hlt:=h.lt k (k - 1) hkn zE
  have hb1:k+1+j < n:=zE
  have hb2:k - 1 < n:=zE
  by_cases hc:mZ p k (fI p (H k (k - 1))) H j (k+1+j) (k - 1)≠0
  ·have e:mZ p k (fI p (H k (k - 1))) H (j+1)=wT p (mZ p k (fI p (H k (k - 1))) H j) (k+1+j) k (fM p (mZ p k (fI p (H k (k - 1))) H j (k+1+j) (k - 1)) (fI p (H k (k - 1)))):=if_pos hc;rw[e];refine⟨⟨_,hb.clear hp hn hk zE zE zE⟩,fun x h1 h2=>?_,?_⟩
   ·unfold wT;rw[if_neg (show¬k - 1=k by omega)]
    unfold qZ;by_cases hx:x=k+1+j
    ·rw[if_pos hx,hpv,a0o hp (by rw[zw4 hlt];exact h0) _ (hb.lt _ _ hb1 hb2)]
     exact alJ (by have:=hp.1;omega) _
    ·rw[if_neg hx];exact hz x h1 zE
   ·unfold wT;rw[if_neg (show¬k - 1=k by omega)]
    unfold qZ;rw[if_neg zE];exact hpv
  ·have e:mZ p k (fI p (H k (k - 1))) H (j+1)=mZ p k (fI p (H k (k - 1))) H j:=if_neg hc;rw[e];refine⟨⟨b,hb⟩,fun x h1 h2=>?_,hpv⟩
   by_cases hx:x=k+1+j
   ·rw[hx];exact Classical.not_not.1 hc
   ·exact hz x h1 zE
def HI.more(h:HI p n (k - 1) H a a')(hk:1<=k)(hz:∀x,k < x->x < n->H x (k - 1)=0):HI p n k H a a':=⟨h.lt,h.ev,fun i j hi hj hij=>by
 by_cases e:j=k - 1
 ·rw[e];exact hz i zE hi
 ·exact h.zr i j hi zE hij,h.ch⟩
def aqC(hp:PrP p)(hn:n<=4)(hk:1<=k)(hkn:k < n)(h:HI p n (k - 1) H a a'):∃b,HI p n k (tH p H n k) a b:=by
 obtain⟨h1,h2,h3,h4⟩:=aa3 H n k n k zE zE
 unfold tH;by_cases e:qU H n k n k=n
 ·rw[if_pos e];exact⟨a',h.more hk fun x hx hxn=>h3 x zE zE⟩
 ·rw[if_neg e];have h5:=h4 zE
  obtain⟨b,hb,hpv⟩:∃b,HI p n (k - 1) (abk H n k) a b/\abk H n k k (k - 1)≠0:=by
   unfold abk;by_cases hs:qU H n k n k > k
   ·rw[if_pos hs];refine⟨_,h.swap hn hk hs zE zE,?_⟩
    unfold aea;rw[if_pos rfl,if_neg (show¬k - 1=k by omega),if_neg zE]
    exact h5
   ·rw[if_neg hs];have:qU H n k n k=k:=zE
    rw[this]at h5;exact⟨a',h,h5⟩
  obtain⟨⟨b',hb'⟩,hz,_⟩:=anp hp hn hk hkn hb hpv (n - (k+1)) (zq6 _);exact⟨b',hb'.more hk fun x hx hxn=>hz x hx zE⟩
def am8(hp:PrP p)(hn:n<=4)(h:HI p n 0 H a a'):∀t,t+1 < n\/t=0->∃b,HI p n t (xu p H n t) a b
 |0,_=>⟨a',h⟩
 |t+1,ht=>by
  obtain⟨b,hb⟩:=am8 hp hn h t zE
  exact aqC hp hn zE zE hb
end
def aqy{n:Nat}{H:Nat->Nat->Nat}(hp:PrP p)(hn:n<=4)(hl:∀i j,i < n->j < n->H i j < p):∃b,HI p n (n - 2) (xu p H n (n - 2)) (fun i j=>(H i j:Int)) b:=
 am8 hp hn (a':=fun i j=>(H i j:Int)) ⟨hl,fun i j _ _=>cg.refl _,fun i j _ hj _=>absurd hj (zvj _),fun m _ _=>rfl⟩ (n - 2) zE
end
section
def CPl(p:Nat)(l:List Nat)(f:Nat->Int):Prop:=∀j,cg p ((l.getD j 0:Nat):Int) (f j)
def shZ(f:Nat->Int)(j:Nat):Int:=if j=0 then 0 else f (j - 1)
section
variable{p:Nat}
def CPl.mul1{c:Nat}(hp:PrP p)(hc:c < p)(hcz:cg p (c:Int) z){q:List Nat}{f:Nat->Int}(hq:∀x∈q,x < p)(hg:gN q)(h:CPl p q f):CPl p (vX p [c,1] q) fun j=>z*f j+shZ f j:=fun j=>by
 have hp1:1 < p:=by have:=hp.1;omega
 have e1:bL p [c,1]=[c,1]:=abU (fun x hx=>by
  rcases zy3.1 hx with rfl|hx
  ·exact hc
  ·rcases zy3.1 hx with rfl|hx
   ·exact hp1
   ·cases hx) (.inr (Nat.one_ne_zero))
 have e2:=abU hq hg;have hz:∀i,q.length<=i->cg p 0 (f i):=fun i hi=>by
  have:=h i;rw[jl hi]at this;exact this
 have hs:∀i,q.length < i->cg p 0 (shZ f i):=fun i hi=>by
  unfold shZ;rw[if_neg zE];exact hz _ zE
 have h00:∀{u v:Int},cg p 0 u->cg p 0 v->cg p 0 (z*u+v):=fun hu hv=>by
  have:=((cg.refl (p:=p) z).mul hu).add hv;rw[Int.mul_zero,Int.add_zero]at this;exact this
 unfold vX;rw[e1,e2];by_cases h0:q.length=0
 ·rw[if_pos (.inr h0),jl (zs:=[]) (zq8 j)];refine h00 (hz j zE) ?_
  unfold shZ;split
  ·exact cg.refl _
  ·exact hz _ zE
 ·rw[if_neg (fun hh=>hh.elim (fun h'=>by cases h') h0),zJ]
  refine(cg.adi _).trans ?_;by_cases hj:j < [c,1].length+q.length - 1
  ·rw[agB hj];have hj':j < q.length+1:=by
    have:[c,1].length=2:=rfl;omega
   have e:wvR p [c,1] q 2 j=if 1<=j/\j < 1+q.length then fA p (wvR p [c,1] q 1 j) (fM p 1 (q.getD (j - 1) 0))else wvR p [c,1] q 1 j:=rfl
   have e':wvR p [c,1] q 1 j=if 0<=j/\j < 0+q.length then fA p 0 (fM p c (q.getD (j - 0) 0))else 0:=rfl
   have c1:cg p ((wvR p [c,1] q 1 j:Nat):Int) (z*f j):=by
    rw[e'];by_cases hh:j < q.length
    ·rw[if_pos ⟨zq8 _,zE⟩]
     have:=(auf (p:=p) 0 (fM p c (q.getD j 0))).trans ((cg.refl _).add ((adV c _).trans (hcz.mul (h j))));rw[Int.natCast_zero,Int.zero_add]at this;exact this
    ·rw[if_neg zE]
     have:=(cg.refl (p:=p) z).mul (hz j zE)
     rw[Int.mul_zero]at this;exact this
   show cg p ((wvR p [c,1] q 2 j:Nat):Int) _;rw[e];by_cases hh:1<=j
   ·rw[if_pos ⟨hh,zE⟩]
    refine(auf _ _).trans (c1.add ?_);have:=(adV (p:=p) 1 (q.getD (j - 1) 0)).trans ((cg.refl _).mul (h (j - 1)));rw[Int.natCast_one,Int.one_mul]at this;unfold shZ;rw[if_neg zE];exact this
   ·rw[if_neg zE]
    have e0:shZ f j=0:=if_pos zE
    show cg p _ (z*f j+shZ f j);rw[e0,Int.add_zero];exact c1
  ·have hj':q.length+1<=j:=by
    have:[c,1].length=2:=rfl;omega
   rw[jl (by rw[eH];omega)]
   exact h00 (hz j zE) (hs j zE)
def CPl.sub{a b:List Nat}{f g:Nat->Int}(hp:PrP p)(h:CPl p a f)(h':CPl p b g):CPl p (anY p a b) fun j=>f j - g j:=fun j=>by
 have hp0:0 < p:=by have:=hp.1;omega
 rw[show anY p a b=aaE p (fS p) a b from rfl,att (alJ hp0 0) (adk hp)]
 exact(arH hp0 _ _).trans ((h j).sub (h' j))
def CPl.scl{a:List Nat}{f:Nat->Int}{c:Nat}(hc:cg p (c:Int) z)(h:CPl p a f):CPl p (abb p a c) fun j=>f j*z:=fun j=>by
 unfold abb;rw[zJ];refine(cg.adi _).trans ?_;by_cases hj:j < a.length
 ·rw[agB hj];exact(adV _ _).trans ((h j).mul hc)
 ·have:=h j;rw[jl zE]at this
  rw[jl (by rw[eH];omega)]
  have:=this.mul (cg.refl (p:=p) z);rw[Int.natCast_zero,Int.zero_mul]at this;exact this
end
def hBy(p:Nat)(H:Nat->Nat->Nat)(k:Nat):Nat->Nat
 |0=>1
 |t+1=>fM p (hBy p H k t) (H (k - 1 - t+1) (k - 1 - t))
def hOut(p:Nat)(H:Nat->Nat->Nat)(l:List (List Nat))(k:Nat):Nat->List Nat
 |0=>vX p [fS p 0 (H k k),1] (l.getD k [])
 |t+1=>anY p (hOut p H l k t) (abb p (l.getD (k - 1 - t) []) (fM p (hBy p H k (t+1)) (H (k - 1 - t) k)))
def hL(p:Nat)(H:Nat->Nat->Nat):Nat->List (List Nat)
 |0=>[[1]]
 |m+1=>hL p H m++[hOut p H (hL p H m) m m]
def zBy(a:Nat->Nat->Int)(k:Nat):Nat->Int
 |0=>1
 |t+1=>zBy a k t*a (k - 1 - t+1) (k - 1 - t)
def oQ(a:Nat->Nat->Int)(F:Nat->Nat->Int)(k:Nat):Nat->Nat->Int
 |0=>fun j=> -(a k k)*F k j+shZ (F k) j
 |t+1=>fun j=>oQ a F k t j - F (k - 1 - t) j*(zBy a k (t+1)*a (k - 1 - t) k)
def zPs(a:Nat->Nat->Int):Nat->Nat->Nat->Int
 |0=>fun _ j=>if j=0 then 1 else 0
 |m+1=>fun i=>if i=m+1 then oQ a (zPs a m) m m else zPs a m i
def aax(p:Nat)(H:Nat->Nat->Nat):∀m,(hL p H m).length=m+1
 |0=>rfl
 |m+1=>by
  show (hL p H m++[_]).length=_;rw[zqi,aax p H m];rfl
structure HP(p n:Nat)(l:List Nat)(f:Nat->Int):Prop where
 lt:∀x∈l,x < p
 gn:gN l
 len:l.length<=n
 cp:CPl p l f
section
variable{p n:Nat}{H:Nat->Nat->Nat}{l:List (List Nat)}{F:Nat->Nat->Int}
def ari(hp:PrP p)(k:Nat):∀t,cg p ((hBy p H k t:Nat):Int) (zBy (fun i j=>(H i j:Int)) k t)
 |0=>cg.refl _
 |t+1=>(adV _ _).trans ((ari hp k t).mul (cg.refl _))
def auY(hp:PrP p)(k:Nat):∀t,hBy p H k t < p
 |0=>by have:=hp.1;show 1 < p;omega
 |t+1=>wo hp _ _
def abl(hp:PrP p){k:Nat}(h:∀i,i<=k->HP p (2*i+1) (l.getD i []) (F i)):∀t,t<=k->HP p (2*k+3) (hOut p H l k t) (oQ (fun i j=>(H i j:Int)) F k t)
 |0,_=>⟨awx hp _ _,aw2 _ _ _,by
   have h1:=auc p [fS p 0 (H k k),1] (l.getD k []);have h2:=(h k (zq6 _)).len;have h3:[fS p 0 (H k k),1].length=2:=rfl;show (vX p [fS p 0 (H k k),1] (l.getD k [])).length<=_;omega,CPl.mul1 hp (adk hp _ _) ((arH (by have:=hp.1;omega) _ _).trans (by rw[Int.natCast_zero,Int.zero_sub];exact cg.refl _)) (h k (zq6 _)).lt (h k (zq6 _)).gn (h k (zq6 _)).cp⟩
 |t+1,ht=>⟨as4 hp _ _ _,asb _ _ _ _,by
   have h1:=aoD p (fS p) (hOut p H l k t) (abb p (l.getD (k - 1 - t) []) (fM p (hBy p H k (t+1)) (H (k - 1 - t) k)));have h2:=(abl hp h t zE).len
   have h3:=ai4 p (l.getD (k - 1 - t) []) (fM p (hBy p H k (t+1)) (H (k - 1 - t) k));have h4:=(h (k - 1 - t) zE).len
   refine zxf h1 (Nat.max_le.2 ⟨h2,zE⟩),CPl.sub hp (abl hp h t zE).cp (CPl.scl ((adV _ _).trans ((ari hp k (t+1)).mul (cg.refl _))) (h (k - 1 - t) zE).cp)⟩
def al7(hp:PrP p):∀m i,i<=m->HP p (2*i+1) ((hL p H m).getD i []) (zPs (fun i j=>(H i j:Int)) m i)
 |0,i,hi=>by
  obtain rfl:i=0:=zE
  refine⟨fun x hx=>?_,.inr Nat.one_ne_zero,zq6 _,fun j=>?_⟩
  ·have:x∈[1]:=hx;rw[zxi.1 this];have:=hp.1;omega
  ·show cg p (([1].getD j 0:Nat):Int) (if j=0 then 1 else 0)
   cases j with
   |zero=>exact cg.refl _
   |succ j=>exact cg.refl _
 |m+1,i,hi=>by
  show HP p _ ((hL p H m++[hOut p H (hL p H m) m m]).getD i []) ((if i=m+1 then oQ (fun i j=>(H i j:Int)) (zPs (fun i j=>(H i j:Int)) m) m m else zPs (fun i j=>(H i j:Int)) m i))
  by_cases e:i=m+1
  ·subst e;rw[if_pos rfl,zx7,zv6 (by rw[aax];omega),aax,Nat.sub_self]
   exact abl hp (fun i hi=>al7 hp m i hi) m (zq6 _)
  ·rw[if_neg e,zx7,zyj (by rw[aax];omega),<-zx7]
   exact al7 hp m i zE
end
def ali{a:Nat->Nat->Int}{n j:Nat}:(chL a n).getD j 0=if j<=n then chC a n (n - j)else 0:=by
 unfold chL;rw[zx7,zqa]
 by_cases h:j<=n
 ·rw[if_pos h,zyh (by rw[zy1];omega),List.getElem_range];rfl
 ·rw[if_neg h,zqe (by rw[zy1];omega)];rfl
end
def z_end(a:Nat->Nat->Int){n:Nat}(hn:n<=4)(hz:∀i j,i < n->j < n->j+1 < i->a i j=0)(j:Nat):zPs a n n j=(chL a n).getD j 0:=by
 rw[ali]
 match n,hn,hz with
 |0,_,_=>match j with
  |0=>rfl
  |j+1=>rfl
 |1,_,hz=>match j with
  |0=>simp[zPs,oQ,zBy,shZ,chC]
  |1=>simp[zPs,oQ,zBy,shZ,chC]
  |j+2=>simp[zPs,oQ,zBy,shZ,chC]
 |2,_,hz=>match j with
  |0=>simp[zPs,oQ,zBy,shZ,chC,ch2];grind
  |1=>simp[zPs,oQ,zBy,shZ,chC,ch2];grind
  |2=>simp[zPs,oQ,zBy,shZ,chC,ch2]
  |j+3=>simp[zPs,oQ,zBy,shZ,chC,ch2]
 |3,_,hz=>
  have h20:=hz 2 0 zc zc zc
  match j with
  |0=>simp[zPs,oQ,zBy,shZ,chC,ch2,ch3,d3,h20];grind
  |1=>simp[zPs,oQ,zBy,shZ,chC,ch2,ch3,d3,h20];grind
  |2=>simp[zPs,oQ,zBy,shZ,chC,ch2,ch3,d3,h20];grind
  |3=>simp[zPs,oQ,zBy,shZ,chC,ch2,ch3,d3,h20]
  |j+4=>simp[zPs,oQ,zBy,shZ,chC,ch2,ch3,d3,h20]
 |4,_,hz=>
  have h20:=hz 2 0 zc zc zc
  have h30:=hz 3 0 zc zc zc
  have h31:=hz 3 1 zc zc zc
  match j with
  |0=>simp[zPs,oQ,zBy,shZ,chC,ch2,ch3,d3,mn,h20,h30,h31];grind
  |1=>simp[zPs,oQ,zBy,shZ,chC,ch2,ch3,d3,mn,h20,h30,h31];grind
  |2=>simp[zPs,oQ,zBy,shZ,chC,ch2,ch3,d3,mn,h20,h30,h31];grind
  |3=>simp[zPs,oQ,zBy,shZ,chC,ch2,ch3,d3,mn,h20,h30,h31];grind
  |4=>simp[zPs,oQ,zBy,shZ,chC,ch2,ch3,d3,mn,h20,h30,h31]
  |j+5=>simp[zPs,oQ,zBy,shZ,chC,ch2,ch3,d3,mn,h20,h30,h31]
def aek(p:Nat)(H:Nat->Nat->Nat)(n:Nat):List Nat:=(hL p (xu p H n (n - 2)) n).getD n []
def aqi(hp:0 < p)(x:Int):cg p ((zmd p x:Nat):Int) x:=by
 unfold zmd;rw[Int.toNat_of_nonneg (Int.emod_nonneg _ zE)]
 exact cg.mod x
def ay6(p:Nat)(zs:List Int)(j:Nat):(zs.map (zmd p)).getD j 0=zmd p (zs.getD j 0):=by
 rw[zx7,zx7,zqa]
 cases h:zs[j]? with
 |none=>
  show 0=zmd p 0;unfold zmd;rw[Int.zero_emod];rfl
 |some v=>rfl
def avk{n:Nat}{H:Nat->Nat->Nat}{a:Nat->Nat->Int}(hp:PrP p)(hn:n<=4)(hl:∀i j,i < n->j < n->H i j < p)(ha:∀i j,i < n->j < n->cg p (a i j) ((H i j:Nat):Int)):aek p H n=bL p ((chL a n).map (zmd p)):=by
 have hp0:0 < p:=by have:=hp.1;omega
 obtain⟨b,hb⟩:=aqy hp hn hl;have e:=al7 (H:=xu p H n (n - 2)) hp n n (zq6 n);refine atY e.gn (xQ _ _) fun j=>?_
 rw[zJ,ay6,zw4 (zO hp _)];refine(cg.eqN (p:=p) ?_ (ad2 e.lt hp0 j) (zO hp _));refine(e.cp j).trans (cg.trans ?_ (aqi hp0 _).symm);rw[z_end _ hn (fun i j hi hj hij=>by rw[hb.zr i j hi zE hij];rfl) j,ali,ali]
 by_cases hjn:j<=n
 ·rw[if_pos hjn,if_pos hjn];by_cases h0:n - j=0
  ·rw[h0];have:∀c:Nat->Nat->Int,chC c n 0=1:=fun c=>by
    rcases(show n=0\/n=1\/n=2\/n=3\/n=4 by omega)with h|h|h|h|h <;> (rw[h];rfl)
   rw[this,this];exact cg.refl _
  ·have h1:1<=n - j:=zE
   have h2:n - j<=n:=zE
   refine(ayg hn h1 h2 fun i k hi hk=>(hb.ev i k hi hk).symm).trans ?_
   rw[hb.ch _ h1 h2];exact ayg hn h1 h2 fun i k hi hk=>(ha i k hi hk).symm
 ·rw[if_neg hjn,if_neg hjn];exact cg.refl _
end Go.Proofs.YtcamgbgfelmbaaaGreatDoor
namespace Go.Proofs.YtcamgbgfelmbaaaGreatDoor
open Go.RowKit QM SX LA
def ahn{P:Program}{C:Ctx}{ae:List Oper}{aa:List Oper}{st:St}{ab:_}{K:_}{d:Tmp}{ty:TypeId}{f:FuncId}{xs:Array Operand}{tys:Array TypeId}{ao:List AV}{r:AV}{b:Nat}{t:TypeId}{size n:Nat}{ag:List CA}(hc:ak P f ao [] ⟨r,[(b,.ent (.row t size n ag))]⟩)(hr:r.ids.all (Nat.beq b)=true)(ha:evs st xs.toList=some ao)(hd:aC (some d) C.nt=true)(hf:st.hp b= .free)
  (ai:Reg P C ae aa (st.app (some d) ⟨r,[(b,.ent (.row t size n ag))]⟩) (([b],[b])::ab) K):Go1 P C ae (some d) (.call ⟨.value (.func f),xs,tys⟩) ty aa st ab K:=
 Go1.wG (am:=[]) (pre:=[]) (out:=⟨r,[(b,.ent (.row t size n ag))]⟩) (fp:=[b]) hd rfl ha (by simpa using hc) (fun b e hb=>by cases hb) (fun b s hb=>by simp at hb;rw[hb.1];exact .inr hf) (fun b s hb=>by simp at hb;rw[hb.2];rfl) (fun b s hb=>by simp at hb;simp[hb.1])
  (fun i hi=>by
   left
   rcases hi with hi|⟨b',e,hb,hi⟩
   ·have:b=i:=by simpa using zqh.1 hr i hi
    subst this;exact⟨_,by simp;rfl⟩
   ·simp at hb;obtain⟨rfl,rfl⟩:=hb;cases hi) ai
def mtO(r c b:Nat):List Atom:=[.c (.val (.int .i64 (r:Int))),.c (.val (.int .i64 (c:Int))),.own b]
def PrP.auX{p:Nat}(hp:PrP p):1 < p:=by have:=hp.1;omega
attribute [local irreducible] IntKind.wrap Go1 Reg WP aK aN bD aZ aJ aA aj ak aT Sat
attribute [local irreducible] PrP
def ak1{p:Nat}(hp:PrP p)(r c:Nat)(x:CA)(val:Nat->Nat->Nat)(hr:r<=100)(hc:c<=100)
  (hx:∀i k,i < r->k < c->FnV prog x [.v (.int .i64 (i:Int)),.v (.int .i64 (k:Int))] (.v (.int .u64 (val i k:Int)))) (hL:∀i k,i < r->k < c->val i k < p) (hx1:x.dN=true):
  ak prog 337 [.agg (gfA p),.v (.int .i64 (r:Int)),.v (.int .i64 (c:Int)),.it (.one (.c x))] [] ⟨.agg (mtO r c 81),[(81,.ent (.row 35 1 (r*c) ((iN c val r).flatMap wdC)))]⟩:=by
 have hpl:=hp.lt;refine ak.fq func337 ?_;intros
 refine zg ?_;refine W.loop (fun i=>i<=r) (fun i=>[(2,.v (.int .i64 (c:Int))),(3,.it (.one (.c x))),(4,.ptr 4 0),(8,.ptr 8 0),(9,.ptr 9 0),(15,.v (.int .i64 (r:Int))),(16,.v (.int .i64 (i:Int)))]) (fun i=>[(4,.box 267 (gfA p)),(8,.box 57 [.c (.val (.int .i64 0)),.c (.val (.int .i64 0)),.c (.val (.slice none 0 0))]),(9,.box 57 [.c (.val (.int .i64 (r:Int))),.c (.val (.int .i64 (c:Int))),.own 81]),(81,.row 35 1 (i*c) ((iN c val i).flatMap wdC))]) (fun i=>r - i) 0 (zq8 _) (fun i hi=>?_)
  (by
   refine St.aS [(81,none)] z6 ?_ ?_ rfl
   ·exact yd
   ·exact⟨ay.same rfl rfl,ay.same rfl rfl,ay.jE rfl rfl ⟨aB.same rfl,aB.same rfl,aB.nil rfl,trivial⟩,by rw[zw3];exact ay.dw rfl,trivial⟩)
 by_cases h:i < r
 ·refine zg ?_;refine W.loop (fun k=>k<=c) (fun k=>[(2,.v (.int .i64 (c:Int))),(3,.it (.one (.c x))),(4,.ptr 4 0),(8,.ptr 8 0),(9,.ptr 9 0),(10,.v (.int .i64 (i:Int))),(15,.v (.int .i64 (r:Int))),(16,.v (.int .i64 (i:Int))),(19,.v (.int .i64 (c:Int))),(20,.v (.int .i64 (k:Int)))]) (fun k=>[(4,.box 267 (gfA p)),(8,.box 57 [.c (.val (.int .i64 0)),.c (.val (.int .i64 0)),.c (.val (.slice none 0 0))]),(9,.box 57 [.c (.val (.int .i64 (r:Int))),.c (.val (.int .i64 (c:Int))),.own 81]),(81,.row 35 1 (i*c+k) ((iN c val i++mJ val i k).flatMap wdC))]) (fun k=>c - k) 0 (zq8 _) (fun k hk=>?_)
   (by
    have e:Ent.row 35 1 (i*c) ((iN c val i).flatMap wdC)=Ent.row 35 1 (i*c+0) ((iN c val i++mJ val i 0).flatMap wdC):=by simp[mJ]
    refine St.aS [] z6 ?_ ?_ rfl
    ·exact yd
    ·exact⟨ay.same rfl rfl,ay.same rfl rfl,ay.same rfl rfl,ay.eq rfl e rfl,trivial⟩)
  by_cases h2:k < c
  ·have hf:=hx i k h h2;have hl:=hL i k h h2;have cR:=eG hp (val i k) zE
   rw[zw4 hl]at cR;have hlen:i*c+k<=20000:=by
    have:=zxd (show i<=100 by omega) hc
    omega
   refine zg ?_;refine W.next (k+1) h2 zE (by
    have e2:(iN c val i++mJ val i k).flatMap wdC++wdC (val i k)=(iN c val i++mJ val i (k+1)).flatMap wdC:=by
     rw[adf,<-zqj,zvc (xs:=iN c val i++mJ val i k)];simp
    refine St.aS [(81,some 32)] z6 ?_ ?_ rfl
    ·exact yd
    ·exact⟨ay.same rfl rfl,ay.same rfl rfl,ay.jE rfl rfl ⟨aB.same rfl,aB.same rfl,aB.own rfl,trivial⟩,ay.row rfl rfl zE e2,trivial⟩)
  ·obtain rfl:k=c:=zE
   refine zg ?_;refine W.next (i+1) h zE (by
    have e2:Ent.row 35 1 (i*k+k) ((iN k val i++mJ val i k).flatMap wdC)=Ent.row 35 1 ((i+1)*k) ((iN k val (i+1)).flatMap wdC):=by rw[zv8,uX];rfl
    refine St.aS [] z6 ?_ ?_ rfl
    ·exact yd
    ·exact⟨ay.same rfl rfl,ay.same rfl rfl,ay.same rfl rfl,ay.eq rfl e2 rfl,trivial⟩)
 ·obtain rfl:i=r:=zE
  refine zg ?_;exact gQ (xs:=[.agg (mtO i c 81)]) ⟨aj.aW rfl rfl rfl,trivial⟩ ⟨rfl,trivial⟩
def ahL{p n:Nat}(hp:PrP p){l:List Nat}(hl:l.length=n*n)(hn:n<=64)(hb:∀x∈l,x < p):
  ak prog 566 [.agg (gfA p),.agg (fmA n n l)] [] ⟨.tup [.agg (mtO n n 81),eNo 0],[(81,.ent (.row 35 1 (n*n) ((iN n (fat l n) n).flatMap wdC)))]⟩:=by
 have hp0:0 < p:=by have:=hp.lt;omega
 have cF:=afX (r:=n) (c:=n) (l:=l) hl hn hn;have cG:∀i k:Nat,i < n->k < n->FnV prog (.sat (aqN 340 [.val (.int .i64 (n:Int)),.val (.int .i64 (n:Int)),.sat (aD 1 wdC l)])) [.v (.int .i64 (i:Int)),.v (.int .i64 (k:Int))] (.v (.int .u64 ((fat l n i k:Nat):Int))):=fun i k hi hk=>
  FnV.bound (auN (afL hl hi hk) zE zE zE)
 have cM:=ak1 hp n n _ (fat l n) zE zE cG (fun i k _ _=>arG hb hp0 n i k) rfl
 refine ak.fnA func566 results566 ntmps566 rfl rfl rfl rfl rfl rfl rfl rfl fun _ _ _ _ _=>?_
 refine zg ?_;refine WP.aG ?_;refine zg ?_;refine ahn cM rfl rfl rfl rfl ?_;refine zg ?_;exact gQ (xs:=[.agg (mtO n n 81),eNo 0]) ⟨aj.aW rfl rfl rfl,aj.tmp rfl,trivial⟩ ⟨rfl,trivial⟩
def adT(i k:Nat):Nat:=if i=k then 1 else 0
def arD{p n:Nat}(hp:PrP p)(hn:n<=64):
  ah prog 538 [.agg (gfA p),.v (.int .i64 (n:Int))] (.tup [.agg (fmA n n (iN n adT n)),eNo 0]):=by
 have hp1:=hp.auX;have cS:=aco (n:Int);rw[decide_eq_true (show 0<=(n:Int)/\(n:Int)<=64 by omega)]at cS
 have c0:∀i k:Nat,ah prog 388 [.v (.int .i64 (i:Int)),.v (.int .i64 (k:Int))] (.v (.int .u64 ((adT i k:Nat):Int))):=fun i k=>by
  unfold adT;refine ah.fq func388 fun w0 T B E0 hB=>?_
  by_cases h:i=k
  ·rw[if_pos h];refine zg ?_;exact dZ rfl
  ·rw[if_neg h];refine zg ?_;exact dZ rfl
 have cM:=afo hp n n (.sat (jR 388 [] [])) adT zE zE (fun i k _ _=>FnV.const (c0 i k)) (fun i k _ _=>by unfold adT;split <;> omega) rfl
 have cM:=weakArgs (ao:=[.agg (gfA p),.v (.int .i64 (n:Int)),.v (.int .i64 (n:Int)),.it (.one (.clo 388 []))]) cM fun E S w vs hv=>by
  match vs,hv with
  |[u0,u1,u2,u3],⟨h0,h1,h2,h3,_⟩=>exact⟨h0,h1,h2,alM h3,trivial⟩
 refine ah.fq func538 fun w0 T B E0 hB=>?_
 refine zg ?_;exact .ok (aA.mk2 aj.aW (aj.tmp rfl))
end Go.Proofs.YtcamgbgfelmbaaaGreatDoor
namespace Go.Proofs.YtcamgbgfelmbaaaGreatDoor
open Go.RowKit QM SX LA
def ay4(l:List Nat):∀(S:Nat->Prop) (w:World) (vs:List Value),aM (CA.has S w) (l.flatMap wdC) vs->vs=wdL l:=fun S w=>by
 induction l with
 |nil=>intro vs h;cases vs with
  |nil=>rfl
  |cons v vs=>exact h.elim
 |cons x l ih=>intro vs h;cases vs with
  |nil=>exact h.elim
  |cons v vs=>
   have h1:v= .int .u64 (x:Int):=h.1;have h2:=ih vs h.2;rw[h1,h2];rfl
abbrev aay(n:Nat)(js l:List Nat):kL:=ad3 30 35 n js l
attribute [local irreducible] IntKind.wrap Go1 Reg WP aK aN bD aZ aJ aA aj ak aT Sat
attribute [local irreducible] PrP
def acP{p n:Nat}(hp:PrP p){l:List Nat}(hl:l.length=n*n)(hn:n<=64)(hb:∀x∈l,x < p):
  ak prog 539 [.agg (gfA p),.agg (fmA n n l)] [] ⟨.own 91,[(91,.ent (.abs (aay n (List.range n) l)))]⟩:=by
 have cN:=ahL hp hl hn hb;have hnn:=zxd hn hn;rw[aeu hl (fun i k hi hk=>afL hl hi hk)]at cN
 refine ak.fnA func539 results539 ntmps539 rfl rfl rfl rfl rfl rfl rfl rfl fun _ _ _ _ _=>?_
 refine zg ?_;refine ahn cN rfl rfl rfl rfl ?_;refine zg ?_;refine WP.arq 81 rfl hl.symm (ay4 l) fun u g am hu=>?_
 refine W.loop (fun i=>i<=n) (fun i=>[(5,.ptr 5 0),(7,.own 91),(16,.v (.int .i64 (n:Int))),(17,.v (.int .i64 (i:Int)))]) (fun i=>[(5,.box 57 [.c (.val (.int .i64 (n:Int))),.c (.val (.int .i64 (n:Int))),.c (.val u)]),(81,.abs (kE 35 g am l)),(91,.row 30 1 i ((List.range i).flatMap (hdC g am n)))]) (fun i=>n - i) 0 (zq8 _) (fun i hi=>?_)
  (by
   refine St.aS [(91,none)] z6 ?_ ?_ rfl
   ·exact yk
   ·exact⟨ay.same rfl rfl,ay.same rfl rfl,ay.dw rfl,trivial⟩)
 by_cases h:i < n
 ·have hnn1:=zxd (show i+1<=n by omega) (zq6 n)
  have hi1:(i+1)*n=i*n+n:=zv8 i n;obtain⟨rfl,hcap⟩:=hu (by rw[hl];omega)
  have hw1:IntKind.i64.wrap ((i:Int)*(n:Int))=((i*n:Nat):Int):=by rw[<-Int.natCast_mul];exact jO zE zE
  have hw2:IntKind.i64.wrap (((i+1:Nat):Int)*(n:Int))=(((i+1)*n:Nat):Int):=by rw[<-Int.natCast_mul];exact jO zE zE
  have hsub:(i+1)*n - i*n=n:=zE
  refine zg ?_;refine SX.Go1.ayA (i:=i*n) (j:=(i+1)*n) rfl rfl rfl rfl zE zE zE ?_
  rw[hsub];refine zg ?_;refine W.next (i+1) h zE (by
   have e2:(List.range i).flatMap (hdC g am n)++hdC g am n i=(List.range (i+1)).flatMap (hdC g am n):=by rw[List.range_succ,zvc];simp
   refine St.aS [(91,some 34)] z6 ?_ ?_ rfl
   ·exact ye
   ·exact⟨ay.same rfl rfl,ay.same rfl rfl,ay.row rfl rfl rfl e2,trivial⟩)
 ·obtain rfl:i=n:=zE
  refine zg ?_;refine aJ.le (St.acW 91 81 rfl rfl List.length_range.symm) ?_;exact gQ (xs:=[.one (.own 91)]) ⟨aj.tmp rfl,trivial⟩ ⟨rfl,trivial⟩
end Go.Proofs.YtcamgbgfelmbaaaGreatDoor
namespace Go.Proofs.YtcamgbgfelmbaaaGreatDoor
open Go.RowKit QM SX LA
structure iV(p n:Nat)(js l:List Nat)(H:Nat->Nat->Nat):Prop where
 len:js.length=n
 nd:js.Nodup
 lt:∀j∈js,j < n
 ll:l.length=n*n
 lp:∀x∈l,x < p
 at':∀i j k,js[i]? =some j->k < n->l[j*n+k]? =some (H i k)
def iV.rng{p n:Nat}{l:List Nat}(hl:l.length=n*n)(hb:∀x∈l,x < p):iV p n (List.range n) l (fat l n):=⟨zy1,List.nodup_range,fun j hj=>List.mem_range.1 hj,hl,hb,fun i j k hj hk=>by
 have hi:i < n:=by
  rcases zyd i n with h|h
  ·exact h
  ·rw[zqe (by rw[zy1];exact h)]at hj;cases hj
 rw[zvb hi]at hj
 cases hj;exact afL hl hi hk⟩
abbrev WkJ:=(List Nat×List Nat)×(List Nat×List Nat)
def wkF(p n:Nat)(H:Nat->Nat->Nat):kL:=
 oO 81 (fun q:WkJ=>iV p n q.1.1 q.1.2 H/\∃P,iV p n q.2.1 q.2.2 P) 471 (fun _=>[.c (.val (.int .u64 (p:Int))),.own 91,.own 92]) (fun q=>[(91,.abs (aay n q.1.1 q.1.2)),(92,.abs (aay n q.2.1 q.2.2))])
def aan{C:Ctx}{st:St}{p n:Nat}{H:Nat->Nat->Nat}{cells0:List Atom}(q:WkJ)(ρ:List (Nat×Option Nat))(os:List Nat)(h1:iV p n q.1.1 q.1.2 H)(h2:∃P,iV p n q.2.1 q.2.2 P)(hb:st.hp 81= .ent (.box 471 cells0))
  (hc:pF ρ cells0 [.c (.val (.int .u64 (p:Int))),.own 91,.own 92]) (hR:acQ st ρ [(91,.abs (aay n q.1.1 q.1.2)),(92,.abs (aay n q.2.1 q.2.2))])
  (hos:(([(91,.abs (aay n q.1.1 q.1.2)),(92,.abs (aay n q.2.1 q.2.2))]:List (Nat×Ent)).all fun q=>match SX.src ρ q.1 with|some o=>jw os o|none=>true)=true) (hbo:jw os 81=false) (hdi:(([(91,.abs (aay n q.1.1 q.1.2)),(92,.abs (aay n q.2.1 q.2.2))]:List (Nat×Ent)).all fun q'=>([(91,.abs (aay n q.1.1 q.1.2)),(92,.abs (aay n q.2.1 q.2.2))]:List (Nat×Ent)).all fun q2=>Nat.beq q'.1 q2.1||!(eqO (SX.src ρ q'.1) (SX.src ρ q2.1)))=true) (hfb:lk ρ 81=none:=by rfl):
  St.le C st (nP st 81 (wkF p n H) os):=
 St.acL (ι:=WkJ) (b:=81) q ρ os ⟨h1,h2⟩ hb hc hR hos hbo hdi hfb
def yc{P:Program}{C:Ctx}{ae:List Oper}{aa:List Oper}{st:St}{ab:_}{K:_}{d:Tmp}{ty:TypeId}{f:FuncId}{xs:Array Operand}{tys:Array TypeId}{ao:List AV}{r:AV}{b:Nat}{A:kL}(hc:ak P f ao [] ⟨r,[(b,.ent (.abs A))]⟩)(hr:r.ids.all (Nat.beq b)=true)(ha:evs st xs.toList=some ao)(hd:aC (some d) C.nt=true)(hf:st.hp b= .free)
  (ai:Reg P C ae aa (st.app (some d) ⟨r,[(b,.ent (.abs A))]⟩) (([b],[b])::ab) K):Go1 P C ae (some d) (.call ⟨.value (.func f),xs,tys⟩) ty aa st ab K:=
 Go1.wG (am:=[]) (pre:=[]) (out:=⟨r,[(b,.ent (.abs A))]⟩) (fp:=[b]) hd rfl ha (by simpa using hc) (fun b e hb=>by cases hb) (fun b s hb=>by simp at hb;rw[hb.1];exact .inr hf) (fun b s hb=>by simp at hb;rw[hb.2];rfl) (fun b s hb=>by simp at hb;simp[hb.1])
  (fun i hi=>by
   left
   rcases hi with hi|⟨b',e,hb,hi⟩
   ·have:b=i:=by simpa using zqh.1 hr i hi
    subst this;exact⟨_,by simp;rfl⟩
   ·simp at hb;obtain⟨rfl,rfl⟩:=hb;cases hi) ai
attribute [local irreducible] IntKind.wrap Go1 Reg WP aK aN bD aZ aJ aA aj ak aT Sat
attribute [local irreducible] PrP
def ajH{p n:Nat}(hp:PrP p){l:List Nat}(hl:l.length=n*n)(hn:n<=64)(hb:∀x∈l,x < p):
  ak prog 475 [.agg (gfA p),.agg (fmA n n l)] [] ⟨.ptr 81 0,[(81,.ent (.abs (wkF p n (fat l n))))]⟩:=by
 have hp1:=hp.auX;have cI:=arD hp hn;have il:(iN n adT n).length=n*n:=oJ n;have ib:∀x∈iN n adT n,x < p:=avi fun i k=>by unfold adT;split <;> omega
 have c1:=acP hp hl hn hb;have c2:=SX.ak.segTo (acP hp il hn ib) 92;have eR:aD 1 wdC (iN n adT n)=aP 1 (n*n) ((iN n adT n).flatMap wdC):=acw il;have n81:Named 22 81:=⟨⟩;refine ak.fnA func475 results475 ntmps475 rfl rfl rfl rfl rfl rfl rfl rfl fun _ _ _ _ _=>?_
 refine zg ?_;refine yc c1 rfl rfl rfl rfl ?_;refine zg ?_;refine yc c2 rfl rfl rfl rfl ?_;refine zg ?_;refine aJ.le (aan ((List.range n,l),(List.range n,iN n adT n)) [] [91,92] (iV.rng hl hb) ⟨_,iV.rng il ib⟩ rfl ⟨aB.same rfl,aB.same rfl,aB.same rfl,trivial⟩ ⟨ay.same rfl rfl,ay.same rfl rfl,trivial⟩ rfl rfl rfl) ?_;exact gQ (xs:=[.one (.ptr 81 0)]) ⟨aj.tmp rfl,trivial⟩ ⟨rfl,trivial⟩
end Go.Proofs.YtcamgbgfelmbaaaGreatDoor
namespace Go.Proofs.YtcamgbgfelmbaaaGreatDoor
open Go.RowKit QM SX LA
variable{cd:Go.Code}{C:SX.Ctx}{js js2 l l2:List Nat}{am cap2 g g2 i m2 p:Nat}{P:Go.Program}{st:SX.St}
def sj{α:Type}{l:List α}{a:α}(h:l[i]? =some a):i < l.length:=by
 rcases zyd i l.length with h1|h1
 ·exact h1
 ·rw[zqe h1]at h;cases h
def at0(h:js.Nodup){k j:Nat}(hi:js[i]? =some j)(hk:js[k]? =some j):i=k:=by
 have h1:=sj hi;have h2:=sj hk;rw[zyh h1]at hi
 rw[zyh h2]at hk
 have e:=(zy7 hi).trans (zy7 hk).symm;have h:=List.pairwise_iff_getElem.1 h;rcases Nat.lt_trichotomy i k with hl|hl|hl
 ·exact absurd e (h i k h1 h2 hl)
 ·exact hl
 ·exact absurd e.symm (h k i h2 h1 hl)
section
variable{p n:Nat}{js l:List Nat}{H H':Nat->Nat->Nat}
def iV.congr(s:iV p n js l H)(h:∀i k,i < n->k < n->H i k=H' i k):iV p n js l H':=⟨s.len,s.nd,s.lt,s.ll,s.lp,fun i j k hj hk=>by
 have:=sj hj;rw[<-h i k (by have:=s.len;omega) hk];exact s.at' i j k hj hk⟩
def iV.get(s:iV p n js l H)(hi:i < n):∃j,js[i]? =some j/\j < n:=⟨_,zyh (by rw[s.len];exact hi),s.lt _ (List.getElem_mem _)⟩
def iV.lt'(s:iV p n js l H){k:Nat}(hi:i < n)(hk:k < n):H i k < p:=by
 obtain⟨j,hj,_⟩:=s.get hi;exact s.lp _ (zq4 (s.at' i j k hj hk))
def ix_ne{n j j' k k':Nat}(hk:k < n)(hk':k' < n)(h:j*n+k=j'*n+k'):j=j'/\k=k':=by
 rcases Nat.lt_trichotomy j j' with h1|h1|h1
 ·have:=zx1 n (show j+1<=j' from h1)
  rw[zv8]at this;omega
 ·subst h1;omega
 ·have:=zx1 n (show j'+1<=j from h1)
  rw[zv8]at this;omega
def iV.ixl(s:iV p n js l H){j k:Nat}(hj:j < n)(hk:k < n):j*n+k < l.length:=by
 have:=zx1 n (show j+1<=n from hj)
 rw[zv8]at this;rw[s.ll];omega
def iV.set(s:iV p n js l H){x j y v:Nat}(hj:js[x]? =some j)(hy:y < n)(hv:v < p):iV p n js (l.set (j*n+y) v) (fun i k=>if i=x/\k=y then v else H i k):=⟨s.len,s.nd,s.lt,by rw[zvf];exact s.ll,fun u hu=>by
 rcases List.mem_or_eq_of_mem_set hu with h|h
 ·exact s.lp u h
 ·rw[h];exact hv,fun i j' k hj' hk=>by
 have hjn:=s.lt j (zq4 hj);rw[zv2]
 by_cases h:j*n+y=j'*n+k
 ·obtain⟨rfl,rfl⟩:=ix_ne hy hk h;rw[if_pos rfl,if_pos (s.ixl hjn hy),if_pos ⟨at0 s.nd hj' hj,rfl⟩]
 ·rw[if_neg h,if_neg (fun h2=>h (by obtain⟨rfl,rfl⟩:=h2;rw[hj']at hj;cases hj;rfl))]
  exact s.at' i j' k hj' hk⟩
def iV.swap(s:iV p n js l H){k ji jk:Nat}(hi:js[i]? =some ji)(hk:js[k]? =some jk):iV p n ((js.set i jk).set k ji) l (fun x y=>H (if x=k then i else if x=i then k else x) y):=by
 have h1:=sj hi;have h2:=sj hk;have hg:∀x,((js.set i jk).set k ji)[x]? =js[if x=k then i else if x=i then k else x]? :=fun x=>by
  rw[zv2,zvf,zv2]
  by_cases hx:k=x
  ·subst hx;rw[if_pos rfl,if_pos h2,if_pos rfl,hi]
  ·rw[if_neg hx,if_neg (show¬x=k from fun e=>hx e.symm)]
   by_cases hy:i=x
   ·subst hy;rw[if_pos rfl,if_pos h1,if_pos rfl,hk]
   ·rw[if_neg hy,if_neg (show¬x=i from fun e=>hy e.symm)]
 refine⟨by rw[zvf,zvf];exact s.len,?_,fun j hj=>?_,s.ll,s.lp,fun x j y hj hy=>?_⟩
 ·rw[List.nodup_iff_pairwise_ne,List.pairwise_iff_getElem];intro a b ha hb hab he;rw[zvf,zvf]at ha hb;have ea:=hg a;have eb:=hg b;rw[zyh (by rw[zvf,zvf];exact ha)]at ea
  rw[zyh (by rw[zvf,zvf];exact hb),<-he,ea]at eb
  have hla:(if a=k then i else if a=i then k else a) < js.length:=by split <;> (try split) <;> omega
  have:=at0 s.nd (zyh hla) (eb.symm.trans (zyh hla))
  split at this <;> split at this <;> (try split at this) <;> (try split at this) <;> omega
 ·rcases List.mem_or_eq_of_mem_set hj with h|h
  ·rcases List.mem_or_eq_of_mem_set h with h|h
   ·exact s.lt j h
   ·rw[h];exact s.lt _ (zq4 hk)
  ·rw[h];exact s.lt _ (zq4 hi)
 ·rw[hg]at hj;exact s.at' _ j y hj hy
end
abbrev ane(p:Nat):Ent:= .box 471 [.c (.val (.int .u64 (p:Int))),.own 91,.own 92]
abbrev ap3(n g am:Nat)(js:List Nat):Ent:= .row 30 1 n (js.flatMap (hdC g am n))
abbrev wkH(p n g am g2 cap2:Nat)(js l js2 l2:List Nat):List (Nat×Ent):=[(81,ane p),(91,ap3 n g am js),(92,ap3 n g2 cap2 js2),(93,.abs (kE 35 g am l)),(94,.abs (kE 35 g2 cap2 l2))]
abbrev wkO(p n:Nat)(H:Nat->Nat->Nat):List (Nat×Slot):=[(81,.ent (.abs (wkF p n H))),(91,.gone),(92,.gone),(93,.gone),(94,.gone)]
def afz{n:Nat}{j:Nat}(h:i < js.length):spl (js.flatMap (hdC g am n)) (i*1) [CA.val (hdV g am n j)]=(js.set i j).flatMap (hdC g am n):=by
 have e:∀l:List Nat,l.flatMap (hdC g am n)=l.map fun j=>CA.val (hdV g am n j):=fun l=>by
  induction l with
  |nil=>rfl
  |cons a l ih=>rw[zq7,ih];rfl
 rw[e,e,Nat.mul_one];exact yj (fun j=>CA.val (hdV g am n j)) js i j h
def WP.aqh{Q:Exit->St->Prop}(b c:Nat){n m:Nat}{tO tI:TypeId}(hb:st.hp b= .ent (.abs (ad3 tO tI n js l)))(hf:st.hp c= .free)(hm:js.length=m)(h:∀g am,WP P C cd ⟨st.tm,fH st.hp [(b,.ent (.row tO 1 m (js.flatMap (hdC g am n)))),(c,.ent (.abs (kE tI g am l)))]⟩ Q):WP P C cd st Q:=by
 subst hm;exact WP.asu b c hb hf h
def opH(st:St)(p n g am g2 cap2:Nat)(js l js2 l2:List Nat):St:=
 ⟨st.tm,fH (fH (xG st 81 471 [.c (.val (.int .u64 (p:Int))),.own 91,.own 92] [(91,.abs (aay n js l)),(92,.abs (aay n js2 l2))]).hp [(91,.ent (ap3 n g am js)),(93,.ent (.abs (kE 35 g am l)))]) [(92,.ent (ap3 n g2 cap2 js2)),(94,.ent (.abs (kE 35 g2 cap2 l2)))]⟩
def yh{Q:Exit->St->Prop}{n:Nat}{H:Nat->Nat->Nat}(hb:st.hp 81= .ent (.abs (wkF p n H)))(h1:st.hp 91= .free)(h2:st.hp 92= .free)(h3:st.hp 93= .free)(h4:st.hp 94= .free)(f1:C.fix 91=false)(f2:C.fix 92=false)(h:∀js l js2 l2 P2 g am g2 cap2,iV p n js l H->iV p n js2 l2 P2->WP P C cd (opH st p n g am g2 cap2 js l js2 l2) Q):WP P C cd st Q:=
 WP.aiZ (ι:=WkJ) (b:=81) [91,92] hb (fun p=>rfl) (by intro i hi;simp at hi;rcases hi with rfl|rfl <;> assumption) (by intro i hi;simp at hi;rcases hi with rfl|rfl <;> assumption)
  (by intro p i hi;exact .inl (by simpa[Atom.ids]using hi)) (by intro p i e he;simp at he;rcases he with⟨rfl,rfl⟩|⟨rfl,rfl⟩ <;> rfl) (fun q ⟨s1,P2,s2⟩=>
   WP.aqh 91 93 rfl h3 s1.len fun g am=>WP.aqh 92 94 rfl h4 s2.len fun g2 cap2=>h q.1.1 q.1.2 q.2.1 q.2.2 P2 g am g2 cap2 s1 s2)
def xM{rs:List ResultVar}{out:Out}{n m:Nat}{H P2:Nat->Nat->Nat}(h81:st.hp 81= .ent (ane p))(h91:st.hp 91= .ent (.row 30 1 m (js.flatMap (hdC g am n))))(h92:st.hp 92= .ent (.row 30 1 m2 (js2.flatMap (hdC g2 cap2 n))))(h93:st.hp 93= .ent (.abs (kE 35 g am l)))(h94:st.hp 94= .ent (.abs (kE 35 g2 cap2 l2)))(s1:iV p n js l H)(s2:iV p n js2 l2 P2)(hm:m=n)(hm2:m2=n)(h:aJ C P rs out (nP (ake (ake st 91 93 30 35 n js l) 92 94 30 35 n js2 l2) 81 (wkF p n H) [91,92])):aJ C P rs out st:=
 aJ.le (St.acW 91 93 h91 h93 (hm.trans s1.len.symm)) <| aJ.le (St.acW 92 94 h92 h94 (hm2.trans s2.len.symm)) <|
  aJ.le (aan ((js,l),(js2,l2)) [] [91,92] s1 ⟨P2,s2⟩ h81 ⟨aB.same rfl,aB.same rfl,aB.same rfl,trivial⟩ ⟨ay.same rfl rfl,ay.same rfl rfl,trivial⟩ rfl rfl rfl) h
def St.le.trans{s t u:St}(h:St.le C s t)(k:St.le C t u):St.le C s u:=fun a w hs=>k a w (h a w hs)
def aln{st':St}{n m:Nat}{H P2:Nat->Nat->Nat}(h81:st.hp 81= .ent (ane p))(h91:st.hp 91= .ent (.row 30 1 m (js.flatMap (hdC g am n))))(h92:st.hp 92= .ent (.row 30 1 m2 (js2.flatMap (hdC g2 cap2 n))))(h93:st.hp 93= .ent (.abs (kE 35 g am l)))(h94:st.hp 94= .ent (.abs (kE 35 g2 cap2 l2)))(s1:iV p n js l H)(s2:iV p n js2 l2 P2)(hm:m=n)(hm2:m2=n)(h:St.le C (nP (ake (ake st 91 93 30 35 n js l) 92 94 30 35 n js2 l2) 81 (wkF p n H) [91,92]) st'):St.le C st st':=
 St.le.trans (St.acW 91 93 h91 h93 (hm.trans s1.len.symm)) <| St.le.trans (St.acW 92 94 h92 h94 (hm2.trans s2.len.symm)) <|
  St.le.trans (aan ((js,l),(js2,l2)) [] [91,92] s1 ⟨P2,s2⟩ h81 ⟨aB.same rfl,aB.same rfl,aB.same rfl,trivial⟩ ⟨ay.same rfl rfl,ay.same rfl rfl,trivial⟩ rfl rfl rfl) h
def ax2{ae:List Oper}{aa:List Oper}{ab:_}{K:_}{an:Option Tmp}{ty:TypeId}{f:FuncId}{xs:Array Operand}{tys:Array TypeId}{ao:List AV}{n:Nat}{H:Nat->Nat->Nat}(hc:ak P f ao (wkH p n g am g2 cap2 js l js2 l2) ⟨.tup [],wkO p n H⟩)(ha:evs st xs.toList=some ao)(hd:aC an C.nt=true)(h81:st.hp 81= .ent (ane p))(h91:st.hp 91= .ent (ap3 n g am js))(h92:st.hp 92= .ent (ap3 n g2 cap2 js2))(h93:st.hp 93= .ent (.abs (kE 35 g am l)))(h94:st.hp 94= .ent (.abs (kE 35 g2 cap2 l2)))(ai:Reg P C ae aa (st.app an ⟨.tup [],wkO p n H⟩) (([81,91,92,93,94],[81,91,92,93,94])::ab) K):Go1 P C ae an (.call ⟨.value (.func f),xs,tys⟩) ty aa st ab K:=
 Go1.wG (am:=[]) (pre:=wkH p n g am g2 cap2 js l js2 l2) (out:=⟨.tup [],wkO p n H⟩) (fp:=[81,91,92,93,94]) hd rfl ha (by simpa using hc)
  (fun b e hb=>by
   simp only[zy3,List.not_mem_nil,or_false,Prod.mk.injEq]at hb;rcases hb with⟨rfl,rfl⟩|⟨rfl,rfl⟩|⟨rfl,rfl⟩|⟨rfl,rfl⟩|⟨rfl,rfl⟩
   ·exact⟨h81,_,by simp;rfl⟩
   ·exact⟨h91,_,by simp;rfl⟩
   ·exact⟨h92,_,by simp;rfl⟩
   ·exact⟨h93,_,by simp;rfl⟩
   ·exact⟨h94,_,by simp;rfl⟩)
  (fun b s hb=> .inl (by
   simp only[zy3,List.not_mem_nil,or_false,Prod.mk.injEq]at hb;rcases hb with⟨rfl,rfl⟩|⟨rfl,rfl⟩|⟨rfl,rfl⟩|⟨rfl,rfl⟩|⟨rfl,rfl⟩ <;> exact⟨_,by simp;rfl⟩))
  (fun b s hb=>by
   simp only[zy3,List.not_mem_nil,or_false,Prod.mk.injEq]at hb;rcases hb with⟨rfl,rfl⟩|⟨rfl,rfl⟩|⟨rfl,rfl⟩|⟨rfl,rfl⟩|⟨rfl,rfl⟩ <;> rfl)
  (fun b s hb=>by
   simp only[zy3,List.not_mem_nil,or_false,Prod.mk.injEq]at hb;rcases hb with⟨rfl,rfl⟩|⟨rfl,rfl⟩|⟨rfl,rfl⟩|⟨rfl,rfl⟩|⟨rfl,rfl⟩ <;> simp)
  (fun i hi=>by
   rcases hi with hi|⟨b',e,hb,hi⟩
   ·cases hi
   ·simp only[zy3,List.not_mem_nil,or_false,Prod.mk.injEq]at hb;rcases hb with⟨rfl,hb⟩|⟨rfl,hb⟩|⟨rfl,hb⟩|⟨rfl,hb⟩|⟨rfl,hb⟩ <;> first|(cases hb;done)|(cases hb;cases hi)) ai
attribute [local irreducible] IntKind.wrap Go1 Reg WP aK aN bD aZ aJ aA aj ak aT Sat
def aoA{n k g am g2 cap2:Nat}{H P2:Nat->Nat->Nat}(hn:n<=64)(hi:i < n)(hk:k < n)(hik:i≠k)(s1:iV p n js l H)(s2:iV p n js2 l2 P2):
  ak prog 540 [.ptr 81 0,.v (.int .i64 (i:Int)),.v (.int .i64 (k:Int))] (wkH p n g am g2 cap2 js l js2 l2) ⟨.tup [],wkO p n (aea H i k)⟩:=by
 refine ak.fnA func540 results540 ntmps540 rfl rfl rfl rfl rfl rfl rfl rfl fun _ _ _ _ _=>?_
 obtain⟨ji,hji,hji2⟩:=s1.get hi;obtain⟨jk,hjk,hjk2⟩:=s1.get hk;obtain⟨ji',hji',hji2'⟩:=s2.get hi;obtain⟨jk',hjk',hjk2'⟩:=s2.get hk;have t1:=s1.swap hji hjk;have t2:=s2.swap hji' hjk';have hl1:=s1.len;have hl2:=s2.len;refine SX.goW ?_;have e1:spl (spl (js.flatMap (hdC g am n)) (i*1) [CA.val (hdV g am n jk)]) (k*1) [CA.val (hdV g am n ji)]=((js.set i jk).set k ji).flatMap (hdC g am n):=by
  rw[afz zE,afz (by rw[zvf];omega)]
 have e2:spl (spl (js2.flatMap (hdC g2 cap2 n)) (i*1) [CA.val (hdV g2 cap2 n jk')]) (k*1) [CA.val (hdV g2 cap2 n ji')]=((js2.set i jk').set k ji').flatMap (hdC g2 cap2 n):=by
  rw[afz zE,afz (by rw[zvf];omega)]
 generalize hJ:(js.set i jk).set k ji=js' at*;generalize hJ2:(js2.set i jk').set k ji'=js2' at*;refine W.nu (fun r L=>r<=n/\iV p n js' L (fun x y=>if x < r then H (if x=k then i else if x=i then k else x) (if y=k then i else if y=i then k else y)else H (if x=k then i else if x=i then k else x) y))
  (fun r L=>[(0,.ptr 81 0),(1,.v (.int .i64 (i:Int))),(2,.v (.int .i64 (k:Int))),(63,.own 91),(64,.v (.int .i64 (n:Int))),(65,.v (.int .i64 (r:Int)))]) (fun r L=>wkH p n g am g2 cap2 js' L js2' l2) (fun r L=>n - r) 0 l ⟨zq8 _,t1.congr fun x y hx hy=>(if_neg (zvj _)).symm⟩ (fun r L ⟨hr,s⟩=>?_)
  (by
   refine St.aS [] (by intro b h;exact SX.dB h rfl) ?_ ?_ rfl
   ·exact yd
   ·exact⟨ay.same rfl rfl,ay.eq rfl (congrArg (Ent.row 30 1 n) e1) rfl,ay.eq rfl (congrArg (Ent.row 30 1 n) e2) rfl,ay.same rfl rfl,ay.same rfl rfl,trivial⟩)
 by_cases h:r < n
 ·obtain⟨jr,hjr,hjrn⟩:=s.get h;have q1:=s.at' r jr i hjr hi;have q2:=s.at' r jr k hjr hk;have b1:=s.ixl hjrn hi;have b2:=s.ixl hjrn hk;have v1:=s.lt' h hi;have v2:=s.lt' h hk;have sn:=((s.set hjr hi v2).set hjr hk v1);refine SX.goW ?_;refine W.mV (r+1) _ ⟨h,sn.congr fun x y hx hy=>?_⟩ zE
  by_cases hxr:x=r
  ·subst hxr;by_cases hyk:y=k
   ·subst hyk;simp[hik]
   ·by_cases hyi:y=i
    ·subst hyi;simp[hik]
    ·simp[hyk,hyi]
  ·simp[hxr,show x < r+1↔x < r by omega]
 ·obtain rfl:r=n:=zE
  refine SX.goW ?_;refine xM rfl rfl rfl rfl rfl (s.congr (H':=aea H i k) fun x y hx hy=>if_pos hx) t2 rfl rfl ?_
  exact gQ (xs:=[]) trivial ⟨rfl,rfl,rfl,rfl,rfl,trivial⟩
end Go.Proofs.YtcamgbgfelmbaaaGreatDoor
namespace Go.Proofs.YtcamgbgfelmbaaaGreatDoor
open Go.RowKit QM SX LA
def PrP.w{p x:Nat}(hp:PrP p)(h:x < p):x < 18446744073709551616:=by have:=hp.lt;omega
attribute [local irreducible] IntKind.wrap Go1 Reg WP aK aN bD aZ aJ aA aj ak aT Sat
attribute [local irreducible] PrP fS fM
def aj6{p n i k c g am g2 cap2:Nat}{H P2:Nat->Nat->Nat}{js l js2 l2:List Nat}(hp:PrP p)(hn:n<=64)(hi:i < n)(hk:k < n)(hik:i≠k)(hc:c < p)(s1:iV p n js l H)(s2:iV p n js2 l2 P2):
  ak prog 541 [.ptr 81 0,.v (.int .i64 (i:Int)),.v (.int .i64 (k:Int)),.v (.int .u64 (c:Int))] (wkH p n g am g2 cap2 js l js2 l2) ⟨.tup [],wkO p n (wT p H i k c)⟩:=by
 have hcw:=hp.w hc;refine ak.fnA func541 results541 ntmps541 rfl rfl rfl rfl rfl rfl rfl rfl fun _ _ _ _ _=>?_
 obtain⟨ji,hji,hji2⟩:=s1.get hi;obtain⟨jk,hjk,hjk2⟩:=s1.get hk;obtain⟨ji',hji',hji2'⟩:=s2.get hi;obtain⟨jk',hjk',hjk2'⟩:=s2.get hk;have hl1:=s1.len;have hl2:=s2.len;refine SX.goW ?_;refine W.aht (fun j L L2=>j<=n/\iV p n js L (fun x y=>if x=i/\y < j then fS p (H i y) (fM p c (H k y))else H x y)/\∃P,iV p n js2 L2 P)
  (fun j L L2=>[(0,.ptr 81 0),(1,.v (.int .i64 (i:Int))),(2,.v (.int .i64 (k:Int))),(3,.v (.int .u64 (c:Int))),(18,.v (.int .i64 (n:Int))),(19,.v (.int .i64 (j:Int)))]) (fun j L L2=>wkH p n g am g2 cap2 js L js2 L2) (fun j L L2=>n - j) 0 l l2 ⟨zq8 _,s1.congr fun x y hx hy=>(if_neg zE).symm,P2,s2⟩ (fun j L L2 ⟨hj,s,P,s'⟩=>?_)
 by_cases h:j < n
 ·have q1:L[ji*n+j]? =some (H i j):=(s.at' i ji j hji h).trans (congrArg some (if_neg zE))
  have q2:L[jk*n+j]? =some (H k j):=(s.at' k jk j hjk h).trans (congrArg some (if_neg zE))
  have q3:=s'.at' i ji' j hji' h;have q4:=s'.at' k jk' j hjk' h;have v1:=hp.w (s1.lt' hi h);have v2:=hp.w (s1.lt' hk h);have v3:=hp.w (s'.lt' hi h);have v4:=hp.w (s'.lt' hk h);have cM:=mG hp c (H k j) hcw v2;have cM':=mG hp c (P k j) hcw v4;have cS:=abB hp (H i j) (fM p c (H k j)) v1 (hp.w (wo hp _ _));have cS':=abB hp (P i j) (fM p c (P k j)) v3 (hp.w (wo hp _ _));have b1:=s.ixl hji2 h;have b3:=s'.ixl hji2' h;have sn:=s.set hji h (adk hp (H i j) (fM p c (H k j)));have sn':=s'.set hji' h (adk hp (P i j) (fM p c (P k j)));refine SX.goW ?_;refine W.afn (j+1) _ _ ⟨h,sn.congr fun x y hx hy=>?_,_,sn'⟩ zE
  by_cases hx:x=i
  ·subst hx;by_cases hy:y=j
   ·subst hy;simp
   ·simp[hy,show y < j+1↔y < j by omega]
  ·simp[hx]
 ·obtain rfl:j=n:=zE
  have t:=s.congr (H':=qZ p H i k c) fun x y hx hy=>by
   unfold qZ;by_cases e:x=i
   ·rw[if_pos ⟨e,hy⟩,if_pos e]
   ·rw[if_neg (fun h=>e h.1),if_neg e]
  refine SX.goW ?_;refine W.nu (fun r L=>r<=j/\iV p j js L (fun x y=>if x < r then wT p H i k c x y else qZ p H i k c x y))
   (fun r L=>[(0,.ptr 81 0),(1,.v (.int .i64 (i:Int))),(2,.v (.int .i64 (k:Int))),(3,.v (.int .u64 (c:Int))),(106,.own 91),(107,.v (.int .i64 (j:Int))),(108,.v (.int .i64 (r:Int)))]) (fun r L=>wkH p j g am g2 cap2 js L js2 L2) (fun r L=>j - r) 0 L ⟨zq8 _,t.congr fun x y hx hy=>(if_neg (zvj _)).symm⟩ (fun r M ⟨hr,s⟩=>?_)
  by_cases h2:r < j
  ·obtain⟨jr,hjr,hjrn⟩:=s.get h2;have q1:M[jr*j+i]? =some (qZ p H i k c r i):=(s.at' r jr i hjr hi).trans (congrArg some (if_neg zE))
   have q2:M[jr*j+k]? =some (qZ p H i k c r k):=(s.at' r jr k hjr hk).trans (congrArg some (if_neg zE))
   have v1:=hp.w (t.lt' h2 hi);have v2:=hp.w (t.lt' h2 hk);have cM:=mG hp c (qZ p H i k c r i) hcw v1;have cS:=amY hp (qZ p H i k c r k) (fM p c (qZ p H i k c r i)) v2 (hp.w (wo hp _ _));have b2:=s.ixl hjrn hk;have sn:=s.set hjr hk (am6 hp (qZ p H i k c r k) (fM p c (qZ p H i k c r i)));refine SX.goW ?_;refine W.mV (r+1) _ ⟨h2,sn.congr fun x y hx hy=>?_⟩ zE
   by_cases hxr:x=r
   ·subst hxr;by_cases hyk:y=k
    ·subst hyk;simp[wT]
    ·simp[hyk,wT]
   ·simp[hxr,show x < r+1↔x < r by omega]
  ·obtain rfl:r=j:=zE
   refine SX.goW ?_;refine xM rfl rfl rfl rfl rfl (s.congr (H':=wT p H i k c) fun x y hx hy=>if_pos hx) s' rfl rfl ?_
   exact gQ (xs:=[]) trivial ⟨rfl,rfl,rfl,rfl,rfl,trivial⟩
end Go.Proofs.YtcamgbgfelmbaaaGreatDoor
namespace Go.Proofs.YtcamgbgfelmbaaaGreatDoor
open Go.RowKit QM SX LA
def ams{H:Nat->Nat->Nat}{n k i:Nat}(hk:k<=n)(h1:k<=i)(h2:i<=n)(h3:∀x,k<=x->x < i->H x (k - 1)=0)(h4:i < n->H i (k - 1)≠0):qU H n k n k=i:=by
 obtain⟨g1,g2,g3,g4⟩:=aa3 H n k n k zE hk
 rcases Nat.lt_trichotomy i (qU H n k n k)with h|h|h
 ·exact absurd (g3 i h1 h) (h4 zE)
 ·exact h.symm
 ·exact absurd (h3 _ g1 h) (g4 zE)
def anP(p k by':Nat)(H:Nat->Nat->Nat)(j:Nat):mZ p k by' H (j+1)=if mZ p k by' H j (k+1+j) (k - 1)≠0 then wT p (mZ p k by' H j) (k+1+j) k (fM p (mZ p k by' H j (k+1+j) (k - 1)) by')else mZ p k by' H j:=rfl
def aox(p k by':Nat)(H:Nat->Nat->Nat):mZ p k by' H 0=H:=rfl
attribute [local irreducible] IntKind.wrap Go1 Reg WP aK aN bD aZ aJ aA aj ak aT Sat
attribute [local irreducible] PrP fM fI aea wT qU abk mZ
def ahx{p n k:Nat}{H:Nat->Nat->Nat}(hp:PrP p)(hn:n<=64)(hk:1<=k)(hkn:k < n):
  ak prog 476 [.ptr 81 0,.v (.int .i64 (k:Int))] [(81,.abs (wkF p n H))] ⟨.tup [],[(81,.ent (.abs (wkF p n (tH p H n k))))]⟩:=by
 have hk1:k - 1 < n:=zE
 refine ak.fnA func476 results476 ntmps476 rfl rfl rfl rfl rfl rfl rfl rfl fun _ _ _ _ _=>?_
 refine yh rfl rfl rfl rfl rfl rfl rfl (fun js l js2 l2 P2 g am g2 cap2 s1 s2=>?_)
 have hl1:=s1.len;have hl2:=s2.len;refine SX.goW ?_;refine W.loop (fun i=>k<=i/\i<=n/\∀x,k<=x->x < i->H x (k - 1)=0) (fun i=>[(0,.ptr 81 0),(1,.v (.int .i64 (k:Int))),(4,.v (.int .i64 (i:Int)))]) (fun i=>wkH p n g am g2 cap2 js l js2 l2) (fun i=>n - i) k ⟨zq6 _,zE,fun x h1 h2=>zE⟩ (fun i ⟨hki,hin,hz⟩=>?_)
 by_cases h:i < n
 ·obtain⟨ji,hji,hji2⟩:=s1.get h;have q1:=s1.at' i ji (k - 1) hji hk1;by_cases h0:H i (k - 1)=0
  ·have h0':((H i (k - 1):Nat):Int)=0:=by rw[h0];rfl
   refine SX.goW ?_;refine W.next (i+1) ⟨zE,h,fun x h1 h2=>by
    by_cases e:x=i
    ·rw[e];exact h0
    ·exact hz x h1 zE⟩ zE
  ·have h0':¬((H i (k - 1):Nat):Int)=0:=zE
   have eF:qU H n k n k=i:=ams zE hki hin hz fun _=>h0
   have eS:abk H n k=if i > k then aea H i k else H:=by unfold abk;rw[eF]
   have eC:tH p H n k=mZ p k (fI p (abk H n k k (k - 1))) (abk H n k) (n - (k+1)):=by
    unfold tH;rw[if_neg (by rw[eF];omega)]
   refine SX.goW ?_;refine W.meetS [(0,.ptr 81 0),(1,.v (.int .i64 (k:Int)))] [(81,.abs (wkF p n (abk H n k)))] ?_ ?_
   ·refine SX.W.ite (fun hik=>?_) (fun hik=>?_)
    ·have hik:k < i:=zE
     rw[if_pos hik]at eS;rw[eS];refine SX.goW ?_;refine ax2 (aoA hn h hkn zE s1 s2) rfl rfl rfl rfl rfl rfl rfl ?_
     refine SX.goW ?_;exact SX.W.le
    ·have hik:¬i > k:=zE
     rw[if_neg hik]at eS;rw[eS];refine SX.goW ?_;refine aln rfl rfl rfl rfl rfl s1 s2 rfl rfl ?_;exact SX.W.le
   ·clear s1 s2 hl1 hl2 hji hji2 q1;generalize abk H n k=H1 at*;refine yh rfl rfl rfl rfl rfl rfl rfl (fun js l js2 l2 P2 g am g2 cap2 s1 s2=>?_)
    have hl1:=s1.len;have hl2:=s2.len;obtain⟨jk,hjk,hjk2⟩:=s1.get hkn;have q1:=s1.at' k jk (k - 1) hjk hk1;have cI:=anK hp (H1 k (k - 1)) (hp.w (s1.lt' hkn hk1));refine SX.goW ?_;refine W.loop (fun j=>j<=n - (k+1)) (fun j=>[(0,.ptr 81 0),(1,.v (.int .i64 (k:Int))),(5,.v (.int .u64 ((fI p (H1 k (k - 1)):Nat):Int))),(6,.v (.int .i64 ((k+1+j:Nat):Int)))]) (fun j=>[(81,.abs (wkF p n (mZ p k (fI p (H1 k (k - 1))) H1 j)))]) (fun j=>n - (k+1) - j) 0 (zq8 _) (fun j hj=>?_)
     (by
      refine aln rfl rfl rfl rfl rfl (s1.congr (H':=mZ p k (fI p (H1 k (k - 1))) H1 0) fun x y _ _=>by rw[aox]) s2 rfl rfl ?_
      exact SX.W.le)
    clear s1 s2 hl1 hl2 hjk hjk2 q1 cI;have eL:=anP p k (fI p (H1 k (k - 1))) H1 j;have hb:fI p (H1 k (k - 1)) < p:=fI_lt hp _;generalize fI p (H1 k (k - 1))=by' at*;generalize hHc:mZ p k by' H1 j=Hc at*;refine yh rfl rfl rfl rfl rfl rfl rfl (fun js l js2 l2 P2 g am g2 cap2 s1 s2=>?_)
    have hl1:=s1.len;have hl2:=s2.len;by_cases hx:k+1+j < n
    ·obtain⟨jx,hjx,hjx2⟩:=s1.get hx;have q1:=s1.at' (k+1+j) jx (k - 1) hjx hk1;by_cases h0:Hc (k+1+j) (k - 1)=0
     ·have h0':((Hc (k+1+j) (k - 1):Nat):Int)=0:=by rw[h0];rfl
      rw[if_neg (fun h=>h h0)]at eL
      refine SX.goW ?_;refine W.next (j+1) zE zE ?_
      rw[eL];refine aln rfl rfl rfl rfl rfl s1 s2 rfl rfl ?_;exact SX.W.le
     ·have h0':¬((Hc (k+1+j) (k - 1):Nat):Int)=0:=zE
      have cM:=mG hp (Hc (k+1+j) (k - 1)) by' (hp.w (s1.lt' hx hk1)) (hp.w hb);rw[if_pos h0]at eL;refine SX.goW ?_;refine ax2 (aj6 hp hn hx hkn zE (wo hp (Hc (k+1+j) (k - 1)) by') s1 s2) rfl rfl rfl rfl rfl rfl rfl ?_
      refine SX.goW ?_;refine W.next (j+1) zE zE ?_
      rw[eL];exact SX.W.le
    ·obtain rfl:j=n - (k+1):=zE
     refine SX.goW ?_;refine xM rfl rfl rfl rfl rfl (s1.congr (H':=tH p H n k) fun x y _ _=>by rw[eC,hHc]) s2 rfl rfl ?_
     exact gQ (xs:=[]) trivial ⟨rfl,trivial⟩
 ·obtain rfl:i=n:=zE
  have eF:qU H i k i k=i:=ams zE hki hin hz fun h'=>absurd h' h
  have eC:tH p H i k=H:=if_pos eF;refine SX.goW ?_;refine xM rfl rfl rfl rfl rfl (s1.congr (H':=tH p H i k) fun x y _ _=>by rw[eC]) s2 rfl rfl ?_
  exact gQ (xs:=[]) trivial ⟨rfl,trivial⟩
end Go.Proofs.YtcamgbgfelmbaaaGreatDoor
namespace Go.Proofs.YtcamgbgfelmbaaaGreatDoor
open Go.RowKit QM SX LA
def aok(p:Nat)(H:Nat->Nat->Nat)(n t:Nat):xu p H n (t+1)=tH p (xu p H n t) n (t+1):=rfl
def apJ(p:Nat)(H:Nat->Nat->Nat)(n:Nat):xu p H n 0=H:=rfl
attribute [local irreducible] IntKind.wrap Go1 Reg WP aK aN bD aZ aJ aA aj ak aT Sat
attribute [local irreducible] PrP tH xu
def ahk{p n:Nat}(hp:PrP p){l:List Nat}(hl:l.length=n*n)(hn:n<=64)(hb:∀x∈l,x < p):
  ak prog 392 [.agg (gfA p),.agg (fmA n n l)] [] ⟨.ptr 81 0,[(81,.ent (.abs (wkF p n (xu p (fat l n) n (n - 2)))))]⟩:=by
 have cB:=ajH hp hl hn hb;refine ak.fnA func392 results392 ntmps392 rfl rfl rfl rfl rfl rfl rfl rfl fun _ _ _ _ _=>?_
 refine zg ?_;refine yc cB rfl rfl rfl rfl ?_;refine zg ?_;refine W.loop (fun t=>t<=n - 2) (fun t=>[(3,.ptr 3 0),(5,.ptr 81 0),(6,.v (.int .i64 ((t+1:Nat):Int)))]) (fun t=>[(3,.box 57 (fmA n n l)),(81,.abs (wkF p n (xu p (fat l n) n t)))]) (fun t=>n - 2 - t) 0 (zq8 _) (fun t ht=>?_)
  (by
   refine St.aS [] z6 ?_ ?_ rfl
   ·exact yd
   ·exact⟨ay.same rfl rfl,ay.eq rfl (by rw[apJ]) rfl,trivial⟩)
 by_cases h:t+1+1 < n
 ·have cC:=ahx (p:=p) (n:=n) (k:=t+1) (H:=xu p (fat l n) n t) hp hn zE zE
  refine zg ?_;refine W.next (t+1) zE zE ?_
  refine St.aS [] z6 ?_ ?_ rfl
  ·exact yd
  ·exact⟨ay.same rfl rfl,ay.eq rfl (by rw[aok]) rfl,trivial⟩
 ·obtain rfl:t=n - 2:=zE
  refine zg ?_;exact gQ (xs:=[.one (.ptr 81 0)]) ⟨aj.tmp rfl,trivial⟩ ⟨rfl,trivial⟩
end Go.Proofs.YtcamgbgfelmbaaaGreatDoor
namespace Go.Proofs.YtcamgbgfelmbaaaGreatDoor
open Go.RowKit QM SX LA
def ava(q:List Nat):List CA:=[.sat (aD 1 wdC q)]
instance:dY ava 1:=⟨fun _=>rfl⟩
def aoZ(p:Nat)(H:Nat->Nat->Nat)(l:List (List Nat))(k:Nat):hOut p H l k 0=vX p [fS p 0 (H k k),1] (l.getD k []):=rfl
def anB(p:Nat)(H:Nat->Nat->Nat)(l:List (List Nat))(k t:Nat):hOut p H l k (t+1)=anY p (hOut p H l k t) (abb p (l.getD (k - 1 - t) []) (fM p (hBy p H k (t+1)) (H (k - 1 - t) k))):=rfl
def aqf(p:Nat)(H:Nat->Nat->Nat)(k:Nat):hBy p H k 0=1:=rfl
def auq(p:Nat)(H:Nat->Nat->Nat)(k t:Nat):hBy p H k (t+1)=fM p (hBy p H k t) (H (k - 1 - t+1) (k - 1 - t)):=rfl
attribute [local irreducible] IntKind.wrap Go1 Reg WP aK aN bD aZ aJ aA aj ak aT Sat
attribute [local irreducible] PrP fS fM vX abb hOut hBy
def aoN{p n k:Nat}{H:Nat->Nat->Nat}{ls:List (List Nat)}{F:Nat->Nat->Int}(hp:PrP p)(hn:n<=64)(hk:k < n)(hl:ls.length=k+1)(hF:∀i,i<=k->HP p (2*i+1) (ls.getD i []) (F i)):
  ak prog 393 [.ptr 81 0,.own 100] [(81,.abs (wkF p n H)),(100,.row 58 1 (k+1) (ls.flatMap ava))] ⟨.r (aD 1 wdC (hOut p H ls k k)),[(81,.ent (.abs (wkF p n H))),(100,.ent (.row 58 1 (k+1) (ls.flatMap ava)))]⟩:=by
 have hg:∀i,i<=k->ls[i]? =some (ls.getD i []):=fun i hi=>by rw[zx7,zyh zE];rfl
 refine ak.fnA func393 results393 ntmps393 rfl rfl rfl rfl rfl rfl rfl rfl fun _ _ _ _ _=>?_
 refine yh rfl rfl rfl rfl rfl rfl rfl (fun js l js2 l2 P2 g am g2 cap2 s1 s2=>?_)
 have hl1:=s1.len;have hl2:=s2.len;obtain⟨jk,hjk,hjk2⟩:=s1.get hk;have q1:=s1.at' k jk k hjk hk;have cN:=aov hp (H k k) (hp.w (s1.lt' hk hk));have hkk:=hF k (zq6 _);have qk:=hg k (zq6 _);have e2:[fS p 0 (H k k),1].length=2:=rfl;have cM:=aqs hp (l:=[fS p 0 (H k k),1]) (l':=ls.getD k []) zE (by have:=hkk.len;omega) (fun x hx=>by
  rcases zy3.1 hx with rfl|hx
  ·exact hp.w (adk hp _ _)
  ·rw[zxi.1 hx];decide) (fun x hx=>hp.w (hkk.lt x hx))
 refine SX.goW ?_;refine W.loop (fun t=>t<=k) (fun t=>[(0,.ptr 81 0),(1,.own 100),(5,.ptr 5 0),(6,.v (.int .i64 (k:Int))),(7,.r (aD 1 wdC (hOut p H ls k t))),(8,.v (.int .u64 ((hBy p H k t:Nat):Int))),(9,.v (.int .i64 (((k - t:Nat):Int) - 1)))])
  (fun t=>(5,.box 267 (gfA p))::(100,.row 58 1 (k+1) (ls.flatMap ava))::wkH p n g am g2 cap2 js l js2 l2) (fun t=>k - t) 0 (zq8 _) (fun t ht=>?_)
  (by
   refine St.aS [] (by intro b h;exact SX.dB h rfl) ?_ ?_ rfl
   ·repeat(first|exact trivial|refine⟨⟨_,rfl,aF.same rfl⟩,?_⟩|refine⟨⟨_,rfl,aF.int (by first|(rw[aqf];rfl)|(simp;done)|omega)⟩,?_⟩|refine⟨⟨_,rfl,aF.eq (by rw[aoZ]) rfl⟩,?_⟩)
   ·exact⟨ay.same rfl rfl,ay.same rfl rfl,ay.same rfl rfl,ay.same rfl rfl,ay.same rfl rfl,ay.same rfl rfl,ay.same rfl rfl,trivial⟩)
 by_cases h:t < k
 ·obtain⟨i,hi⟩:∃i,k - t=i+1:=⟨k - t - 1,zE⟩
  have hi2:k - 1 - t=i:=zE
  have eB:=auq p H k t;have eO:=anB p H ls k t;rw[hi2]at eB eO;have e0:((k - t:Nat):Int) - 1=(i:Int):=zE
  rw[e0];obtain⟨j1,hj1,hj12⟩:=s1.get (show i+1 < n by omega)
  obtain⟨j0,hj0,hj02⟩:=s1.get (show i < n by omega)
  have r1:=s1.at' (i+1) j1 i hj1 zE
  have r0:=s1.at' i j0 k hj0 hk;have hii:=hF i zE
  have qi:=hg i zE
  have hOk:=(abl (H:=H) hp hF t ht);have hBl:=auY (H:=H) hp k t;have cM1:=mG hp (hBy p H k t) (H (i+1) i) (hp.w hBl) (hp.w (s1.lt' zE zE))
  rw[<-eB]at cM1;have cM2:=mG hp (hBy p H k (t+1)) (H i k) (hp.w (auY hp k _)) (hp.w (s1.lt' zE hk))
  have cS:=ajw hp (l:=ls.getD i []) (by have:=hii.len;omega) (fun x hx=>hp.w (hii.lt x hx)) (fM p (hBy p H k (t+1)) (H i k)) (hp.w (wo hp _ _))
  have cD:=atB hp (l:=hOut p H ls k t) (l':=abb p (ls.getD i []) (fM p (hBy p H k (t+1)) (H i k))) (by have:=hOk.len;omega) (by have:=ai4 p (ls.getD i []) (fM p (hBy p H k (t+1)) (H i k));have:=hii.len;omega) (fun x hx=>hp.w (hOk.lt x hx)) (fun x hx=>hp.w (awv hp _ _ x hx))
  rw[<-eO]at cD;refine SX.goW ?_;refine W.next (t+1) h zE (by
   refine St.aS [] (by intro b h;exact SX.dB h rfl) ?_ ?_ rfl
   ·exact yl
   ·exact⟨ay.same rfl rfl,ay.same rfl rfl,ay.same rfl rfl,ay.same rfl rfl,ay.same rfl rfl,ay.same rfl rfl,ay.same rfl rfl,trivial⟩)
 ·obtain rfl:t=k:=zE
  refine SX.goW ?_;refine xM rfl rfl rfl rfl rfl s1 s2 rfl rfl ?_;exact gQ (xs:=[.one (.c (.sat (aD 1 wdC (hOut p H ls t t))))]) ⟨aj.tmp rfl,trivial⟩ ⟨rfl,rfl,trivial⟩
end Go.Proofs.YtcamgbgfelmbaaaGreatDoor
namespace Go.Proofs.YtcamgbgfelmbaaaGreatDoor
open Go.RowKit QM SX LA
variable{x:Int}{A zs:List Int}{l:List Nat}{kq s s1 s2:List UInt8}{B K c:Nat}{m1 m2:Nd}
section
def av9(p:Nat)(H:Nat->Nat->Nat):hL p H 0=[[1]]:=rfl
def awy(p:Nat)(H:Nat->Nat->Nat)(m:Nat):hL p H (m+1)=hL p H m++[hOut p H (hL p H m) m m]:=rfl
def a0k{P:Program}{C:Ctx}{ae:List Oper}{aa:List Oper}{st:St}{ab:_}{K:_}{an:Option Tmp}{ty:TypeId}{f:FuncId}{xs:Array Operand}{tys:Array TypeId}{ao:List AV}{b1 b2:Nat}{e1 e2 e3 e4:Ent}{r:AV}(hc:ak P f ao [(b1,e1),(b2,e2)] ⟨r,[(b1,.ent e3),(b2,.ent e4)]⟩)(hr:r.ids=[])(hi1:e3.ids=[])(hi2:e4.ids=[])(ha:evs st xs.toList=some ao)(hd:aC an C.nt=true)
  (h1:st.hp b1= .ent e1) (h2:st.hp b2= .ent e2) (ai:Reg P C ae aa (st.app an ⟨r,[(b1,.ent e3),(b2,.ent e4)]⟩) (([b1,b2],[b1,b2])::ab) K):Go1 P C ae an (.call ⟨.value (.func f),xs,tys⟩) ty aa st ab K:=
 Go1.wG (am:=[]) (pre:=[(b1,e1),(b2,e2)]) (out:=⟨r,[(b1,.ent e3),(b2,.ent e4)]⟩) (fp:=[b1,b2]) hd rfl ha (by simpa using hc)
  (fun b e hb=>by
   simp only[zy3,List.not_mem_nil,or_false,Prod.mk.injEq]at hb;rcases hb with⟨rfl,rfl⟩|⟨rfl,rfl⟩
   ·exact⟨h1,.ent e3,zq9⟩
   ·exact⟨h2,.ent e4,zy2 _ zq9⟩)
  (fun b s hb=> .inl (by
   simp only[zy3,List.not_mem_nil,or_false,Prod.mk.injEq]at hb;rcases hb with⟨rfl,rfl⟩|⟨rfl,rfl⟩
   ·exact⟨e1,by simp⟩
   ·exact⟨e2,by simp⟩))
  (fun b s hb=>by
   simp only[zy3,List.not_mem_nil,or_false,Prod.mk.injEq]at hb;rcases hb with⟨rfl,rfl⟩|⟨rfl,rfl⟩ <;> rfl)
  (fun b s hb=>by
   simp only[zy3,List.not_mem_nil,or_false,Prod.mk.injEq]at hb;rcases hb with⟨rfl,rfl⟩|⟨rfl,rfl⟩ <;> simp)
  (fun i hi=>by
   rcases hi with hi|⟨b',e,hb,hi⟩
   ·rw[hr]at hi;cases hi
   ·simp only[zy3,List.not_mem_nil,or_false,Prod.mk.injEq]at hb;rcases hb with⟨rfl,hb⟩|⟨rfl,hb⟩
    ·cases hb;rw[hi1]at hi;cases hi
    ·cases hb;rw[hi2]at hi;cases hi) ai
attribute [local irreducible] IntKind.wrap Go1 Reg WP aK aN bD aZ aJ aA aj ak aT Sat
attribute [local irreducible] PrP xu hOut hL
def awg{n:Nat}(hl:l.length=n*n)(hn:n<=64):ah prog 391 [.agg (fmA n n l)] (.v (.bool true)):=by
 have cF:=afX (r:=n) (c:=n) (l:=l) hl hn hn;refine ah.fq func391 ?_;intros
 refine zg ?_;refine aU ?_;exact decide_eq_true rfl
def apE{p n:Nat}(hp:PrP p)(hl:l.length=n*n)(hn:n<=64)(hb:∀x∈l,x < p):
  ah prog 289 [.agg (gfA p),.agg (fmA n n l)] (.tup [.one (.c (.sat (aD 1 wdC (aek p (fat l n) n)))),eNo 0]):=by
 have cQ:=awg hl hn;have cF:=ahk hp hl hn hb;have hlast:(hL p (xu p (fat l n) n (n - 2)) n)[n]? =some (aek p (fat l n) n):=by
  unfold aek;rw[zx7,zyh (by rw[aax];omega)];rfl
 generalize xu p (fat l n) n (n - 2)=Hf at*;have mark:zZ 15:=⟨⟩;refine ah.fq func289 ?_;intros
 refine zg ?_;refine yc cF rfl rfl rfl rfl ?_;refine zg ?_;refine W.loop (fun m=>m<=n) (fun m=>[(3,.ptr 3 0),(6,.ptr 81 0),(7,.own 100),(17,.v (.int .i64 (n:Int))),(18,.v (.int .i64 (m:Int)))]) (fun m=>[(3,.box 57 (fmA n n l)),(81,.abs (wkF p n Hf)),(100,.row 58 1 (m+1) ((hL p Hf m).flatMap ava))]) (fun m=>n - m) 0 (zq8 _) (fun m hm=>?_)
  (by
   refine St.aS [(100,some 15)] z6 ?_ ?_ rfl
   ·exact ye
   ·exact⟨ay.same rfl rfl,ay.same rfl rfl,ay.row rfl rfl rfl (by rw[av9];rfl),trivial⟩)
 by_cases h:m < n
 ·have cX:=aoN (p:=p) (n:=n) (k:=m) (H:=Hf) (ls:=hL p Hf m) (F:=zPs (fun i j=>(Hf i j:Int)) m) hp hn h (aax p Hf m) (fun i hi=>al7 hp m i hi)
  refine zg ?_;refine a0k cX rfl rfl rfl rfl rfl rfl rfl ?_;refine zg ?_;refine W.next (m+1) h zE (by
   refine St.aS [(100,some 25)] z6 ?_ ?_ rfl
   ·exact ye
   ·exact⟨ay.same rfl rfl,ay.same rfl rfl,ay.row rfl rfl rfl (by rw[awy,zvc];rfl),trivial⟩)
 ·obtain rfl:m=n:=zE
  refine zg ?_;exact .ok (aA.mk2 (aj.tmp rfl) (aj.tmp rfl))
end
abbrev gI(zs:List Int):List Rat:=zs.map fun z:Int=>(z:Rat)
def adJ{r i k:Nat}(hl:zs.length=r*c)(hi:i < r)(hk:k < c):vat (gI zs) c i k=((zat zs c i k:Int):Rat):=by
 unfold vat;rw[zx7,zqa,qh hl hi hk];rfl
def ahw{r:Nat}{f:Nat->Nat->Rat}{g:Nat->Nat->Int}(h:∀i k,i < r->k < c->f i k=((g i k:Int):Rat)):ku c f r=gI (fJ c g r):=
 afm (by rw[zq5];exact dM r) fun i k hi hk=>by rw[zqa,ag9 hk hi,h i k hi hk];rfl
def abS{r:Nat}(hl:zs.length=r*c):aag r c (gI zs) (x:Rat)=gI (fJ c (fun i k=>zat zs c i k*x) r):=ahw fun i k hi hk=>by
 rw[adJ hl hi hk,Rat.intCast_mul]
def auB{r:Nat}{zs':List Int}(hl:zs.length=r*c)(hl':zs'.length=r*c):mAdd r c (gI zs) (gI zs')=gI (fJ c (fun i k=>zat zs c i k+zat zs' c i k) r):=ahw fun i k hi hk=>by
 rw[adJ hl hi hk,adJ hl' hi hk,Rat.intCast_add]
def xiL(A:List Int)(n:Nat)(x:Int):List Int:=fJ n (fun i k=>zat (fJ n (fun i k=>zat (flI n) n i k*x) n) n i k+zat (fJ n (fun i k=>zat A n i k*(-1)) n) n i k) n
def az1{n:Nat}:Ag n (xiL A n x) (xI (zat A n) x):=Ag.tab fun i k hi hk=>by
 rw[show zat (fJ n (fun i k=>zat (flI n) n i k*x) n) n i k=idZ i k*x from Ag.tab (g:=fun i k=>idZ i k*x) (fun i k hi hk=>by rw[Ag.I n i k hi hk]) i k hi hk,show zat (fJ n (fun i k=>zat A n i k*(-1)) n) n i k=zat A n i k*(-1)from Ag.tab (g:=fun i k=>zat A n i k*(-1)) (fun _ _ _ _=>rfl) i k hi hk]
 unfold xI
 grind
def apY{a b:Nat->Nat->Int}{n:Nat}(hn:n<=4)(h:∀i j,i < n->j < n->a i j=b i j):dn a n=dn b n:=by
 have hc:n=0\/n=1\/n=2\/n=3\/n=4:=zE
 rcases hc with rfl|rfl|rfl|rfl|rfl
 ·rfl
 ·exact h 0 0 zE zE
 ·simp only[dn,mn];rw[h 0 0 zE zE,h 0 1 zE zE,h 1 0 zE zE,h 1 1 zE zE]
 ·simp only[dn,mn,d3];rw[h 0 0 zE zE,h 0 1 zE zE,h 0 2 zE zE,h 1 0 zE zE,h 1 1 zE zE,h 1 2 zE zE,h 2 0 zE zE,h 2 1 zE zE,h 2 2 zE zE]
 ·simp only[dn,mn,d3];rw[h 0 0 zE zE,h 0 1 zE zE,h 0 2 zE zE,h 0 3 zE zE,h 1 0 zE zE,h 1 1 zE zE,h 1 2 zE zE,h 1 3 zE zE,h 2 0 zE zE,h 2 1 zE zE,h 2 2 zE zE,h 2 3 zE zE,h 3 0 zE zE,h 3 1 zE zE,h 3 2 zE zE,h 3 3 zE zE]
def axF(x:Rat):∀n,qdn x 1 n=x
 |0=>rfl
 |n+1=>by
  show qdn x 1 n / 1=x;rw[axF x n];grind
def aod{n:Nat}(hn:n<=4):ao7 n (gI zs)=((dn (zat zs n) n:Int):Rat):=by
 unfold ao7 aix;rw[ah9,ace,avv hn];exact axF _ n
def ar1{n:Nat}(hn:n<=4):ao7 n (gI (xiL A n x))=((zEv (jm A n) x (jm A n).length:Int):Rat):=by
 rw[aod hn,apY hn az1,aga hn (A:=A) (a:=zat A n) (fun _ _ _ _=>rfl),ch_ev hn]
def PRW(ws:List Wrd)(m:Nd):Prop:=∃w u,ws=w::u/\(∀r,hS (w::r) [45]=false)/\(∀r,hS (w::r) [41]=false)/\
 ∀(l:List Tok) f o r,hS r [40]=false->(w::(u++r)).length < f+1->o+2*dep m+1<=600->∀a,rst l a=w::(u++r)->qF 600 l (lev 600 l f).1 a o= .ok m (a+(u.length+1))
def PRW.pw{ws:List Wrd}{m:Nd}(h:PRW ws m):PW ws m:=by
 obtain⟨w,u,rfl,h1,_,h2⟩:=h;exact PW.prim h1 h2
def PRW.hd{ws:List Wrd}{m:Nd}(h:PRW ws m):HD ws [41]:=by
 obtain⟨w,u,rfl,_,h1,_⟩:=h;exact⟨w,u,rfl,h1⟩
def af6{t:List UInt8}(ht:tx 2 t=true)(c:UInt8)(hc:¬(97<=c.toNat/\c.toNat<=122))(r:List Wrd):hS ((2,t)::r) [c]=false:=by
 show (!decide ((2:Int)=1)&&decide (t=[c]))=false;simp[axy ht (c:=c) (m:=[]) hc]
def PRW.num(t:List UInt8):PRW [(1,t)] (nmN t):=⟨(1,t),[],rfl,fun r=>rfl,fun r=>rfl,fun l f o r _ _ _ a ha=>by
 rw[oM (w:=(1,t)) (r:=r) ha,if_pos rfl];rfl⟩
def PRW.nam{t:List UInt8}(ht:tx 2 t=true):PRW [(2,t)] (.mk 2 t []):=⟨(2,t),[],rfl,af6 ht 45 zc,af6 ht 41 zc,fun l f o r hr _ _ a ha=>by
 rw[oM (w:=(2,t)) (r:=r) ha,if_neg (show¬(2:Int)=1 by decide),ag5 ht,if_pos rfl,if_neg (by rw[hr];decide)];rfl⟩
def PRW.call{t:List UInt8}(ht:tx 2 t=true){ks:List WN}(hk:∀k∈ks,PW k.1 k.2/\HD k.1 [41]):PRW ((2,t)::sg [40]::(jW ks++[sg [41]])) (.mk 13 t (kN ks)):=
 ⟨(2,t),sg [40]::(jW ks++[sg [41]]),rfl,af6 ht 45 zc,af6 ht 41 zc,fun l f o r hr hf ho a h=>by
  have h:rst l a=(2,t)::sg [40]::(jW ks++sg [41]::r):=by rw[h];simp
  have hf:((2,t)::sg [40]::(jW ks++sg [41]::r)).length < f+1:=by simpa using hf
  rw[oM h,if_neg (show¬(2:Int)=1 by decide),ag5 ht,if_pos rfl,if_pos (by rfl)]
  have hL:=afd (l:=l) (f:=f) (o:=o+1) (e:=[41]) zc (ks:=ks) (a:=a+2) (r:=r) (fun k hkm=>⟨(hk k hkm).1,by have:=mh (o:=13) (t:=t) (show k.2∈kN ks from List.mem_map_of_mem hkm);omega,(hk k hkm).2⟩) (by simp only[zx6]at hf;omega) (jC (jC h))
  refine afJ zE ?_
  show jf _ (jV l (lev 600 l f).1 [41] (a+2) (o+1))=_;rw[hL];show Res.ok _ _=_
  congr 1;simp;omega⟩
def PRW.un{ws:List Wrd}{m:Nd}(h:PRW ws m){l:List Tok}{f o a:Nat}{r:List Wrd}(h1:hS r [40]=false)(h2:hS r [91]=false)(h3:hS r [94]=false)(hf:(ws++r).length < f+1)(ho:o+2*dep m+1<=600)(ha:rst l a=ws++r):
  unG 600 l (lev 600 l f).1 (lev 600 l f).2 a o= .ok m (a+ws.length)/\rst l (a+ws.length)=r:=by
 obtain⟨w,u,rfl,g1,_,g2⟩:=h;have hend:=jJ ha;have hp:=g2 l f o r h1 (by simpa using hf) ho a (by simpa using ha)
 have hlen:(w::u).length=u.length+1:=rfl;rw[hlen]at hend ⊢;exact⟨adz hp (by rw[ha];exact g1 _) (by rw[hend];exact h2) (by rw[hend];exact h3),hend⟩
def PW.eqP{w1 w2:List Wrd}(h1:PRW w1 m1)(h2:PRW w2 m2):PW (w1++sg [61,61]::w2) (.mk 9 [] [m1,m2]):=fun l f o r hr hf ho a ha=>by
 have ha:rst l a=w1++sg [61,61]::(w2++r):=by rw[ha];simp
 have hlen:(w1++sg [61,61]::w2++r).length=w1.length+1+(w2++r).length:=by simp;omega
 rw[hlen]at hf;obtain⟨f,rfl⟩:∃k,f=k+1:=⟨f - 1,zE⟩
 have d1:=mh (o:=9) (t:=[]) (k:=m1) (ks:=[m1,m2]) zp
 have d2:=mh (o:=9) (t:=[]) (k:=m2) (ks:=[m1,m2]) zp
 obtain⟨u1,e1⟩:=h1.un (l:=l) (f:=f) (o:=o) (a:=a) (r:=sg [61,61]::(w2++r)) rfl rfl rfl (by simp at hf ⊢;omega) zE ha
 have e1':=jC e1;obtain⟨u2,e2⟩:=h2.un (l:=l) (f:=f) (o:=o) (a:=a+w1.length+1) (r:=r) (hr _ zc) (hr _ zc) (hr _ zc) zE zE e1'
 have s1:oK l (unG 600 l (lev 600 l f).1 (lev 600 l f).2) a o= .ok m1 (a+w1.length):=mY (mY u1 (by rw[e1];rfl) (by rw[e1];rfl)) (by rw[e1];rfl) (by rw[e1];rfl)
 have s2:oK l (unG 600 l (lev 600 l f).1 (lev 600 l f).2) (a+w1.length+1) o= .ok m2 (a+w1.length+1+w2.length):=mY (mY u2 (by rw[e2];exact hr _ zc) (by rw[e2];exact hr _ zc)) (by rw[e2];exact hr _ zc) (by rw[e2];exact hr _ zc)
 show wS l (unG 600 l (lev 600 l f).1 (lev 600 l f).2) a o=_;unfold wS;rw[s1];show (if isS l (a+w1.length) [61,61]then _ else _)=_
 rw[bK,e1,if_pos (by rfl),s2]
 show Res.ok _ _=_
 congr 1;simp;omega
def PW.ajt{w1 w2 w3:List Wrd}{m3:Nd}(h1:PRW w1 m1)(h2:PRW w2 m2)(h3:PRW w3 m3):PW (w1++sg [42]::(w2++sg [45]::w3)) (.mk 5 [] [.mk 6 [] [m1,m2],m3]):=fun l f o r hr hf ho a ha=>by
 have ha:rst l a=w1++sg [42]::(w2++sg [45]::(w3++r)):=by rw[ha];simp
 have hlen:(w1++sg [42]::(w2++sg [45]::w3)++r).length=w1.length+1+(w2.length+1+(w3++r).length):=by simp;omega
 rw[hlen]at hf;obtain⟨f,rfl⟩:∃k,f=k+1:=⟨f - 1,zE⟩
 have d0:=mh (o:=5) (t:=[]) (k:= .mk 6 [] [m1,m2]) (ks:=[.mk 6 [] [m1,m2],m3]) zp
 have d1:=mh (o:=6) (t:=[]) (k:=m1) (ks:=[m1,m2]) zp
 have d2:=mh (o:=6) (t:=[]) (k:=m2) (ks:=[m1,m2]) zp
 have d3:=mh (o:=5) (t:=[]) (k:=m3) (ks:=[.mk 6 [] [m1,m2],m3]) zp
 obtain⟨u1,e1⟩:=h1.un (l:=l) (f:=f) (o:=o) (a:=a) (r:=sg [42]::(w2++sg [45]::(w3++r))) rfl rfl rfl (by simp at hf ⊢;omega) zE ha
 have e1':=jC e1;obtain⟨u2,e2⟩:=h2.un (l:=l) (f:=f) (o:=o) (a:=a+w1.length+1) (r:=sg [45]::(w3++r)) rfl rfl rfl (by simp at hf ⊢;omega) zE e1'
 have e2':=jC e2;obtain⟨u3,e3⟩:=h3.un (l:=l) (f:=f) (o:=o) (a:=a+w1.length+1+w2.length+1) (r:=r) (hr _ zc) (hr _ zc) (hr _ zc) zE zE e2'
 have p1:zl l (unG 600 l (lev 600 l f).1 (lev 600 l f).2) a o= .ok (.mk 6 [] [m1,m2]) (a+w1.length+1+w2.length):=alT u1 (by rw[e1];rfl) u2 (by rw[e2];rfl) (by rw[e2];rfl)
 have p2:zl l (unG 600 l (lev 600 l f).1 (lev 600 l f).2) (a+w1.length+1+w2.length+1) o= .ok m3 (a+w1.length+1+w2.length+1+w3.length):=mY u3 (by rw[e3];exact hr _ zc) (by rw[e3];exact hr _ zc)
 have s1:oK l (unG 600 l (lev 600 l f).1 (lev 600 l f).2) a o= .ok (.mk 5 [] [.mk 6 [] [m1,m2],m3]) (a+w1.length+1+w2.length+1+w3.length):=aiB p1 (by rw[e2];rfl) (by rw[e2];rfl) p2 (by rw[e3];exact hr _ zc) (by rw[e3];exact hr _ zc)
 have hx:=acO s1 (by rw[e3];exact hr _ zc) (by rw[e3];exact hr _ zc) (by rw[e3];exact hr _ zc) (by rw[e3];exact hr _ zc)
 show wS l (unG 600 l (lev 600 l f).1 (lev 600 l f).2) a o=_;rw[hx]
 congr 1;simp;omega
def sg42:sgc 42=true:=by unfold sgc wrd sg1 srt;decide
def kI:nam [107]=true/\nam jU=true/\nam pU=true/\nam ad9=true/\nam [100,101,116]=true/\nam zV=true:=by
 refine⟨?_,?_,?_,?_,?_,?_⟩ <;> (unfold nam run wrd srt;decide)
def adW{t:List UInt8}(h:nam t=true)(h2:ownB t=false):tx 2 t=true:=by
 unfold tx iZ;rw[h2];simp[h]
def tx_k:tx 2 [107]=true:=adW kI.1 rfl
def auV:tx 2 jU=true:=adW kI.2.1 rfl
def azG:tx 2 pU=true:=adW kI.2.2.1 rfl
def a0d:tx 2 ad9=true:=adW kI.2.2.2.1 rfl
def azU:tx 2 [100,101,116]=true:=adW kI.2.2.2.2.1 rfl
def ay1:tx 2 zV=true:=adW kI.2.2.2.2.2 rfl
def aw4:tx 2 [109,111,100]=true:=adW yT.2.2 rfl
def NW.sg{c:UInt8}(h:sgc c=true)(r:List UInt8):NW (c::r):=aoX (aik h)
abbrev wF(t:List UInt8)(ks:List WN):List Wrd:=(2,t)::sg [40]::(jW ks++[sg [41]])
structure PT(s:List UInt8)(ws:List Wrd)(m:Nd):Prop where
 lv:LV s ws
 pr:PRW ws m
def PT.num{t:List UInt8}(h:num t=true):PT t [(1,t)] (nmN t):=⟨LV.num h,PRW.num t⟩
def avL{t:List UInt8}(h:nam t=true):LV t [(2,t)]:=fun r rw hr h2=>dH.nam h hr h2
def ar3{t:List UInt8}(h:nam t=true)(h2:tx 2 t=true):PT t [(2,t)] (.mk 2 t []):=⟨avL h,PRW.nam h2⟩
structure AT(s:List UInt8)(ws:List Wrd)(m:Nd):Prop where
 lv:LV s ws
 pw:PW ws m
 hd:HD ws [41]
def PT.at{ws:List Wrd}{m:Nd}(h:PT s ws m):AT s ws m:=⟨h.lv,h.pr.pw,h.pr.hd⟩
def uS{t:List UInt8}{ws:List Wrd}{m:Nd}(hn:nam t=true)(ht:tx 2 t=true)(h:AT s ws m):PT (t++40::(s++[41])) (wF t [(ws,m)]) (.mk 13 t [m]):=
 ⟨LV.nam hn eP.2.2.2.2.2.2.1 (LV.end h.lv eP.2.2.2.2.2.2.2.1),PRW.call ht (ks:=[(ws,m)]) fun k hk=>by
  rw[zxi]at hk;subst hk;exact⟨h.pw,h.hd⟩⟩
def ahK{t s':List UInt8}{ws ws':List Wrd}{m m':Nd}(hn:nam t=true)(ht:tx 2 t=true)(h:AT s ws m)(h':AT s' ws' m'):PT (t++40::(s++44::32::(s'++[41]))) (wF t [(ws,m),(ws',m')]) (.mk 13 t [m,m']):=
 ⟨by
  have e:=LV.nam hn eP.2.2.2.2.2.2.1 (LV.midB h.lv eP.2.2.1 (LV.end h'.lv eP.2.2.2.2.2.2.2.1));have e2:wF t [(ws,m),(ws',m')]=(2,t)::sg [40]::(ws++sg [44]::(ws'++[sg [41]])):=by
   show (2,t)::sg [40]::((ws++sg [44]::ws')++[sg [41]])=_;simp
  rw[e2];exact e,PRW.call ht (ks:=[(ws,m),(ws',m')]) fun k hk=>by
  rcases zy3.1 hk with rfl|hk
  ·exact⟨h.pw,h.hd⟩
  ·rw[zxi]at hk;subst hk;exact⟨h'.pw,h'.hd⟩⟩
def AT.ajt{s1 s2 s3:List UInt8}{w1 w2 w3:List Wrd}{m1 m2 m3:Nd}(h1:PT s1 w1 m1)(h2:PT s2 w2 m2)(h3:PT s3 w3 m3):AT (s1++32::42::32::(s2++32::45::32::s3)) (w1++sg [42]::(w2++sg [45]::w3)) (.mk 5 [] [.mk 6 [] [m1,m2],m3]):=
 ⟨fun r rw hr h=>by
  have a3:=h3.lv r rw hr h;have a2:=h2.lv (32::45::32::(s3++r)) _ (aoO _) (dH.sp yP (dH.sg eP.1 (dH.sp yP a3)));have a1:=h1.lv (32::42::32::(s2++32::45::32::(s3++r))) _ (aoO _) (dH.sp yP (dH.sg sg42 (dH.sp yP a2)));simpa using a1,PW.ajt h1.pr h2.pr h3.pr,by
  obtain⟨w,u,e,_,h4,_⟩:=h1.pr;exact⟨w,u++sg [42]::(w2++sg [45]::w3),by rw[e];rfl,h4⟩⟩
abbrev tEq(s1 s2:List UInt8):List UInt8:=s1++32::61::61::32::(s2++[59])
abbrev wEq(w1 w2:List Wrd):List Wrd:=(w1++sg [61,61]::w2)++[sg [59]]
def azT{w1 w2:List Wrd}(h1:LV s1 w1)(h2:LV s2 w2):dH (tEq s1 s2) (wEq w1 w2):=by
 have a1:dH [59] [sg [59]]:=dH.sg eP.2.2.2.1 (.nil List.drop_nil);have a2:=h2 [59] _ (NW.sg eP.2.2.2.1 []) a1;have a3:=h1 (32::61::61::32::(s2++[59])) _ (aoO _) (dH.sp yP (dH.eq2 (dH.sp yP a2)));simpa using a3
abbrev qw(s kq e:List UInt8):List UInt8:=[120,32,61,32]++(s++([59,32,107,32,61,32]++(kq++([59,32]++e))))
def auw{e:List UInt8}{ws wk we:List Wrd}(h1:LV s ws)(h2:LV kq wk)(h3:dH e we):dH (qw s kq e) ((2,[120])::sg [61]::(ws++sg [59]::(2,[107])::sg [61]::(wk++sg [59]::we))):=by
 have a2:=h2 (59::32::e) _ (NW.sg eP.2.2.2.1 _) (dH.sg eP.2.2.2.1 (dH.sp yP h3));have a3:dH ([59,32,107,32,61,32]++(kq++(59::32::e))) (sg [59]::(2,[107])::sg [61]::(wk++sg [59]::we)):=dH.sg eP.2.2.2.1 (dH.sp yP (dH.nam (w:=[107]) kI.1 (aoO _) (dH.sp yP (dH.asg (dH.sp yP a2)))));have a4:=h1 _ _ (NW.sg eP.2.2.2.1 _) a3;exact dH.nam (w:=[120]) aqV (aoO _) (dH.sp yP (dH.asg (dH.sp yP a4)))
abbrev xN:Nd:= .mk 2 [120] []
abbrev kNd:Nd:= .mk 2 [107] []
def pt_x:PT [120] [(2,[120])] xN:=ar3 aqV tx_x
def pt_k:PT [107] [(2,[107])] kNd:=ar3 kI.1 tx_k
abbrev aoz:List UInt8:=jU++40::([120]++[41])
abbrev wChr:List Wrd:=wF jU [([(2,[120])],xN)]
def ase:PT aoz wChr (.mk 13 jU [xN]):=uS kI.2.1 auV pt_x.at
abbrev nE1:Nd:= .mk 13 ad9 [.mk 13 jU [xN],kNd]
abbrev tE1:List UInt8:=ad9++40::(aoz++44::32::([107]++[41]))
def pt_e1:PT tE1 (wF ad9 [(wChr,.mk 13 jU [xN]),([(2,[107])],kNd)]) nE1:=ahK kI.2.2.2.1 a0d ase.at pt_k.at
abbrev nE2(d:List UInt8):Nd:= .mk 13 [100,101,116] [.mk 5 [] [.mk 6 [] [kNd,.mk 13 pU [nmN d]],xN]]
abbrev tE2(d:List UInt8):List UInt8:=[100,101,116]++40::(([107]++32::42::32::((pU++40::(d++[41]))++32::45::32::[120]))++[41])
abbrev wE2(d:List UInt8):List Wrd:=wF [100,101,116] [([(2,[107])]++sg [42]::(wF pU [([(1,d)],nmN d)]++sg [45]::[(2,[120])]),.mk 5 [] [.mk 6 [] [kNd,.mk 13 pU [nmN d]],xN])]
def pt_e2{d:List UInt8}(hd:num d=true):PT (tE2 d) (wE2 d) (nE2 d):=
 uS kI.2.2.2.2.1 azU (AT.ajt pt_k (uS kI.2.2.1 azG (PT.num hd).at) pt_x)
abbrev nMx(p:List UInt8)(m:Nd):Nd:= .mk 13 [109,111,100] [m,nmN p]
abbrev tMx(p s:List UInt8):List UInt8:=[109,111,100]++40::(s++44::32::(p++[41]))
abbrev wMx(p:List UInt8)(ws:List Wrd)(m:Nd):List Wrd:=wF [109,111,100] [(ws,m),([(1,p)],nmN p)]
def ag6{p:List UInt8}{ws:List Wrd}{m:Nd}(hp:num p=true)(h:PT s ws m):PT (tMx p s) (wMx p ws m) (nMx p m):=ahK yT.2.2 aw4 h.at (PT.num hp).at
def axi{s kq:List UInt8}{ws wk w1 w2:List Wrd}{m mk:Nd}(h1:PW ws m)(h2:PW wk mk)(p1:PT s1 w1 m1)(p2:PT s2 w2 m2)(d1:dep m<=190)(d2:dep mk<=190)(d3:dep m1<=150)(d4:dep m2<=150)(hx:HX (w1++sg [61,61]::w2)):
  SW ((2,[120])::sg [61]::(ws++[sg [59]])) (.mk 18 [120] [m])/\SW ((2,[107])::sg [61]::(wk++[sg [59]])) (.mk 18 [107] [mk])/\SW (wEq w1 w2) (.mk 19 [] [.mk 9 [] [m1,m2]]):=by
 refine⟨SW.set tx_x h1 zE,SW.set tx_k h2 zE,SW.show (PW.eqP p1.pr p2.pr) ?_ hx⟩
 have:=lu (o:=9) (t:=[]) (ks:=[m1,m2]) (d:=150) fun n hn=>by
  rcases zy3.1 hn with rfl|hn
  ·exact d3
  ·rw[zxi]at hn;subst hn;exact d4
 omega
section
def vS{x:Nat}(h:x<=1000000000):(aQ x).length<=21:=by
 have:=gH (x:=x) (k:=1) (by rw[zxh,bf];omega)
 omega
def agW{s:UInt8}{m:Nat}:∀{l:List (List UInt8)},(∀x∈l,x.length<=m)->(jn s l).length<=l.length*(m+2)
 |[],_=>zq8 _
 |[a],h=>by
  have:=h a zp
  show a.length<=1*(m+2);omega
 |a::b::l,h=>by
  have h1:=h a zp
  have h2:=agW (s:=s) (m:=m) (l:=b::l) fun x hx=>h x (zy2 _ hx)
  show (a++(s::32::jn s (b::l))).length<=((b::l).length+1)*(m+2);rw[zqi,zx6,zx6,zv8];omega
def aqT{c m:Nat}:∀{r:Nat} {l:List (List UInt8)},(∀x∈l,x.length<=m)->∀x∈(chk c r l).map (jn 44),x.length<=c*(m+2)
 |0,_,_=>fun x hx=>by cases hx
 |r+1,l,h=>fun x hx=>by
  have hx:x∈jn 44 (l.take c)::(chk c r (l.drop c)).map (jn 44):=hx;rcases zy3.1 hx with rfl|hx
  ·have h1:=agW (s:=44) (m:=m) (l:=l.take c) fun x hx=>h x (zv3 hx)
   exact zxf h1 (zx1 _ (by rw[zx3];omega))
  ·exact aqT (fun x hx=>h x (zw9 hx)) x hx
def am2{α:Type}{c:Nat}:∀{r:Nat} {l:List α},(chk c r l).length=r
 |0,_=>rfl
 |r+1,l=>by
  show (chk c r (l.drop c)).length+1=r+1;rw[am2]
def agN{r m:Nat}{l:List (List UInt8)}(hr:r<=64)(hc:c<=64)(h:∀x∈l,x.length<=m):(tbS r c l).length<=60+r*(c*(m+2)+2):=by
 have d1:=vS (x:=r) zE
 have d2:=vS (x:=c) zE
 unfold tbS
 split
 ·simp only[zqi,zx6,List.length_nil];omega
 ·have h1:=agW (s:=59) (m:=c*(m+2)) (l:=(chk c r l).map (jn 44)) (aqT h);rw[zq5,am2]at h1;rw[zx6,zqi];simp only[zx6,List.length_nil];omega
def auo{m:Nat}{l:List (List UInt8)}(h:∀x∈l,x.length<=m):(plS l).length<=6+l.length*(m+2):=by
 have h1:=agW (s:=44) h;unfold plS;simp only[zqi,zx6,List.length_nil];omega
def rF{z:Int}(h:z.natAbs < WB ^ K):(zS z).length<=20*K+2:=by
 have d:=gH h;unfold zS
 split
 ·rw[zx6];omega
 ·omega
def abE(z:Int):qS ((z:Int):Rat)=zS z:=by rw[wH,if_pos (Rat.den_intCast _),Rat.num_intCast]
def nQ(h:∀z∈zs,z.natAbs < WB ^ K)(h1:1<=K):∀v∈gI zs,RB v K:=fun v hv=>by
 obtain⟨z,hz,rfl⟩:=zqg.1 hv;exact RB.ofI (h z hz) h1
def asJ{n:Nat}(hn:n<=4)(hK:K<=90)(h:∀z∈zs,z.natAbs < WB ^ K):(tbS n n ((gI zs).map qS)).length<=60+4*(4*(20*K+4)+2):=by
 have h1:=agN (r:=n) (c:=n) (m:=20*K+2) (l:=(gI zs).map qS) zE zE (fun x hx=>by
  obtain⟨v,hv,rfl⟩:=zqg.1 hx;obtain⟨z,hz,rfl⟩:=zqg.1 hv;rw[abE];exact rF (h z hz))
 have h2:=zxd hn (Nat.add_le_add_right (zx1 (20*K+2+2) hn) 2);omega
attribute [local irreducible] IntKind.wrap Go1 Reg WP aK aN bD aZ aJ aA aj ak aT Sat
attribute [local irreducible] jn aQ qS zS tbS plS fP
def BL.tri{n n' n3:Nd}{k k' k3:Nat}{σ σ1 σ2 σ':Ms}(h:ST B n k σ σ1)(h':ST B n' k' σ1 σ2)(h3:ST B n3 k3 σ2 σ'):BL B [n,n',n3] (k+(k'+k3)) σ σ':=by
 have:=amc B [n,n',n3] [k,k',k3] (fun i=>if i=0 then σ else if i=1 then σ1 else if i=2 then σ2 else σ') rfl (zqc rfl) (fun i m l h1 h2=>by
  match i,h1,h2 with
  |0,h1,h2=>cases h1;cases h2;exact h
  |1,h1,h2=>cases h1;cases h2;exact h'
  |2,h1,h2=>cases h1;cases h2;exact h3)
 simpa using this
def acj{w1 w2:List Wrd}{V W:Vl}{kv:Int}{d c' d' q1 q2 n:Nat}(hB:64000<=B)(hB0:B<=1000000000)(hs:RD B s V c d)(hk:RD B kq (vI kv) c' d')(hd:d<=190)(hd':d'<=190)(hls:s.length<=9000)(hlk:kq.length<=1000)(hl1:s1.length<=1000)(hl2:s2.length<=1000)(p1:PT s1 w1 m1)(p2:PT s2 w2 m2)(d1:dep m1<=150)(d2:dep m2<=150)(hx:HX (w1++sg [61,61]::w2))(hc:c<=20)(hc':c'<=20)(hq1:q1<=300000)(hq2:q2<=300000)(e1:EX B (fP (fP [] [120] V) [107] (vI kv)) m1 q1 W)(e2:EX B (fP (fP [] [120] V) [107] (vI kv)) m2 q2 W)(hW:Cv K n W)(hK:K<=90)(hn:n<=15):
  ah prog 11 [.v (str (qw s kq (tEq s1 s2))),.agg (acX 1000000 B 200)] (.tup [.one (.c (.val (str [49,10]))),eNo 0]):=by
 obtain⟨ws,m,k,lv,pw,_,hdp,hkc,hex,_⟩:=hs.h;obtain⟨wk,mk,k',lv',pw',_,hdp',hkc',hex',_⟩:=hk.h;have hL:=auw lv lv' (azT p1.lv p2.lv);obtain⟨S1,S2,S3⟩:=axi (s:=s) (kq:=kq) pw pw' p1 p2 zE zE d1 d2 hx
 have da:dep (.mk 18 [120] [m])<=191:=lu (d:=190) fun n hn=>by
  rw[zxi]at hn;subst hn;omega
 have db:dep (.mk 18 [107] [mk])<=191:=lu (d:=190) fun n hn=>by
  rw[zxi]at hn;subst hn;omega
 have dc:dep (.mk 9 [] [m1,m2])<=151:=lu (d:=150) fun n hn=>by
  rcases zy3.1 hn with rfl|hn
  ·exact d1
  ·rw[zxi]at hn;subst hn;exact d2
 have dd:dep (.mk 19 [] [.mk 9 [] [m1,m2]])<=191:=zxf (lu (d:=151) fun n hn=>by
  rw[zxi]at hn;subst hn;exact dc) zc
 have hlen:(qw s kq (tEq s1 s2)).length=s.length+kq.length+s1.length+s2.length+17:=by
  show ([120,32,61,32]++(s++([59,32,107,32,61,32]++(kq++([59,32]++(s1++32::61::61::32::(s2++[59]))))))).length=_;simp;omega
 obtain⟨ts,f1,f2,f3⟩:=aci (s:=qw s kq (tEq s1 s2)) (ks:=[((2,[120])::sg [61]::(ws++[sg [59]]),.mk 18 [120] [m]),((2,[107])::sg [61]::(wk++[sg [59]]),.mk 18 [107] [mk]),(wEq w1 w2,.mk 19 [] [.mk 9 [] [m1,m2]])]) (by simpa using hL) zE (fun k hk=>by
  rcases zy3.1 hk with rfl|hk
  ·exact⟨S1,by simp⟩
  ·rcases zy3.1 hk with rfl|hk
   ·exact⟨S2,by simp⟩
   ·rw[zxi]at hk;subst hk;exact⟨S3,by simp;omega⟩) (zxf (xU (d:=191) fun n hn=>by
   rcases zy3.1 hn with rfl|hn
   ·exact da
   ·rcases zy3.1 hn with rfl|hn
    ·exact db
    ·have e:=zxi.1 hn;subst e;exact dd) zc)
 have t1:=ST.set (nm:=[]) (la:=v0) (tx:=[]) (n:= .mk 18 [120] [m]) rfl rfl (hex []);have t2:=ST.set (nm:=fP [] [120] V) (la:=v0) (tx:=[]) (n:= .mk 18 [107] [mk]) rfl rfl (hex' _);have hb1:(1:Int).natAbs < WB ^ 1:=by rw[zxh,bf];decide
 obtain⟨y,hy1,hy2⟩:=VI.num (B:=B) (K:=1) hB (zq6 1) zc (RB.ofI (z:=1) hb1 (zq6 1))
 have ey:(qS ((1:Int):Rat)).length=1:=by
  rw[wH,if_pos (Rat.den_intCast _),Rat.num_intCast];exact congrArg List.length ((qg 1).trans alq)
 have hF1:=hW.F zE hn
 have cS:=atK zE n n W W hW hW
 rw[akW]at cS;have cB:ah prog 201 [.v (.int .i64 9),.agg (vlA W),.agg (vlA W)] (.tup [.agg (vlA (eY ((1:Int):Rat))),eNo 0]):=arL hF1 hF1 cS;have hee:=EX.opr hB0 (n:= .mk 9 [] [m1,m2]) ⟨fun h=>by have h':(9:Int)=1:=h;omega,fun h=>by have h':(9:Int)=2:=h;omega,fun h=>by have h':(9:Int)=14:=h;omega⟩ (AL.two e1 e2) (ad8 (n:= .mk 9 [] [m1,m2]) ⟨show (4:Int)<=9 by decide,show (9:Int)<=12 by decide⟩ cB) hy2
 have t3:=ST.show (la:=v0) (tx:=[]) (n:= .mk 19 [] [.mk 9 [] [m1,m2]]) rfl rfl hee a0i zc
 have hbl:=BL.tri t1 t2 t3;have b1:=zxd hc hls;have b2:=zxd hc' hlk;obtain⟨F,hF⟩:∃F,1000000=F+(k+1+(k'+1+(y+(q1+q2)+1+1))):=⟨1000000 - (k+1+(k'+1+(y+(q1+q2)+1+1))),zE⟩
 have cp:=adn (F:=F+(k+1+(k'+1+(y+(q1+q2)+1+1)))) (B:=B) (D:=200) (zq6 _) zE f1 f2 f3
 have h:=al5 cp hbl zE zp
 rw[<-hF]at h;simpa using h
end
section
def az4(V:Vl)(w:Vl):iC (fP (fP [] [120] V) [107] w) [120]=some V:=by
 show iC (fP [([120],V)] [107] w) [120]=_;unfold fP;rw[if_neg zc]
 unfold iC;rw[if_pos rfl]
def azK(V:Vl)(w:Vl):iC (fP (fP [] [120] V) [107] w) [107]=some w:=by
 show iC (fP [([120],V)] [107] w) [107]=_;unfold fP;rw[if_neg zc]
 unfold iC;rw[if_neg zc];rfl
def flB4{n:Nat}(hn:n<=4):flB 1 n (n+1)<=56:=by
 unfold flB;have:=zxd (show n+1<=5 by omega) (show 1+2*n+2<=11 by omega)
 omega
def abv{n:Nat}(hA:A.length=n*n)(bA:∀z∈A,z.natAbs < WB ^ 1)(hn:n<=4):∀z∈jm A n,z.natAbs < WB ^ 56:=fun z hz=>by
 unfold jm at hz;have h1:=an9 z hz;unfold xg at h1;obtain⟨m,_,rfl⟩:=zqg.1 h1;exact wJ (arE hA bA n m) (flB4 hn)
def uz{n:Nat}(hn:n<=4):(jm A n).length=n+1:=by
 rw[aga hn (A:=A) (a:=zat A n) (fun _ _ _ _=>rfl),agC]
def ag1{n:Nat}:pN (jm A n):=acU _
def vU(n:Nat):(flI n).length=n*n:=dM n
def a0h{n:Nat}(hA:A.length=n*n)(bA:∀z∈A,z.natAbs < WB ^ 1)(hx:x.natAbs < WB ^ 1):∀z∈xiL A n x,z.natAbs < WB ^ 3:=nM fun i k hi hk=>by
 have h1:(-1:Int).natAbs < WB ^ 1:=by rw[zxh,bf];decide
 exact add_lt (ng (dM n) (nM fun i k hi hk=>kG (ng (vU n) sD hi hk) hx) hi hk) (ng (dM n) (nM fun i k hi hk=>kG (ng hA bA hi hk) h1) hi hk)
def axX{n:Nat}(hl:zs.length=n*n)(h:∀z∈zs,z.natAbs < WB ^ K)(hx:x.natAbs < WB ^ 1):∀z∈fJ n (fun i k=>zat zs n i k*x) n,z.natAbs < WB ^ (K+1):=nM fun i k hi hk=>kG (ng hl h hi hk) hx
def kz4{n:Nat}(hn:n<=4):kz (3+(1+16*3)) n<=1000:=by
 have hc:n=0\/n=1\/n=2\/n=3\/n=4:=zE
 rcases hc with rfl|rfl|rfl|rfl|rfl <;> decide
def axU:∀(n:Nat) {a b:Nat},a<=b->kz a n<=kz b n
 |0,a,b,h=>h
 |n+1,a,b,h=>axU n (show 2*a+1<=2*b+1 by omega)
attribute [local irreducible] IntKind.wrap Go1 Reg WP aK aN bD aZ aJ aA aj ak aT Sat
attribute [local irreducible] zS tS iC fP jm flI xiL
section
variable{B n:Nat}{A:List Int}(hB:64000<=B)(hA:A.length=n*n)(bA:∀z∈A,z.natAbs < WB ^ 1)(hn:n<=4)
include hB hA bA hn
theorem ade(hl:zs.length=n*n)(h:∀z∈zs,z.natAbs < WB ^ K)(h1:1<=K)(hK:K<=90):∃s:Nat,s<=40000/\VI B s (dW n n (gI zs)):=by
 have ht:=asJ (n:=n) hn hK h;have hlt:(tS (dW n n (gI zs))).length<=40000:=by rw[sH];omega
 obtain⟨s,h2,h3⟩:=VI.of (B:=B) (K:=K) (Cv.one (n:=0) (.mat n n (gI zs) (by rw[zq5];exact hl) zE zE (nQ h h1))) zE zc zE hB
 exact⟨s,zE,h3⟩
theorem a0c:∃s:Nat,s<=40000/\VI B s (gP (jm A n)):=by
 have hb:=abv hA bA hn;have hl:=uz (A:=A) hn;have ht:=auo (m:=20*56+2) (l:=(jm A n).map zS) fun x hx=>by
  obtain⟨z,hz,rfl⟩:=zqg.1 hx;exact rF (hb z hz)
 rw[zq5,hl]at ht;have h2:=zx1 (20*56+2+2) (show n+1<=5 by omega)
 have hlt:(tS (gP (jm A n))).length<=40000:=by rw[ak2];omega
 obtain⟨s,h3,h4⟩:=VI.of (B:=B) (K:=56) (Cv.one (n:=0) (.pol (jm A n) zE ag1 hb)) zc zc zE hB
 exact⟨s,zE,h4⟩
end
end
end Go.Proofs.YtcamgbgfelmbaaaGreatDoor
namespace Go.Proofs.YtcamgbgfelmbaaaGreatDoor
open Go.RowKit QM SX LA
def opn{x:Int}(h1:x≠1)(h2:x≠2)(h3:x≠14):¬x=1/\¬x=2/\¬x=14:=⟨h1,h2,h3⟩
attribute [local irreducible] IntKind.wrap Go1 Reg WP aK aN bD aZ aJ aA aj ak aT Sat
attribute [local irreducible] aQ fP jm flI xiL zEv
def af2{n K:Nat}{zs:List Int}(hn:n<=4)(hl:zs.length=n*n)(h:∀z∈zs,z.natAbs < WB ^ K)(h1:1<=K)(hK:K<=90):ah prog 44 [.agg (vlA (dW n n (gI zs)))] (.v (.bool true)):=
 (Cv.one (n:=0) (.mat n n (gI zs) (by rw[zq5];exact hl) zE zE (nQ h h1):Sh K _)).F zE zc
section
variable{B n:Nat}{A:List Int}{x:Int}(hB:64000<=B)(hB0:B<=1000000000)(hA:A.length=n*n)(bA:∀z∈A,z.natAbs < WB ^ 1)(hn:n<=4)(hx:x.natAbs<=32768)
include hB hB0 hA bA hn
theorem ex_x{w:Vl}:∃q:Nat,q<=40001/\EX B (fP (fP [] [120] (iJ n n A)) [107] w) xN q (iJ n n A):=by
 obtain⟨s,h1,h2⟩:=ade hB hA bA hn hA bA (zq6 1) zc
 exact⟨s+1,zE,EX.name hB0 (n:=xN) rfl (az4 _ _) h2⟩
theorem arY{w:Vl}:∃q:Nat,q<=80002/\EX B (fP (fP [] [120] (iJ n n A)) [107] w) (.mk 13 jU [xN]) q (gP (jm A n)):=by
 obtain⟨q,h1,h2⟩:=ex_x (w:=w) hB hB0 hA bA hn;obtain⟨s,h3,h4⟩:=a0c hB hA bA hn;have h5:=zxd hn hn;exact⟨s+q+1,zE,EX.opr hB0 (n:= .mk 13 jU [xN]) (opn (x:=13) zc zc zc) (AL.one h2) (nO (n:= .mk 13 jU [xN]) rfl (aqF hA bA zE (by have:=flB4 hn;omega) (zq6 1) zE)) h4⟩
include hx
theorem ex_k{V:Vl}:EX B (fP (fP [] [120] V) [107] (vI x)) kNd 2 (vI x):=by
 have hb:x.natAbs < WB ^ 1:=by rw[zxh,bf];omega
 obtain⟨s,h1,h2⟩:=VI.num (B:=B) (K:=1) hB (zq6 1) zc (RB.ofI hb (zq6 1))
 have h3:VI B 1 (vI x):=⟨h2.n,h2.b,aaj (vI x) (fun _=>0) ⟨fun h=>by have h':(1:Int)=2:=h;omega,fun h=>by have h':(1:Int)=3:=h;omega,fun h=>by have h':(1:Int)=4:=h;omega,fun h=>by have h':(1:Int)=5:=h;omega⟩ (zq8 _) (zq8 _) (fun x hx=>by cases hx)⟩
 exact EX.name hB0 (n:=kNd) rfl (azK _ _) h3
abbrev evZ(A:List Int)(n:Nat)(x:Int):Int:=zEv (jm A n) x (jm A n).length
theorem atC:(evZ A n x).natAbs < WB ^ 66:=by
 have hb:x.natAbs < WB ^ 1:=by rw[zxh,bf];omega
 have h:=agO (abv hA bA hn) hb (jm A n).length;refine wJ h ?_;rw[uz hn];omega
theorem ax3:∃s:Nat,s<=4000/\VI B s (vI (evZ A n x)):=by
 have h:=atC hB hB0 hA bA hn hx;obtain⟨s,h1,h2⟩:=VI.num (B:=B) (K:=66) hB zc zc (RB.ofI h zc)
 rw[abE]at h1;have h3:=rF h;exact⟨s,zE,h2⟩
theorem ex_e1:∃q:Nat,q<=90000/\EX B (fP (fP [] [120] (iJ n n A)) [107] (vI x)) nE1 q (vI (evZ A n x)):=by
 have hb:x.natAbs < WB ^ 1:=by rw[zxh,bf];omega
 obtain⟨q,h1,h2⟩:=arY (w:=vI x) hB hB0 hA bA hn;have h3:=ex_k (V:=iJ n n A) hB hB0 hA bA hn hx;obtain⟨s,h4,h5⟩:=ax3 hB hB0 hA bA hn hx;exact⟨s+(q+2)+1,zE,EX.opr hB0 (n:=nE1) (opn (x:=13) zc zc zc) (AL.two h2 h3) (nO (n:=nE1) rfl (aoU (abv hA bA hn) zc zc ag1 (by rw[uz hn];omega) hb (zq6 1) zc)) h5⟩
theorem ex_id{w:Vl}{V:Vl}:∃q:Nat,q<=41000/\EX B (fP (fP [] [120] V) [107] w) (.mk 13 pU [nmN (aQ n)]) q (iJ n n (flI n)):=by
 have hb:n < WB ^ 1:=by rw[zxh,bf];omega
 obtain⟨k,h1,h2⟩:=tT (B:=B) (K:=1) hB hB0 (zq6 1) zc hb
 have h6:=vS (x:=n) zE
 obtain⟨s,h3,h4⟩:=ade (zs:=flI n) hB hA bA hn (vU n) sD (zq6 1) zc
 exact⟨s+k+1,zE,EX.opr hB0 (n:= .mk 13 pU [nmN (aQ n)]) (opn (x:=13) zc zc zc) (AL.one (h2 _)) (nO (n:= .mk 13 pU [nmN (aQ n)]) rfl (atb zE)) h4⟩
theorem ex_e2:∃q:Nat,q<=250000/\EX B (fP (fP [] [120] (iJ n n A)) [107] (vI x)) (nE2 (aQ n)) q (vI (evZ A n x)):=by
 have hb:x.natAbs < WB ^ 1:=by rw[zxh,bf];omega
 have hm:(-1:Int).natAbs < WB ^ 1:=by rw[zxh,bf];decide
 have hk:=ex_k (V:=iJ n n A) hB hB0 hA bA hn hx;obtain⟨q1,i1,i2⟩:=ex_id (w:=vI x) (V:=iJ n n A) hB hB0 hA bA hn hx;obtain⟨q2,j1,j2⟩:=ex_x (w:=vI x) hB hB0 hA bA hn
 -- the product
 have c1:=as1 (c:=n) (RB.ofI hb (zq6 1)) (nQ (sD (n:=n)) (zq6 1)) (by rw[zq5];exact vU n) (show n<=64 by omega) zE (zq6 1) (zq6 1) zc
 rw[abS (vU n)]at c1;have lX:(fJ n (fun i k=>zat (flI n) n i k*x) n).length=n*n:=dM n
 have bX:=axX (vU n) sD hb;obtain⟨s1,u1,u2⟩:=ade hB hA bA hn lX bX zc zc
 have x1:=EX.opr hB0 (n:= .mk 6 [] [kNd,.mk 13 pU [nmN (aQ n)]]) (opn (x:=6) zc zc zc) (AL.two hk i2) (ad8 (n:= .mk 6 [] [kNd,.mk 13 pU [nmN (aQ n)]]) ⟨show (4:Int)<=6 by decide,show (6:Int)<=12 by decide⟩ (atG (qc hb (zq6 1) zc) (af2 hn (vU n) sD (zq6 1) zc) (akZ rfl (fun h=>by have h':(2:Int)=1:=h;omega) c1))) u2
 -- the difference
 have c2:=aq9 (K:=1) (nQ bA (zq6 1)) (by rw[zq5];exact hA) (show n<=64 by omega) (show n<=64 by omega) (zq6 1) zc
 have e1:((-1:Int):Rat)= -1:=by grind
 rw[<-e1,abS hA]at c2;have lY:(fJ n (fun i k=>zat A n i k*(-1)) n).length=n*n:=dM n
 have bY:=axX hA bA hm;have c3:=au5 (nQ bX zc) (nQ bY zc) (by rw[zq5];exact lX) (by rw[zq5];exact lY) (show n<=64 by omega) (show n<=64 by omega) zc zc zc
 rw[auB lX lY]at c3;have c3':ah prog 233 [.agg (vlA (dW n n (gI (fJ n (fun i k=>zat (flI n) n i k*x) n)))),.agg (vlA (dW n n (gI (fJ n (fun i k=>zat A n i k*(-1)) n))))] (.tup [.agg (vlA (dW n n (gI (xiL A n x)))),eNo 0]):=by
  unfold xiL;exact c3
 have lZ:(xiL A n x).length=n*n:=by unfold xiL;exact dM n
 have bZ:=a0h hA bA hb;obtain⟨s2,u3,u4⟩:=ade hB hA bA hn lZ bZ zc zc
 have x2:=EX.opr hB0 (n:= .mk 5 [] [.mk 6 [] [kNd,.mk 13 pU [nmN (aQ n)]],xN]) (opn (x:=5) zc zc zc) (AL.two x1 j2) (ad8 (n:= .mk 5 [] [.mk 6 [] [kNd,.mk 13 pU [nmN (aQ n)]],xN]) ⟨show (4:Int)<=5 by decide,show (5:Int)<=12 by decide⟩ (arR (af2 hn lX bX zc zc) (af2 hn hA bA (zq6 1) zc) rfl (asj c2 c3'))) u4
 -- the determinant
 have hnn:=zxd hn hn;have hl:(gI (xiL A n x)).length=n*n:=by rw[zq5];exact lZ
 have k1:kz (3+(1+(gI (xiL A n x)).length*3)) n<=10000:=zxf (axU n (by rw[hl];omega)) (zxf (kz4 hn) zc)
 have k2:n*(1+(gI (xiL A n x)).length*3)<=10000:=by
  rw[hl];exact zxf (zxd hn (show 1+n*n*3<=49 by omega)) zc
 have cD:=af3 hl (show n<=64 by omega) (nQ bZ zc) zc zc (show 1+(n*n+1)*3<=50000 by omega) k1 k2
 rw[ar1 hn]at cD;obtain⟨s3,u5,u6⟩:=ax3 hB hB0 hA bA hn hx;exact⟨_,zE,EX.opr hB0 (n:=nE2 (aQ n)) (opn (x:=13) zc zc zc) (AL.one x2) (nO (n:=nE2 (aQ n)) rfl cD) u6⟩
end
end Go.Proofs.YtcamgbgfelmbaaaGreatDoor
namespace Go.Proofs.YtcamgbgfelmbaaaGreatDoor
open Go.RowKit QM SX LA
def uN(o:Int)(t:List UInt8):dep (.mk o t [])<=0:=by rw[abL];exact zq6 0
def aeA{o:Int}{t:List UInt8}{a:Nd}{d:Nat}(h:dep a<=d):dep (.mk o t [a])<=d+1:=lu fun n hn=>by
 rw[zxi]at hn;subst hn;exact h
def ajl{o:Int}{t:List UInt8}{a b:Nd}{d:Nat}(h:dep a<=d)(h':dep b<=d):dep (.mk o t [a,b])<=d+1:=lu fun n hn=>by
 rcases zy3.1 hn with rfl|hn
 ·exact h
 ·rw[zxi]at hn;subst hn;exact h'
def oH{a:Nd}{d e:Nat}(h:dep a<=d)(he:d<=e):dep a<=e:=zxf h he
def a0s:dep nE1<=150:=oH (ajl (d:=1) (aeA (uN _ _)) (oH (uN _ _) zc)) zc
def az8(d:List UInt8):dep (nE2 d)<=150:=oH (aeA (ajl (d:=2) (ajl (d:=1) (oH (uN _ _) zc) (aeA (uN _ _))) (oH (uN _ _) zc))) (show 4<=150 by decide)
attribute [local irreducible] IntKind.wrap Go1 Reg WP aK aN bD aZ aJ aA aj ak aT Sat
attribute [local irreducible] aQ qS zS tbS
section
variable{n:Nat}{A:List Int}{x:Int}(hA:A.length=n*n)(bA:∀z∈A,z.natAbs < WB ^ 1)(hn:n<=4)(hx:x.natAbs<=32768)
include hA bA hn
abbrev abj(A:List Int)(n:Nat):List UInt8:=tbS n n ((gI A).map qS)
theorem ajK{B:Nat}(hB:64000<=B)(hB0:B<=1000000000):RD B (abj A n) (iJ n n A) 6 4/\(abj A n).length<=1000:=by
 have ht:=asJ (n:=n) hn zc bA
 exact⟨RD.mat (K:=1) hB hB0 (zq6 1) zc (by rw[zq5];exact hA) zE zE (nQ bA (zq6 1)) zE,by show (tbS n n ((gI A).map qS)).length<=1000;omega⟩
include hx
theorem a0l:ah prog 11 [.v (str (qw (abj A n) (zS x) (tEq tE1 (tE2 (aQ n))))),.agg (acX 1000000 1000000 200)] (.tup [.one (.c (.val (str [49,10]))),eNo 0]):=by
 have hb:x.natAbs < WB ^ 1:=by rw[zxh,bf];omega
 obtain⟨h1,h2⟩:=ajK (B:=1000000) hA bA hn zc zc
 have h3:RD 1000000 (zS x) (vI x) 3 1:=RD.int (K:=1) zc zc (zq6 1) zc hb
 have h4:=rF hb;have h5:=vS (x:=n) zE
 obtain⟨q1,i1,i2⟩:=ex_e1 (B:=1000000) zc zc hA bA hn hx
 obtain⟨q2,j1,j2⟩:=ex_e2 (B:=1000000) zc zc hA bA hn hx
 have hnum:num (aQ n)=true:=jH zE
 have hv:=atC (B:=1000000) zc zc hA bA hn hx
 exact acj (c:=6) (d:=4) (c':=3) (d':=1) (K:=66) (n:=0) zc zc h1 h3 zc zc zE zE zc (by simp;omega) pt_e1 (pt_e2 hnum) a0s (az8 _) (fun r=>⟨rfl,rfl,rfl⟩) zc zc zE zE i2 j2 (.one (.num _ (RB.ofI hv zc))) zc zc
end
end Go.Proofs.YtcamgbgfelmbaaaGreatDoor
namespace Go.Proofs.YtcamgbgfelmbaaaGreatDoor
open Go.RowKit QM SX LA
attribute [local irreducible] IntKind.wrap Go1 Reg WP aK aN bD aZ aJ aA aj ak aT Sat
attribute [local irreducible] PrP
section
variable{p:Nat}(hp:PrP p){r c:Nat}{l:List Nat}(hlr:l.length=r*c)(hr:r<=64)(hc:c<=64)(hb:∀x∈l,x < p)
theorem atI(p r c:Nat)(l:List Nat):ah prog 281 [.agg (vlA (gu p r c l)),.v (.int .u8 102)] (.v (.bool true)):=by
 have h:=ajx (gu p r c l);rw[decide_eq_true rfl]at h;exact h
theorem axZ{t:List UInt8}(p r c:Nat)(l:List Nat):ah prog 249 [.agg (bR t [gu p r c l]),.v (str t),.v (str [102])] (.v (.bool true)):=
 lI (so:=[102]) (fun _=>true) rfl (zqc rfl) fun i v hv=>by
  match i,hv with
  |0,hv=>cases hv;exact atI p r c l
include hp hlr hr hc hb
theorem aeh:ah prog 303 [.agg (bR zV [gu p r c l])] (.agg (kC (dW r c ((toI l).map fun z:Int=>(z:Rat))) 0 true)):=by
 have hpl:=hp.lt;have hv:[gu p r c l][0]? =some (gu p r c l):=rfl;have hrc:=zxd hr hc;have a1:=axZ (t:=zV) p r c l;have zb:∀z∈toI l,z.natAbs < WB ^ 1:=fun z hz=>by
  obtain⟨x,hx,rfl⟩:=zqg.1 hz;have:=hb x hx;rw[zxh,bf];omega
 have cT:=aeR (zs:=toI l) (by rw[zq5];exact hlr) hr hc zb zc (zq6 1)
 have cf:=acv (dW r c ((toI l).map fun z:Int=>(z:Rat)))
 have hm:nG r c (toI l)=[.c (.val (.int .i64 (r:Int))),.c (.val (.int .i64 (c:Int))),.c (.sat (aP 2 l.length (((toI l).map z2v).flatMap z2C)))]:=by
  rw[uM];show [_,_,Atom.c (.sat (aP 2 ((toI l).map z2v).length _))]=_;rw[zq5,zq5]
 rw[hm]at cT;refine ah.fq func303 fun _ _ _ _ hB=>?_
 refine zg ?_;refine W.loop (fun k=>k<=l.length) (fun k=>[(1,.ptr 1 0),(2,.ptr 2 0),(8,.ptr 8 0),(60,.r (aD 1 wdC l)),(61,.v (.int .i64 (l.length:Int))),(62,.v (.int .i64 (k:Int)))]) (fun k=>[(1,.box 244 (bR zV [gu p r c l])),(2,.box 249 anZ),(8,.box 24 [.c (.val (.int .i64 (r:Int))),.c (.val (.int .i64 (c:Int))),.own 100]),(100,.row 33 2 k (((toI (l.take k)).map z2v).flatMap z2C))]) (fun k=>l.length - k) 0 (zq8 _) (fun k hk=>?_)
  (by
   refine St.aS [(100,none)] z6 ?_ ?_ rfl
   ·exact yi
   ·exact⟨ay.same rfl rfl,ay.same rfl rfl,ay.jE rfl rfl ⟨aB.same rfl,aB.same rfl,aB.nil rfl,trivial⟩,ay.dw rfl,trivial⟩)
 by_cases h:k < l.length
 ·obtain⟨x,hx⟩:∃x,l[k]? =some x:=⟨_,zyh h⟩
  have lx:=hb x (zq4 hx);have hxb:(x:Int).natAbs < WB ^ 1:=by rw[zxh,bf];omega
  have cO:=akL (x:Int) zE zE
  have cF:=qV (ha:=NI.aaV hxb) false zc
  rw[show sgn false (x:Int).natAbs=(x:Int)by show (((x:Int).natAbs:Nat):Int)=(x:Int);omega]at cF
  have e2:((toI (l.take k)).map z2v).flatMap z2C++z2C (z2v (x:Int))=((toI (l.take (k+1))).map z2v).flatMap z2C:=by rw[zw7,hx];simp[toI]
  refine zg ?_;refine W.next (k+1) h zE (by
   refine St.aS [(100,some 72)] z6 ?_ ?_ rfl
   ·exact yf
   ·exact⟨ay.same rfl rfl,ay.same rfl rfl,ay.jE rfl rfl ⟨aB.same rfl,aB.same rfl,aB.own rfl,trivial⟩,ay.row rfl rfl rfl e2,trivial⟩)
 ·obtain rfl:k=l.length:=zE
  rw[zy8];refine WP.freeze 100 hB rfl ?_;refine zg ?_;refine jY aj.fF ?_;exact z7 _
theorem aeJ:ah prog 282 [.agg (vlA (gu p r c l))] (.agg (gfA p)):=by
 have cN:=aap hp;refine ah.fq func282 ?_;intros
 refine zg ?_;exact jG aj.agg1 rfl
theorem aaU:ah prog 219 [.agg (bR zV [gu p r c l])] (.agg (kC (dW r c ((toI l).map fun z:Int=>(z:Rat))) 0 true)):=by
 have hv:[gu p r c l][0]? =some (gu p r c l):=rfl;obtain⟨z,w⟩:=om (v:=gu p r c l) pW.1 pW.2 (fun h=>by have h':(4:Int)=1:=h;omega)
 have cm:=aad (vs:=[]) w (zqc rfl);have cM:=aeh hp hlr hr hc hb;refine ah.fq func219 ?_;intros
 refine zg ?_;refine SX.Go1.sJ (n:=17) (l:=kC (dW r c ((toI l).map fun z:Int=>(z:Rat))) 0 true) rfl rfl rfl rfl rfl ?_
 refine zg ?_;refine jY aj.fF ?_;exact z7 _
theorem aku:ah prog 218 [.agg (bR zV [gu p r c l])] (.agg qd):=by
 have hv:[gu p r c l][0]? =some (gu p r c l):=rfl;have c1:=atI p r c l;have co:=aeJ hp hlr hr hc hb;refine ah.fq func218 ?_;intros
 refine zg ?_;exact mO aj.fF
theorem aqt:ah prog 44 [.agg (vlA (gu p r c l))] (.v (.bool true)):=(Cv.one (n:=0) (.fld p r c l hp hlr hr hc hb:Sh 1 _)).F zc zc
theorem ajX:ah prog 199 [.v (str zV),.r (aD 15 vlE [gu p r c l])] (.tup [.agg (vlA (dW r c ((toI l).map fun z:Int=>(z:Rat)))),eNo 0]):=
 aeP (.inr (.inr (.inr (.inr (.inr rfl))))) (zqc rfl) (F1 (aqt hp hlr hr hc hb)) (aku hp hlr hr hc hb) (aaU hp hlr hr hc hb)
end
end Go.Proofs.YtcamgbgfelmbaaaGreatDoor
namespace Go.Proofs.YtcamgbgfelmbaaaGreatDoor
open Go.RowKit QM SX LA
variable{l:List Nat}{s:List UInt8}{p q:Nat}
def anv(hp:PrP p):(aQ p).length<=21:=by
 have hl:=hp.lt;exact gH (k:=1) (by rw[zxh,bf];omega)
def asT(hp:PrP p):(mdS s p).length<=s.length+40:=by
 have:=anv hp;unfold mdS;simp only[zqi,zx6,List.length_nil];omega
abbrev sZ(p:Nat)(A:List Int):List Nat:=A.map (zmd p)
def pz(hp:PrP p)(A:List Int):∀x∈sZ p A,x < p:=fun x hx=>by
 obtain⟨z,_,rfl⟩:=zqg.1 hx;exact zO hp z
def ah1(hp:PrP p):p < WB ^ 1:=by
 have:=hp.lt;rw[zxh,bf];omega
def auU(hp:PrP p)(h:∀x∈l,x < p):∀z∈toI l,z.natAbs < WB ^ 1:=fun z hz=>by
 obtain⟨x,hx,rfl⟩:=zqg.1 hz;have h1:=h x hx;have h2:=ah1 hp;rw[zxa];omega
attribute [local irreducible] IntKind.wrap Go1 Reg WP aK aN bD aZ aJ aA aj ak aT Sat
attribute [local irreducible] PrP aQ zS tS tbS mdS zmd
section
variable{B n p:Nat}{A:List Int}{w:Vl}(hp:PrP p)(hB:64000<=B)(hB0:B<=1000000000)(hA:A.length=n*n)(bA:∀z∈A,z.natAbs < WB ^ 1)(hn:n<=4)
include hp hB hB0 hn
theorem a0g(hl:l.length=n*n)(h:∀x∈l,x < p):∃s:Nat,s<=40000/\VI B s (gu p n n l):=by
 have h1:=agN (r:=n) (c:=n) (m:=21) (l:=l.map aQ) zE zE (fun x hx=>by
  obtain⟨y,hy,rfl⟩:=zqg.1 hx;have h3:=h y hy;have h4:=hp.lt;exact gH (k:=1) (by rw[zxh,bf];omega))
 have h2:=zxd hn (Nat.add_le_add_right (zx1 (21+2) hn) 2);have h3:=asT (s:=tbS n n (l.map aQ)) hp;have hlt:(tS (gu p n n l)).length<=40000:=by rw[akn];omega
 obtain⟨s,h5,h6⟩:=VI.of (B:=B) (K:=1) (Cv.one (n:=0) (.fld p n n l hp hl zE zE h)) zc zc zE hB
 exact⟨s,zE,h6⟩
theorem ex_p:∃q:Nat,q<=42/\∀nm,EX B nm (nmN (aQ p)) q (vI (p:Int)):=by
 obtain⟨k,h1,h2⟩:=tT (B:=B) (K:=1) hB hB0 (zq6 1) zc (ah1 hp)
 have h3:=anv hp;exact⟨k,zE,h2⟩
include hA bA
theorem anQ:ah prog 199 [.v (str mP),.r (aD 15 vlE [iJ n n A,vI (p:Int)])] (.tup [.agg (vlA (gu p n n (sZ p A))),eNo 0]):=by
 have hnn:=zxd hn hn;have hb:(p:Int).natAbs < WB ^ 1:=ah1 hp;obtain⟨z,hz⟩:=om (v:=iJ n n A) pW.1 pW.2 (fun h=>by have h':(2:Int)=1:=h;omega)
 exact yu (af2 hn hA bA (zq6 1) zc) (qc hb (zq6 1) zc) hz (apr hp hA zE zE bA (zq6 1) zE zc)
theorem ak6{nm:Nms}{m:Nd}(h:EX B nm m q (iJ n n A)):∃q':Nat,q'<=q+40100/\EX B nm (nMx (aQ p) m) q' (gu p n n (sZ p A)):=by
 obtain⟨q2,h1,h2⟩:=ex_p hp hB hB0 hn;obtain⟨s,h3,h4⟩:=a0g hp hB hB0 hn (l:=sZ p A) (by rw[zq5];exact hA) (pz hp A)
 exact⟨s+(q+q2)+1,zE,EX.opr hB0 (n:=nMx (aQ p) m) (opn (x:=13) zc zc zc) (AL.two h (h2 nm)) (nO (n:=nMx (aQ p) m) rfl (anQ hp hB hB0 hA bA hn)) h4⟩
abbrev nLf(m:Nd):Nd:= .mk 13 zV [m]
theorem avt{nm:Nms}{m:Nd}(h:EX B nm m q (gu p n n (sZ p A))):∃q':Nat,q'<=q+40100/\EX B nm (nLf m) q' (iJ n n (toI (sZ p A))):=by
 have hl:(toI (sZ p A)).length=n*n:=by rw[zq5,zq5];exact hA
 have hb:=auU hp (pz hp A);obtain⟨s,h3,h4⟩:=ade (zs:=toI (sZ p A)) hB hl hb hn hl hb (zq6 1) zc
 exact⟨s+q+1,zE,EX.opr hB0 (n:=nLf m) (opn (x:=13) zc zc zc) (AL.one h) (nO (n:=nLf m) rfl (ajX hp (by rw[zq5];exact hA) zE zE (pz hp A))) h4⟩
end
abbrev tLf(s:List UInt8):List UInt8:=zV++40::(s++[41])
abbrev wLf(ws:List Wrd)(m:Nd):List Wrd:=wF zV [(ws,m)]
def avu{ws:List Wrd}{m:Nd}(h:PT s ws m):PT (tLf s) (wLf ws m) (nLf m):=uS kI.2.2.2.2.2 ay1 h.at
section
variable{n p:Nat}{A:List Int}{x:Int}(hp:PrP p)(hA:A.length=n*n)(bA:∀z∈A,z.natAbs < WB ^ 1)(hn:n<=4)(hx:x.natAbs<=32768)
include hp hA bA hn hx
theorem ayo:ah prog 11 [.v (str (qw (abj A n) (zS x) (tEq (tMx (aQ p) (tLf (tMx (aQ p) [120]))) (tMx (aQ p) [120])))),.agg (acX 1000000 1000000 200)] (.tup [.one (.c (.val (str [49,10]))),eNo 0]):=by
 have hb:x.natAbs < WB ^ 1:=by rw[zxh,bf];omega
 obtain⟨h1,h2⟩:=ajK (B:=1000000) hA bA hn zc zc
 have h3:RD 1000000 (zS x) (vI x) 3 1:=RD.int (K:=1) zc zc (zq6 1) zc hb
 have h4:=rF hb;have h5:=anv hp;have hnum:num (aQ p)=true:=jH zE
 obtain⟨q0,a1,a2⟩:=ex_x (B:=1000000) (w:=vI x) zc zc hA bA hn
 obtain⟨q1,b1,b2⟩:=ak6 (B:=1000000) hp zc zc hA bA hn a2
 obtain⟨q2,c1,c2⟩:=avt (B:=1000000) hp zc zc hA bA hn b2
 have hl:(toI (sZ p A)).length=n*n:=by rw[zq5,zq5];exact hA
 obtain⟨q3,d1,d2⟩:=ak6 (B:=1000000) hp zc zc hl (auU hp (pz hp A)) hn c2
 have e:sZ p (toI (sZ p A))=sZ p A:=avI (pz hp A);rw[e]at d2;have p0:=ag6 hnum pt_x;have dm:∀{m:Nd} {d:Nat},dep m<=d->dep (nMx (aQ p) m)<=d+1:=fun h=>ajl h (oH (uN _ _) (zq8 _))
 exact acj (c:=6) (d:=4) (c':=3) (d':=1) (K:=1) (n:=0) zc zc h1 h3 zc zc zE zE (by simp;omega) (by simp;omega) (ag6 hnum (avu p0)) p0 (oH (dm (aeA (dm (uN _ _)))) zc) (oH (dm (uN _ _)) zc) (fun r=>⟨rfl,rfl,rfl⟩) zc zc zE zE d2 b2 (.one (.fld p n n _ hp (by rw[zq5];exact hA) zE zE (pz hp A))) zc zc
end
end Go.Proofs.YtcamgbgfelmbaaaGreatDoor
namespace Go.Proofs.YtcamgbgfelmbaaaGreatDoor
open Go.RowKit QM SX LA
def azy{n p:Nat}{A:List Int}(hp:PrP p)(hA:A.length=n*n){i k:Nat}(hi:i < n)(hk:k < n):cg p (zat A n i k) ((fat (sZ p A) n i k:Nat):Int):=by
 have h1:(sZ p A)[i*n+k]? =some (fat (sZ p A) n i k):=afL (by rw[zq5];exact hA) hi hk
 have h2:=qh hA hi hk;rw[zqa,h2]at h1
 have h3:zmd p (zat A n i k)=fat (sZ p A) n i k:=zy7 h1;rw[<-h3];exact(aqi (by have:=hp.lt;omega) _).symm
def atu{n p:Nat}{A:List Int}(hp:PrP p)(hA:A.length=n*n)(hn:n<=4):aek p (fat (sZ p A) n) n=bL p ((jm A n).map (zmd p)):=by
 have hp0:0 < p:=by have:=hp.lt;omega
 rw[avk (a:=zat A n) hp hn (fun i j _ _=>arG (pz hp A) hp0 n i j) (fun i j hi hj=>azy hp hA hi hj),aga hn (fun i j hi hj=>rfl)]
attribute [local irreducible] IntKind.wrap Go1 Reg WP aK aN bD aZ aJ aA aj ak aT Sat
attribute [local irreducible] PrP zmd bL aek
def adY{vs:List Vl}:ah prog 217 [.agg (bR jU vs)] (.agg qd):=by
 refine ah.fq func217 ?_;intros
 refine zg ?_;exact mO aj.fF
def ain{vs:List Vl}(a0:ah prog 249 [.agg (bR jU vs),.v (str jU),.v (str [109])] (.v (.bool false))):ah prog 216 [.agg (bR jU vs)] (.agg qd):=by
 refine ah.fq func216 ?_;intros
 refine zg ?_;exact mO aj.fF
section
variable{p:Nat}(hp:PrP p){n:Nat}{l:List Nat}(hl:l.length=n*n)(hn:n<=64)(hb:∀x∈l,x < p)
include hp hl hn hb
theorem adG:ah prog 218 [.agg (bR jU [gu p n n l])] (.agg (kC (jS p (aek p (fat l n) n)) 0 true)):=by
 have hv:[gu p n n l][0]? =some (gu p n n l):=rfl;have c1:=atI p n n l;have co:=aeJ hp hl hn hn hb;have a1:=axZ (t:=jU) p n n l;have cC:=apE hp hl hn hb;have cR:=ahO p (aek p (fat l n) n);have cd:=tV (jS p (aek p (fat l n) n));refine ah.fq func218 ?_;intros
 refine zg ?_;refine jY aj.fF ?_;exact z7 _
theorem ayq{t:List UInt8}:ah prog 249 [.agg (bR t [gu p n n l]),.v (str t),.v (str [109])] (.v (.bool false)):=
 lI (so:=[109]) (fun _=>false) rfl (zqc rfl) fun i v hv=>by
  match i,hv with
  |0,hv=>cases hv;exact aaG (aa9 (fun h=>by have h':(4:Int)=2:=h;omega))
theorem apn:ah prog 199 [.v (str jU),.r (aD 15 vlE [gu p n n l])] (.tup [.agg (vlA (jS p (aek p (fat l n) n))),eNo 0]):=by
 refine oN (n0:=4) zc zc (zqc rfl) (F1 (aqt hp hl hn hn hb)) atN as9 (fun k f hk hg=>?_) (fun f hg=>?_)
 ·match k,hk,hg with
  |0,_,hg=>cases hg;exact aeC
  |1,_,hg=>cases hg;exact aeS
  |2,_,hg=>cases hg;exact ain (ayq hp hl hn hb)
  |3,_,hg=>cases hg;exact adY
 ·cases hg;exact adG hp hl hn hb
end
end Go.Proofs.YtcamgbgfelmbaaaGreatDoor
namespace Go.Proofs.YtcamgbgfelmbaaaGreatDoor
open Go.RowKit QM SX LA
variable{A:List Int}{p:Nat}
section
abbrev ad1(p n:Nat)(A:List Int):List Nat:=bL p ((jm A n).map (zmd p))
def alI{n:Nat}(hp:PrP p):∀x∈ad1 p n A,x < p:=qO hp _
def ahJ{n:Nat}(hn:n<=4):(ad1 p n A).length<=5:=by
 have h:=jX p ((jm A n).map (zmd p));rw[zq5,uz hn]at h;show (bL p ((jm A n).map (zmd p))).length<=5;omega
def awW{n:Nat}:wN (ad1 p n A):=xQ p _
def arj{n:Nat}(hp:PrP p)(hn:n<=4){K:Nat}:Sh K (jS p (ad1 p n A)):= .rng p _ hp (by have:=ahJ (p:=p) (A:=A) hn;omega) awW (alI hp)
attribute [local irreducible] IntKind.wrap Go1 Reg WP aK aN bD aZ aJ aA aj ak aT Sat
attribute [local irreducible] PrP aQ zS tS plS zmd fP jm bL
abbrev nCx(m:Nd):Nd:= .mk 13 jU [m]
abbrev tCx(s:List UInt8):List UInt8:=jU++40::(s++[41])
abbrev wCx(ws:List Wrd)(m:Nd):List Wrd:=wF jU [(ws,m)]
def pt_cx{s:List UInt8}{ws:List Wrd}{m:Nd}(h:PT s ws m):PT (tCx s) (wCx ws m) (nCx m):=uS kI.2.1 auV h.at
section
variable{B n p:Nat}{A:List Int}{w:Vl}(hp:PrP p)(hB:64000<=B)(hB0:B<=1000000000)(hA:A.length=n*n)(bA:∀z∈A,z.natAbs < WB ^ 1)(hn:n<=4)
include hp hB hB0 hA bA hn
theorem aqZ:∃s:Nat,s<=40000/\VI B s (jS p (ad1 p n A)):=by
 have hl:=ahJ (p:=p) (A:=A) hn;have h1:=auo (m:=21) (l:=(ad1 p n A).map aQ) fun x hx=>by
  obtain⟨y,hy,rfl⟩:=zqg.1 hx;have h3:=alI hp y hy;have h4:=hp.lt;exact gH (k:=1) (by rw[zxh,bf];omega)
 rw[zq5]at h1;have h2:=zx1 (21+2) hl;have h3:=asT (s:=plS ((ad1 p n A).map aQ)) hp;have hlt:(tS (jS p (ad1 p n A))).length<=40000:=by rw[akH];omega
 obtain⟨s,h5,h6⟩:=VI.of (B:=B) (K:=1) (Cv.one (n:=0) (arj (A:=A) hp hn)) zc zc zE hB
 exact⟨s,zE,h6⟩
theorem aon:ah prog 199 [.v (str mP),.r (aD 15 vlE [gP (jm A n),vI (p:Int)])] (.tup [.agg (vlA (jS p (ad1 p n A))),eNo 0]):=by
 have hb:(p:Int).natAbs < WB ^ 1:=ah1 hp;have hz:=abv hA bA hn;have hl:=uz (A:=A) hn;obtain⟨z,w1⟩:=am3 (jm A n);exact yu ((Cv.one (n:=0) (.pol _ zE ag1 hz:Sh 56 _)).F zc zc) (qc hb (zq6 1) zc) w1 (anT hp hz zc zE)
theorem avS:∃q:Nat,q<=140000/\EX B (fP (fP [] [120] (iJ n n A)) [107] w) (nMx (aQ p) (nCx xN)) q (jS p (ad1 p n A)):=by
 obtain⟨q,h1,h2⟩:=arY (w:=w) hB hB0 hA bA hn;obtain⟨q2,h3,h4⟩:=ex_p hp hB hB0 hn;obtain⟨s,h5,h6⟩:=aqZ hp hB hB0 hA bA hn;exact⟨s+(q+q2)+1,zE,EX.opr hB0 (n:=nMx (aQ p) (nCx xN)) (opn (x:=13) zc zc zc) (AL.two h2 (h4 _)) (nO (n:=nMx (aQ p) (nCx xN)) rfl (aon hp hB hB0 hA bA hn)) h6⟩
theorem awd:∃q:Nat,q<=140000/\EX B (fP (fP [] [120] (iJ n n A)) [107] w) (nCx (nMx (aQ p) xN)) q (jS p (ad1 p n A)):=by
 obtain⟨q,h1,h2⟩:=ex_x (w:=w) hB hB0 hA bA hn;obtain⟨q2,h3,h4⟩:=ak6 hp hB hB0 hA bA hn h2;obtain⟨s,h5,h6⟩:=aqZ hp hB hB0 hA bA hn;have hc:=apn hp (l:=sZ p A) (n:=n) (by rw[zq5];exact hA) zE (pz hp A)
 rw[atu hp hA hn]at hc;exact⟨s+q2+1,zE,EX.opr hB0 (n:=nCx (nMx (aQ p) xN)) (opn (x:=13) zc zc zc) (AL.one h4) (nO (n:=nCx (nMx (aQ p) xN)) rfl hc) h6⟩
end
section
variable{n p:Nat}{A:List Int}{x:Int}(hp:PrP p)(hA:A.length=n*n)(bA:∀z∈A,z.natAbs < WB ^ 1)(hn:n<=4)(hx:x.natAbs<=32768)
include hp hA bA hn hx
theorem azS:ah prog 11 [.v (str (qw (abj A n) (zS x) (tEq (tMx (aQ p) aoz) (tCx (tMx (aQ p) [120]))))),.agg (acX 1000000 1000000 200)] (.tup [.one (.c (.val (str [49,10]))),eNo 0]):=by
 have hb:x.natAbs < WB ^ 1:=by rw[zxh,bf];omega
 obtain⟨h1,h2⟩:=ajK (B:=1000000) hA bA hn zc zc
 have h3:RD 1000000 (zS x) (vI x) 3 1:=RD.int (K:=1) zc zc (zq6 1) zc hb
 have h4:=rF hb;have h5:=anv hp;have hnum:num (aQ p)=true:=jH zE
 obtain⟨q1,b1,b2⟩:=avS (B:=1000000) (w:=vI x) hp zc zc hA bA hn
 obtain⟨q2,c1,c2⟩:=awd (B:=1000000) (w:=vI x) hp zc zc hA bA hn
 have dm:∀{m:Nd} {d:Nat},dep m<=d->dep (nMx (aQ p) m)<=d+1:=fun h=>ajl h (oH (uN _ _) (zq8 _))
 exact acj (c:=6) (d:=4) (c':=3) (d':=1) (K:=1) (n:=0) zc zc h1 h3 zc zc zE zE (by simp;omega) (by simp;omega) (ag6 hnum ase) (pt_cx (ag6 hnum pt_x)) (oH (dm (aeA (uN _ _))) zc) (oH (aeA (dm (uN _ _))) zc) (fun r=>⟨rfl,rfl,rfl⟩) zc zc zE zE b2 c2 (.one (arj hp hn)) zc zc
end
end
noncomputable def ndI(p a n:Nat):Bool:=Nat.rec true (fun k ih=>cond (Nat.beq (Nat.mod p (Nat.add a k)) 0) false ih) n
noncomputable def ndO(p w n:Nat):Bool:=Nat.rec true (fun k ih=>cond (ndI p (Nat.add 2 (Nat.mul k w)) w) ih false) n
def as6{p a:Nat}:∀n,ndI p a n=true->∀e,a<=e->e < a+n->p % e≠0
 |0,_,e,h1,h2=>zE
 |n+1,h,e,h1,h2=>by
  have h:cond (Nat.beq (p % (a+n)) 0) false (ndI p a n)=true:=h;cases hb:Nat.beq (p % (a+n)) 0 with
  |true=>rw[hb]at h;cases h
  |false=>
   rw[hb]at h;by_cases he:e=a+n
   ·subst he;intro h0;rw[h0]at hb;cases hb
   ·exact as6 n h e h1 zE
def asI{p w:Nat}(hw:0 < w):∀n,ndO p w n=true->∀e,2<=e->e < 2+n*w->p % e≠0
 |0,_,e,h1,h2=>zE
 |n+1,h,e,h1,h2=>by
  have h:cond (ndI p (2+n*w) w) (ndO p w n) false=true:=h;rw[zv8]at h2;cases hb:ndI p (2+n*w) w with
  |false=>rw[hb]at h;cases h
  |true=>
   rw[hb]at h;by_cases he:e < 2+n*w
   ·exact asI hw n h e h1 he
   ·exact as6 w hb e zE zE
def PrP.by{w n:Nat}(h:ndO p w n=true)(h1:2<=p)(h2:p < 2147483648)(hw:0 < w)(h3:p < (2+n*w)*(2+n*w)):PrP p:=PrP.intro h1 h2 h3 fun e h4 h5=>asI hw n h e h4 h5
abbrev prT:List Nat:=[2,3,5,7,11,13,101,65537,1000003,1073741827,2147483629,2147483647]
def ni:∀p∈prT,PrP p:=fun p hp=>by
 have h:p=2\/p=3\/p=5\/p=7\/p=11\/p=13\/p=101\/p=65537\/p=1000003\/p=1073741827\/p=2147483629\/p=2147483647:=by simpa using hp
 rcases h with rfl|rfl|rfl|rfl|rfl|rfl|rfl|rfl|rfl|rfl|rfl|rfl
 ·exact PrP.by (w:=1) (n:=0) yW zc zc zc zc
 ·exact PrP.by (w:=1) (n:=0) yW zc zc zc zc
 ·exact PrP.by (w:=1) (n:=1) yW zc zc zc zc
 ·exact PrP.by (w:=1) (n:=1) yW zc zc zc zc
 ·exact PrP.by (w:=1) (n:=2) yW zc zc zc zc
 ·exact PrP.by (w:=1) (n:=2) yW zc zc zc zc
 ·exact PrP.by (w:=3) (n:=3) yW zc zc zc zc
 ·exact PrP.by (w:=17) (n:=16) yW zc zc zc zc
 ·exact PrP.by (w:=32) (n:=32) yW zc zc zc zc
 ·exact PrP.by (w:=182) (n:=182) yW zc zc zc zc
 ·exact PrP.by (w:=216) (n:=216) yW zc zc zc zc
 ·exact PrP.by (w:=216) (n:=216) yW zc zc zc zc
