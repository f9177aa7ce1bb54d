import Derived.Test.YthnkfhfcgjoieaaGreatDoorO9
import Derived.Test.YthnkfhfcgjoieaaGreatDoorO6
set_option linter.unusedVariables false
set_option linter.unusedSimpArgs false
open Go.Proofs.Tryz
namespace Go.Proofs.YthnkfhfcgjoieaaGreatDoor
open Go.RowKit QM SX LA
section
def nzZ(col:Nat)(r:List Int):Bool:=decide (r.getD col 0≠0)
def bcL(r b:List Int)(p f l:Int)(k:Nat):List Int:=List.zipWith (fun a x=>eZ (a*p - f*x) l) (r.take k) (b.take k)++r.drop k
theorem vX{α:Type}{l:List α}{k:Nat}{a:α}(h:l[k]? =some a):k < l.length:=by
 rcases zyd k l.length with h2|h2
 ·exact h2
 ·rw[zqe h2]at h;cases h
theorem aiH{r b:List Int}{p f l:Int}{k:Nat}(h:r.length=b.length)(hk:k<=r.length):(bcL r b p f l k).length=r.length:=by
 unfold bcL;simp;omega
theorem arQ{r b:List Int}{p f l:Int}{k:Nat}{a:Int}(h:r.length=b.length)(ha:r[k]? =some a):(bcL r b p f l k)[k]? =some a:=by
 have hk:=vX ha;unfold bcL;rw[zv6 (by simp;omega)]
 simp only[List.length_zipWith,zx3,zv1]
 rw[show min (min k r.length) (min k b.length)=k by omega,Nat.sub_self,zvi];exact ha
theorem arY{r b:List Int}{p f l:Int}{k:Nat}{a x:Int}(h:r.length=b.length)(ha:r[k]? =some a)(hb:b[k]? =some x):(bcL r b p f l k).set k (eZ (a*p - f*x) l)=bcL r b p f l (k+1):=by
 have hk:=vX ha;apply zyb
 intro i;rw[zv2]
 unfold bcL;by_cases hi:k=i
 ·subst hi;rw[if_pos rfl,if_pos (by simp;omega)]
  rw[zyj (by simp;omega),List.getElem?_zipWith]
  simp[ha,hb]
 ·rw[if_neg hi];by_cases hlt:i < k
  ·rw[zyj (by simp;omega),zyj (by simp;omega),List.getElem?_zipWith,List.getElem?_zipWith]
   simp[zy9,hlt,show i < k+1 by omega]
  ·rw[zv6 (by simp;omega),zv6 (by simp;omega)]
   simp only[List.length_zipWith,zx3,zv1]
   congr 1
   omega
theorem amE{r b:List Int}{p f l:Int}:bcL r b p f l 0=r:=by unfold bcL;simp
def bcR(b:List Int)(col:Nat)(l:Int)(r:List Int):List Int:=bcL r b (b.getD col 0) (r.getD col 0) l r.length
def bcM(M:List (List Int))(top col:Nat)(l:Int):List (List Int):=M.mapIdx fun i r=>if i<=top then r else bcR (M.getD top []) col l r
def lD(js:List Nat)(top col:Nat)(l:Int)(b:List Int)(c:List (List Int)):Nat->List (List Int)
 |0=>c
 |i+1=>if i<=top then lD js top col l b c i else match js[i]? with
  |some j=>(lD js top col l b c i).set j (bcR b col l ((lD js top col l b c i).getD j []))
  |none=>lD js top col l b c i
section
variable{js:List Nat}{top col:Nat}{l:Int}{b:List Int}{c:List (List Int)}
theorem rM:∀i,(lD js top col l b c i).length=c.length
 |0=>rfl
 |i+1=>by
  unfold lD
  split
  ·exact rM i
  ·split
   ·rw[zvf];exact rM i
   ·exact rM i
theorem abt:∀i,i<=top+1->lD js top col l b c i=c
 |0,_=>rfl
 |i+1,h=>by
  unfold lD;rw[if_pos zE]
  exact abt i zE
theorem oM(hnd:js.Nodup):∀(i:Nat) {k j:Nat},js[k]? =some j->(i<=k\/k<=top)->(lD js top col l b c i)[j]? =c[j]?
 |0,k,j,hk,_=>rfl
 |i+1,k,j,hk,h=>by
  have ih:=oM hnd i hk zE
  unfold lD
  split
  ·exact ih
  ·rename_i hrt
   split
   ·rename_i j2 hj2;have hne:j2≠j:=ano hnd hj2 hk zE
    rw[zv2,if_neg hne];exact ih
   ·exact ih
theorem aeI(hnd:js.Nodup):∀(i:Nat) {k j:Nat} {x:List Int},js[k]? =some j->k < i->top < k->c[j]? =some x->(lD js top col l b c i)[j]? =some (bcR b col l x)
 |0,k,j,x,hk,h,_,_=>absurd h (zvj _)
 |i+1,k,j,x,hk,h,ht,hx=>by
  have ih:k≠i->(lD js top col l b c i)[j]? =some (bcR b col l x):=fun hn=>aeI hnd i hk zE ht hx
  unfold lD
  split
  ·exact ih zE
  ·split
   ·rename_i j2 hj2;by_cases hki:k=i
    ·subst hki;rw[hk]at hj2;cases hj2;have ho:=oM (top:=top) (col:=col) (l:=l) (b:=b) (c:=c) hnd k hk (.inl (zq6 _));rw[hx]at ho;rw[zv2,if_pos rfl,if_pos (vX ho),zx7,ho];rfl
    ·have hne:j2≠j:=ano hnd hj2 hk (fun e=>hki e.symm)
     rw[zv2,if_neg hne];exact ih hki
   ·rename_i hj2;exact ih (fun e=>by subst e;rw[hk]at hj2;cases hj2)
theorem aqo{M:List (List Int)}{jb n:Nat}(hjM:js.map (fun j=>c.getD j [])=M)(hlt:∀j∈js,j < c.length)(hnd:js.Nodup)(hjt:js[top]? =some jb)(hs:c[jb]? =some b)(hn:n=js.length):
  js.map (fun j=>(lD js top col l b c n).getD j [])=bcM M top col l:=by
 subst hn;have htop:M.getD top []=b:=by
  rw[<-hjM,zx7,zqa,hjt]
  show c.getD jb []=b;rw[zx7,hs];rfl
 apply zyb
 intro p;unfold bcM;rw[List.getElem?_mapIdx,htop,<-hjM,zqa,zqa]
 cases hjp:js[p]? with
 |none=>rfl
 |some j=>
  obtain⟨x,hx⟩:∃x,c[j]? =some x:=⟨_,zyh (hlt j (zq4 hjp))⟩
  have e1:c.getD j []=x:=by rw[zx7,hx];rfl
  show some ((lD js top col l b c js.length).getD j [])=some (if p<=top then c.getD j []else bcR b col l (c.getD j []))
  rw[e1,zx7]
  by_cases hp:p<=top
  ·rw[if_pos hp,oM hnd _ hjp (.inr hp),hx];rfl
  ·rw[if_neg hp,aeI hnd _ hjp (vX hjp) zE hx];rfl
end
structure BS where
 M:List (List Int)
 ps:List Nat
 la:Int
 odd:Bool
def oV(M:List (List Int))(top col:Nat):Int:=fi (nzZ col) (M.drop top) top
def amW(s:BS)(i:Nat):BS:=⟨sw s.M i s.ps.length,s.ps,s.la,if i=s.ps.length then s.odd else !s.odd⟩
def yN(s:BS)(col:Nat):BS:=⟨bcM s.M s.ps.length col s.la,s.ps++[col],(s.M.getD s.ps.length []).getD col 0,s.odd⟩
def yS(s:BS)(col:Nat):BS:=if oV s.M s.ps.length col < 0 then s else yN (amW s (oV s.M s.ps.length col).toNat) col
def oJ:Nat->Nat->BS->BS
 |0,_,s=>s
 |n+1,col,s=>if s.ps.length < s.M.length then oJ n (col+1) (yS s col)else s
theorem uZ{n col:Nat}{s:BS}(h:n=0\/¬s.ps.length < s.M.length):oJ n col s=s:=by
 cases n with
 |zero=>rfl
 |succ n=>exact if_neg (h.resolve_left zE)
def kz(K:Nat):Nat->Nat
 |0=>K
 |n+1=>kz (2*K+1) n
theorem vB:∀(n K:Nat),kz K (n+1)=2*kz K n+1
 |0,K=>rfl
 |n+1,K=>by
  show kz (2*K+1) (n+1)=2*kz (2*K+1) n+1;exact vB n (2*K+1)
theorem akl:∀(n K:Nat),K<=kz K n
 |0,K=>zq6 _
 |n+1,K=>by rw[vB];have:=akl n K;omega
structure BI(s:BS)(r w K:Nat):Prop where
 len:s.M.length=r
 row:∀x∈s.M,x.length=w/\∀z∈x,z.natAbs < WB ^ K
 la:s.la.natAbs < WB ^ K
theorem BI.mono{s:BS}{r w K L:Nat}(h:BI s r w K)(hK:K<=L):BI s r w L:=
 ⟨h.len,fun x hx=>⟨(h.row x hx).1,fun z hz=>zqf ((h.row x hx).2 z hz) (zx2 aZ hK)⟩,zqf h.la (zx2 aZ hK)⟩
theorem BI.swap{s:BS}{r w K i:Nat}(h:BI s r w K):BI (amW s i) r w K:=
 ⟨by show (sw s.M i _).length=r;rw[atG];exact h.len,fun x hx=>h.row x (auM hx),h.la⟩
theorem agD{a b:Int}{K:Nat}(h1:a.natAbs < WB ^ K)(h2:b.natAbs < WB ^ K):(a - b).natAbs < WB ^ (K+1):=by
 have:=auL K;omega
theorem asv{x y:Int}{K:Nat}(h:x.natAbs < WB ^ K):(eZ x y).natAbs < WB ^ K:=by
 haveI:Bd x K:=⟨h⟩
 exact(Bd.eZ x y K).h
theorem asF{a p f x l:Int}{K:Nat}(ha:a.natAbs < WB ^ K)(hp:p.natAbs < WB ^ K)(hf:f.natAbs < WB ^ K)(hx:x.natAbs < WB ^ K):(eZ (a*p - f*x) l).natAbs < WB ^ (2*K+1):=by
 refine asv (agD ?_ ?_)
 ·rw[zve,show 2*K=K+K by omega];exact gV ha hp
 ·rw[zve,show 2*K=K+K by omega];exact gV hf hx
theorem au9{r b:List Int}{p f l:Int}{k K:Nat}(hr:∀z∈r,z.natAbs < WB ^ K)(hb:∀z∈b,z.natAbs < WB ^ K)(hp:p.natAbs < WB ^ K)(hf:f.natAbs < WB ^ K):∀z∈bcL r b p f l k,z.natAbs < WB ^ (2*K+1):=by
 intro z hz;unfold bcL at hz;rcases zyg.1 hz with h|h
 ·obtain⟨i,hi⟩:=List.mem_iff_getElem?.1 h;rw[List.getElem?_zipWith]at hi
  cases h1:(r.take k)[i]? with
  |none=>rw[h1]at hi;cases hi
  |some a=>
   cases h2:(b.take k)[i]? with
   |none=>rw[h1,h2]at hi;cases hi
   |some x=>
    rw[h1,h2]at hi;cases hi;exact asF (hr a (zv3 (zq4 h1))) hp hf (hb x (zv3 (zq4 h2)))
 ·exact zqf (hr z (zw9 h)) (zx2 aZ zE)
theorem BI.clear{s:BS}{r w K col:Nat}(h:BI s r w K)(htop:s.ps.length < r)(hcol:col < w):BI (yN s col) r w (2*K+1):=by
 have ht:=h.row _ (abC (l:=s.M) (i:=s.ps.length) (d:=[]) (by rw[h.len];exact htop))
 have hp:((s.M.getD s.ps.length []).getD col 0).natAbs < WB ^ K:=ht.2 _ (abC zE)
 refine⟨by show (bcM _ _ _ _).length=r;unfold bcM;rw[List.length_mapIdx];exact h.len,fun x hx=>?_,zqf hp (zx2 aZ zE)⟩
 have hx:x∈bcM s.M s.ps.length col s.la:=hx;unfold bcM at hx;obtain⟨i,hi⟩:=List.mem_iff_getElem?.1 hx;rw[List.getElem?_mapIdx]at hi
 cases hy:s.M[i]? with
 |none=>rw[hy]at hi;cases hi
 |some y=>
  rw[hy]at hi;have hi:(if i<=s.ps.length then y else bcR (s.M.getD s.ps.length []) col s.la y)=x:=zy7 hi
  obtain⟨yw,yK⟩:=h.row y (zq4 hy)
  split at hi
  ·subst hi;exact⟨yw,fun z hz=>zqf (yK z hz) (zx2 aZ zE)⟩
  ·subst hi;unfold bcR;exact⟨by rw[aiH zE (zq6 _)];exact yw,au9 yK ht.2 hp (yK _ (abC zE))⟩
theorem BI.step{s:BS}{r w K col:Nat}(h:BI s r w K)(htop:s.ps.length < r)(hcol:col < w):BI (yS s col) r w (2*K+1):=by
 unfold yS
 split
 ·exact h.mono zE
 ·exact(h.swap (i:=_)).clear (col:=col) htop hcol
theorem BI.run{r w:Nat}:∀(n col:Nat) {s:BS} {K:Nat},BI s r w K->col+n<=w->BI (oJ n col s) r w (kz K n)
 |0,col,s,K,h,_=>h
 |n+1,col,s,K,h,hw=>by
  by_cases hl:s.ps.length < s.M.length
  ·rw[show oJ (n+1) col s=oJ n (col+1) (yS s col)from if_pos hl]
   exact BI.run n (col+1) (h.step (by rw[<-h.len];exact hl) zE) zE
  ·rw[uZ (.inr hl)];exact h.mono (akl _ _)
def bS0(M:List (List Int)):BS:=⟨M,[],1,false⟩
def abo(s:BS)(n:Nat):Int:=if s.ps.length < n then 0 else if s.odd then -s.la else s.la
def aln(M:List (List Int))(n:Nat):Int:=abo (oJ n 0 (bS0 M)) n
theorem aqO{M:List (List Int)}{n K:Nat}(h:BI (bS0 M) n n K):(aln M n).natAbs < WB ^ kz K n:=by
 have hR:=(BI.run (r:=n) (w:=n) n 0 h zE).la
 unfold aln abo
 split
 ·exact Nat.pow_pos aZ
 ·split
  ·rw[Int.natAbs_neg];exact hR
  ·exact hR
example:aln [[1,2],[3,4]] 2= -2:=by decide+kernel
end
section
attribute [local irreducible] IntKind.wrap Go1 Reg WP aJ aN bF bD aM aA ak aj aT Sat
attribute [local irreducible] bK bO bM bS bN qv bZ mf
abbrev oH(js:List Nat)(c:List (List Int)):mF:=iE 32 25 2 zC js c
abbrev BwI:=List Nat×List (List Int)
abbrev bwC(cols:Nat)(la:Int)(odd:Bool)(pv:Atom):List Atom:=[uj 91 0,.c (.val (.int .i64 (cols:Int))),pv,.c (.val (.bool (decide (la < 0)))),.c (.sat (bU la.natAbs)),.c (.val (.bool odd))]
abbrev bwL(js:List Nat)(c:List (List Int))(ps:List Nat):List (Nat×Ent):=[(91,.abs (oH js c)),(92,PivE ps)]
def bwE(s:BS)(cols:Nat):mF:=
 jL 81 (fun p:BwI=>p.1.Nodup/\(∀j∈p.1,j < p.2.length)/\p.1.map (fun j=>p.2.getD j [])=s.M) 387 (fun _=>bwC cols s.la s.odd (.own 92)) (fun p=>bwL p.1 p.2 s.ps)
theorem zX{P:Program}{C:Ctx}{st:St}{Q:Exit->St->Prop}{cd:Code}{s:BS}{cols:Nat}(hb:st.hp 81= .ent (.abs (bwE s cols)))(h1:st.hp 91= .free)(h2:st.hp 92= .free)(f1:C.fix 91=false)(f2:C.fix 92=false)
  (h:∀js c,js.Nodup->(∀j∈js,j < c.length)->js.map (fun j=>c.getD j [])=s.M->WP P C cd (uR st 81 387 (bwC cols s.la s.odd (.own 92)) (bwL js c s.ps)) Q):WP P C cd st Q:=
 WP.agn (ι:=BwI) (b:=81) [91,92] hb (fun p=>rfl) (by intro i hi;simp at hi;rcases hi with rfl|rfl <;> assumption) (by intro i hi;simp at hi;rcases hi with rfl|rfl <;> assumption)
  (by intro p i hi;exact .inl (by simpa[Atom.ids]using hi)) (by intro p i e he;simp at he;rcases he with⟨rfl,rfl⟩|⟨rfl,rfl⟩ <;> rfl) (fun p hp=>h p.1 p.2 hp.1 hp.2.1 hp.2.2)
theorem lY{C:Ctx}{st:St}{s:BS}{cols:Nat}{cells0:List Atom}(js:List Nat)(c:List (List Int))(ρ:List (Nat×Option Nat))(os:List Nat)(hnd:js.Nodup)(hlt:∀j∈js,j < c.length)(hM:js.map (fun j=>c.getD j [])=s.M)(hb:st.hp 81= .ent (.box 387 cells0))
  (hc:nT ρ cells0 (bwC cols s.la s.odd (.own 92))) (hR:aaE st ρ (bwL js c s.ps))
  (hos:((bwL js c s.ps).all fun q=>match SX.src ρ q.1 with|some o=>jv os o|none=>true)=true) (hbo:jv os 81=false) (hdi:((bwL js c s.ps).all fun q=>(bwL js c s.ps).all fun q'=>Nat.beq q.1 q'.1||!(eqO (SX.src ρ q.1) (SX.src ρ q'.1)))=true) (hfb:lk ρ 81=none:=by rfl):
  St.le C st (qw st 81 (bwE s cols) os):=
 St.aaD (ι:=BwI) (b:=81) (js,c) ρ os ⟨hnd,hlt,hM⟩ hb hc hR hos hbo hdi hfb
def zrK(va:Nat->Nat->Int)(i k:Nat):List Int:=(List.range k).map (va i)
def zgM(va:Nat->Nat->Int)(c r:Nat):List (List Int):=(List.range r).map fun i=>zrK va i c
theorem apK{va:Nat->Nat->Int}{i k:Nat}:zrK va i (k+1)=zrK va i k++[va i k]:=by unfold zrK;rw[List.range_succ,List.map_append];rfl
theorem aiV{va:Nat->Nat->Int}{i k:Nat}:(zrK va i k).length=k:=by simp[zrK]
theorem ajq{va:Nat->Nat->Int}{c r:Nat}:(zgM va c r).length=r:=by simp[zgM]
theorem aqZ{va:Nat->Nat->Int}{c r:Nat}:(List.range r).map (fun j=>(zgM va c r).getD j [])=zgM va c r:=by
 unfold zgM;refine zvg fun j hj=>?_
 rw[zx7,zqa,zvb (List.mem_range.1 hj)];rfl
theorem ahL{va:Nat->Nat->Int}{c i:Nat}:oH (List.range i++[(zgM va c i).length]) (zgM va c i++[zrK va i c])=oH (List.range (i+1)) (zgM va c (i+1)):=by
 rw[ajq,List.range_succ];unfold zgM;rw[List.range_succ,List.map_append];rfl
theorem ahs(r c:Nat)(x:Rep)(va:Nat->Nat->Int)(hr:r<=100)(hc:c<=100)
  (hA:∀i k,i < r->k < c->ah prog 204 [.agg (zO r c x),.v (.int .i64 (i:Int)),.v (.int .i64 (k:Int))] (.agg (zN (va i k)))):
  aj prog 421 [.agg (zO r c x)] [] ⟨.ptr 81 0,[(81,.ent (.abs (bwE (bS0 (zgM va c r)) c)))]⟩:=by
 have n81:Named 11 81:=⟨⟩;have o1:=anb;refine aj.fnA func421 results421 ntmps421 rfl rfl rfl rfl rfl rfl rfl rfl fun _ _ _ _ _=>?_
 refine zg ?_;refine W.loop (fun i=>i<=r) (fun i=>[(1,.ptr 1 0),(3,.ptr 81 0),(13,.v (.int .i64 (r:Int))),(14,.v (.int .i64 (i:Int)))]) (fun i=>[(1,.box 153 (zO r c x)),(81,.box 387 (bwC c 1 false (.c (.val (.slice none 0 0))))),(91,.abs (oH (List.range i) (zgM va c i)))]) (fun i=>r - i) 0 (zq8 _) (fun i hi=>?_)
  (by
   refine St.bV [(91,none)] zt ?_ ?_ rfl
   ·exact ya
   ·exact⟨ay.same rfl rfl,ay.nW rfl rfl ⟨aD.atV rfl,aD.same rfl,aD.same rfl,aD.same rfl,aD.same rfl,aD.same rfl,trivial⟩,ay.aqW rfl,trivial⟩)
 by_cases h:i < r
 ·refine zg ?_;refine W.loop (fun k=>k<=c) (fun k=>[(1,.ptr 1 0),(3,.ptr 81 0),(4,.v (.int .i64 (i:Int))),(5,.own 100),(13,.v (.int .i64 (r:Int))),(14,.v (.int .i64 (i:Int))),(18,.v (.int .i64 (c:Int))),(19,.v (.int .i64 (k:Int)))]) (fun k=>[(1,.box 153 (zO r c x)),(81,.box 387 (bwC c 1 false (.c (.val (.slice none 0 0))))),(91,.abs (oH (List.range i) (zgM va c i))),(100,.row 25 2 k ((zrK va i k).flatMap zC))]) (fun k=>c - k) 0 (zq8 _) (fun k hk=>?_)
   (by
    refine St.bV [(100,none)] zt ?_ ?_ rfl
    ·exact yf
    ·exact⟨ay.same rfl rfl,ay.same rfl rfl,ay.same rfl rfl,ay.dZ rfl,trivial⟩)
  by_cases h2:k < c
  ·have hf:=hA i k h h2;refine zg ?_;refine W.next (k+1) h2 zE (by
    have e2:(zrK va i k).flatMap zC++zC (va i k)=(zrK va i (k+1)).flatMap zC:=by rw[apK,zvc];simp
    refine St.bV [(100,some 28)] zt ?_ ?_ rfl
    ·exact yb
    ·exact⟨ay.same rfl rfl,ay.same rfl rfl,ay.same rfl rfl,ay.row rfl rfl rfl e2,trivial⟩)
  ·obtain rfl:k=c:=zE
   have hlen:k=(zrK va i k).length:=aiV.symm;have hjs:(List.range i).length=i:=zy1;refine zg ?_;refine SX.Go1.litH (l:=zrK va i k) (enc:=zC) rfl rfl rfl rfl hlen rfl ?_;refine zg ?_;refine W.next (i+1) h zE (by
    refine St.bV [(91,some 37)] zt ?_ ?_ rfl
    ·exact ya
    ·exact⟨ay.same rfl rfl,ay.nW rfl rfl ⟨aD.rel rfl,aD.same rfl,aD.same rfl,aD.same rfl,aD.same rfl,aD.same rfl,trivial⟩,ay.abs rfl rfl ahL,trivial⟩)
 ·obtain rfl:i=r:=zE
  refine zg ?_;refine aM.le (lY (s:=bS0 (zgM va c i)) (List.range i) (zgM va c i) [(92,none)] [91] List.nodup_range (fun j hj=>by simpa[zgM]using hj) aqZ rfl ⟨aD.same rfl,aD.same rfl,aD.nil rfl,aD.same rfl,aD.same rfl,aD.same rfl,trivial⟩ ⟨ay.same rfl rfl,ay.dZ rfl,trivial⟩ rfl rfl rfl) ?_
  exact gG (xs:=[.one (.ptr 81 0)]) ⟨ak.tmp rfl,trivial⟩ ⟨rfl,trivial⟩
theorem arP{α:Type}(l:List α)(i:Nat):sw l i i=l:=by
 unfold sw;cases h:l[i]? with
 |none=>rfl
 |some a=>
  show (l.set i a).set i a=l;rw[List.set_set];apply zyb
  intro j;rw[zv2]
  by_cases hj:i=j
  ·subst hj;rw[if_pos rfl,if_pos (vX h),h]
  ·rw[if_neg hj]
theorem afg{z:Int}:aS z=0↔z=0:=by
 unfold aS
 split
 ·rename_i h;exact⟨fun _=>h,fun _=>rfl⟩
 ·rename_i h
  split
  ·exact⟨fun h2=>zE,fun h2=>absurd h2 h⟩
  ·exact⟨fun h2=>zE,fun h2=>absurd h2 h⟩
def kZ(s:BS)(col:Nat):BS:=if oV s.M s.ps.length col < 0 then s else amW s (oV s.M s.ps.length col).toNat
theorem akT(s:BS)(cols col w K r:Nat)(hI:BI s r w K)(hcol:col < w)(hK:K<=1000000000)(hr:r<=100)(htop:s.ps.length < r):
  aj prog 474 [.ptr 81 0,.v (.int .i64 (col:Int))] [(81,.abs (bwE s cols))] ⟨.v (.bool (decide (0<=oV s.M s.ps.length col))),[(81,.ent (.abs (bwE (kZ s col) cols)))]⟩:=by
 obtain⟨M,ps,la,odd⟩:=s;have hl:M.length=r:=hI.len;refine aj.fnA func474 results474 ntmps474 rfl rfl rfl rfl rfl rfl rfl rfl fun _ _ _ _ _=>?_
 refine zX rfl rfl rfl rfl rfl (fun js c hnd hlt hjM=>?_)
 have hjM:js.map (fun j=>c.getD j [])=M:=hjM
 have hlen:js.length=M.length:=by rw[<-hjM,zq5]
 dsimp only at htop ⊢
 refine zg ?_;refine W.loop (fun i=>ps.length<=i/\i<=M.length/\fi (nzZ col) (M.drop i) i=oV M ps.length col) (fun i=>[(0,.ptr 81 0),(1,.v (.int .i64 (col:Int))),(5,.v (.int .i64 (ps.length:Int))),(6,.v (.int .i64 (i:Int)))]) (fun i=>[(81,.box 387 (bwC cols la odd (.own 92))),(91,.abs (oH js c)),(92,PivE ps)]) (fun i=>M.length - i) ps.length ⟨zq6 _,zE,rfl⟩ (fun i ⟨hi0,hi,he⟩=>?_)
  (by
   refine St.bV [] (by intro b h;exact SX.dX h rfl) ?_ ?_ rfl
   ·exact ya
   ·exact⟨ay.same rfl rfl,ay.same rfl rfl,ay.same rfl rfl,trivial⟩)
 by_cases h:i < M.length
 ·obtain⟨ji,hji⟩:∃j,js[i]? =some j:=⟨_,zyh (show i < js.length by omega)⟩
  obtain⟨jt,hjt⟩:∃j,js[ps.length]? =some j:=⟨_,zyh (show ps.length < js.length by omega)⟩
  have lji:=hlt ji (zq4 hji);have ljt:=hlt jt (zq4 hjt);obtain⟨row,hrow⟩:∃x,c[ji]? =some x:=⟨_,zyh lji⟩
  have hgd:c.getD ji []=row:=by rw[zx7,hrow];rfl
  have hMi:M[i]? =some row:=by rw[<-hjM,zqa,hji,<-hgd];rfl
  obtain⟨hw,hwK⟩:=hI.row row (zq4 hMi);obtain⟨v,hv⟩:∃v,row[col]? =some v:=⟨_,zyh (show col < row.length by omega)⟩
  have hvd:row.getD col 0=v:=by rw[zx7,hv];rfl
  haveI i1:Bd v K:=⟨hwK v (zq4 hv)⟩
  rw[tK hMi]at he;by_cases h0:v=0
  ·have hs:aS v=0:=afg.2 h0;have hn:nzZ col row=false:=by unfold nzZ;rw[hvd,h0];rfl
   rw[hn,if_neg zc]at he
   refine zg ?_;refine W.next (i+1) ⟨zE,h,he⟩ zE (by
    refine St.bV [] (by intro b h;exact SX.dX h rfl) ?_ ?_ rfl
    ·exact ya
    ·exact⟨ay.same rfl rfl,ay.same rfl rfl,ay.same rfl rfl,trivial⟩)
  ·have hs:¬aS v=0:=fun h2=>h0 (afg.1 h2)
   have hn:nzZ col row=true:=by unfold nzZ;rw[hvd];exact decide_eq_true h0
   rw[hn,if_pos rfl]at he;have e1:decide (0<=oV M ps.length col)=true:=decide_eq_true zE
   have e2:kZ ⟨M,ps,la,odd⟩ col=⟨sw M i ps.length,ps,la,if i=ps.length then odd else !odd⟩:=by
    unfold kZ
    dsimp only
    rw[if_neg zE,<-he];rfl
   rw[e1,e2];by_cases ht:i=ps.length
   ·subst ht;rw[arP,if_pos rfl];refine zg ?_;refine aM.le (lY (s:=⟨M,ps,la,odd⟩) js c [] [91,92] hnd hlt hjM rfl ⟨aD.same rfl,aD.same rfl,aD.same rfl,aD.same rfl,aD.same rfl,aD.same rfl,trivial⟩ ⟨ay.same rfl rfl,ay.same rfl rfl,trivial⟩ rfl rfl rfl) ?_;exact gG (xs:=[.one (.c (.val (.bool true)))]) ⟨ak.tmp rfl,trivial⟩ ⟨rfl,trivial⟩
   ·rw[if_neg ht];have l1:(js.set i jt).length=js.length:=zvf;have hsw:((js.set i jt).set ps.length ji).map (fun j=>c.getD j [])=sw M i ps.length:=by rw[<-hjM];exact(au8 _ hji hjt).symm
    refine zg ?_;refine aM.le (lY (s:=⟨sw M i ps.length,ps,la,!odd⟩) ((js.set i jt).set ps.length ji) c [] [91,92] (anu hnd hji hjt) (fun j hj=>?_) hsw rfl ⟨aD.same rfl,aD.same rfl,aD.same rfl,aD.same rfl,aD.same rfl,aD.same rfl,trivial⟩ ⟨ay.same rfl rfl,ay.same rfl rfl,trivial⟩ rfl rfl rfl) ?_
    ·rcases List.mem_or_eq_of_mem_set hj with hj|hj
     ·rcases List.mem_or_eq_of_mem_set hj with hj|hj
      ·exact hlt j hj
      ·rw[hj];exact ljt
     ·rw[hj];exact lji
    ·exact gG (xs:=[.one (.c (.val (.bool true)))]) ⟨ak.tmp rfl,trivial⟩ ⟨rfl,trivial⟩
 ·obtain rfl:i=M.length:=zE
  rw[zvh]at he;have e0:oV M ps.length col= -1:=he.symm;have e1:decide (0<=oV M ps.length col)=false:=decide_eq_false zE
  have e2:kZ ⟨M,ps,la,odd⟩ col=⟨M,ps,la,odd⟩:=by
   unfold kZ
   dsimp only
   rw[if_pos zE]
  rw[e1,e2];refine zg ?_;refine aM.le (lY (s:=⟨M,ps,la,odd⟩) js c [] [91,92] hnd hlt hjM rfl ⟨aD.same rfl,aD.same rfl,aD.same rfl,aD.same rfl,aD.same rfl,aD.same rfl,trivial⟩ ⟨ay.same rfl rfl,ay.same rfl rfl,trivial⟩ rfl rfl rfl) ?_;exact gG (xs:=[.one (.c (.val (.bool false)))]) ⟨ak.tmp rfl,trivial⟩ ⟨rfl,trivial⟩
end
section
theorem amI{P:Program}{C:Ctx}{ops:List Oper}{rest:List Oper}{st:St}{acc:_}{K:_}{d:Tmp}{ty:TypeId}{f:FuncId}{xs:Array Operand}{tys:Array TypeId}{args:List AV}{b:Nat}{A:mF}{e:Int}(hc:aj P f args [] ⟨.tup [.one (.ptr b 0),eNo e],[(b,.ent (.abs A))]⟩)(ha:evs st xs.toList=some args)(hd:aC (some d) C.nt=true)(hf:st.hp b= .free)
  (next:Reg P C ops rest (st.app (some d) ⟨.tup [.one (.ptr b 0),eNo e],[(b,.ent (.abs A))]⟩) (([b],[b])::acc) K):Go1 P C ops (some d) (.call ⟨.value (.func f),xs,tys⟩) ty rest st acc K:=
 Go1.aau (cap:=[]) (pre:=[]) (out:=⟨.tup [.one (.ptr b 0),eNo e],[(b,.ent (.abs A))]⟩) (fp:=[b]) hd rfl ha (by simpa using hc) (fun b e hb=>by cases hb) (fun b s hb=>by simp at hb;rw[hb.1];exact .inr hf) (fun b s hb=>by simp at hb;rw[hb.2];rfl) (fun b s hb=>by simp at hb;simp[hb.1])
  (fun i hi=>by
   left
   rcases hi with hi|⟨b,e,hb,hi⟩
   ·have:i=b:=by simpa[AV.ids,AV0.ids,Atom.ids]using hi
    subst this;exact⟨_,by simp;rfl⟩
   ·simp at hb;obtain⟨rfl,rfl⟩:=hb;cases hi) next
theorem anH{P:Program}{C:Ctx}{ops:List Oper}{rest:List Oper}{st:St}{acc:_}{K:_}{d:Tmp}{ty:TypeId}{f:FuncId}{xs:Array Operand}{tys:Array TypeId}{args:List AV}{b:Nat}{A:mF}(hc:aj P f args [] ⟨.ptr b 0,[(b,.ent (.abs A))]⟩)(ha:evs st xs.toList=some args)(hd:aC (some d) C.nt=true)(hf:st.hp b= .free)
  (next:Reg P C ops rest (st.app (some d) ⟨.ptr b 0,[(b,.ent (.abs A))]⟩) (([b],[b])::acc) K):Go1 P C ops (some d) (.call ⟨.value (.func f),xs,tys⟩) ty rest st acc K:=
 Go1.aau (cap:=[]) (pre:=[]) (out:=⟨.ptr b 0,[(b,.ent (.abs A))]⟩) (fp:=[b]) hd rfl ha (by simpa using hc) (fun b e hb=>by cases hb) (fun b s hb=>by simp at hb;rw[hb.1];exact .inr hf) (fun b s hb=>by simp at hb;rw[hb.2];rfl) (fun b s hb=>by simp at hb;simp[hb.1])
  (fun i hi=>by
   left
   rcases hi with hi|⟨b,e,hb,hi⟩
   ·have:i=b:=by simpa[AV.ids,AV0.ids,Atom.ids]using hi
    subst this;exact⟨_,by simp;rfl⟩
   ·simp at hb;obtain⟨rfl,rfl⟩:=hb;cases hi) next
attribute [local irreducible] IntKind.wrap Go1 Reg WP aJ aN bF bD aM aA ak aj aT Sat
attribute [local irreducible] bK bO bM bS bN qv bZ mf
theorem ahE(s:BS)(cols col w K r:Nat)(hI:BI s r w K)(hcol:col < w)(hK:K<=1000000)(hr:r<=100)(hw:w<=100)(htop:s.ps.length < r):
  aj prog 475 [.ptr 81 0,.v (.int .i64 (col:Int))] [(81,.abs (bwE s cols))] ⟨.tup [],[(81,.ent (.abs (bwE (yN s col) cols)))]⟩:=by
 obtain⟨M,ps,la,odd⟩:=s;have hl:M.length=r:=hI.len
 haveI iL:Bd la K:=⟨hI.la⟩
 refine aj.fnA func475 results475 ntmps475 rfl rfl rfl rfl rfl rfl rfl rfl fun _ _ _ _ _=>?_
 refine zX rfl rfl rfl rfl rfl (fun js c hnd hlt hjM=>?_)
 have hjM:js.map (fun j=>c.getD j [])=M:=hjM
 have hlen:js.length=M.length:=by rw[<-hjM,zq5]
 have htop:ps.length < r:=htop
 dsimp only
 obtain⟨jb,hjb⟩:∃j,js[ps.length]? =some j:=⟨_,zyh (show ps.length < js.length by omega)⟩
 have ljb:=hlt jb (zq4 hjb);obtain⟨b,hb⟩:∃x,c[jb]? =some x:=⟨_,zyh ljb⟩
 have hgd:c.getD jb []=b:=by rw[zx7,hb];rfl
 have hMb:M[ps.length]? =some b:=by rw[<-hjM,zqa,hjb,<-hgd];rfl
 obtain⟨hbw,hbK⟩:=hI.row b (zq4 hMb);obtain⟨p,hp⟩:∃v,b[col]? =some v:=⟨_,zyh (show col < b.length by omega)⟩
 have hpd:b.getD col 0=p:=by rw[zx7,hp];rfl
 haveI iP:Bd p K:=⟨hbK p (zq4 hp)⟩
 refine zg ?_;refine W.loop (fun i=>ps.length+1<=i/\i<=M.length) (fun i=>[(0,.ptr 81 0),(1,.v (.int .i64 (col:Int))),(4,.v (.int .i64 (ps.length:Int))),(5,.it (.one (uj 91 (jb+1)))),(6,.v (.int .i64 (i:Int)))]) (fun i=>[(81,.box 387 (bwC cols la odd (.own 92))),(91,.abs (oH js (lD js ps.length col la b c i))),(92,PivE ps)]) (fun i=>M.length - i) (ps.length+1) ⟨zq6 _,zE⟩ (fun i ⟨hi0,hi⟩=>?_)
  (by
   rw[abt _ (zq6 _)];refine St.bV [] (by intro b h;exact SX.dX h rfl) ?_ ?_ rfl
   ·exact ya
   ·exact⟨ay.same rfl rfl,ay.same rfl rfl,ay.same rfl rfl,trivial⟩)
 by_cases h:i < M.length
 ·obtain⟨ji,hji⟩:∃j,js[i]? =some j:=⟨_,zyh (show i < js.length by omega)⟩
  have lji:=hlt ji (zq4 hji);have hne:ji≠jb:=ano hnd hji hjb zE
  obtain⟨x,hx⟩:∃x,c[ji]? =some x:=⟨_,zyh lji⟩
  have hxd:c.getD ji []=x:=by rw[zx7,hx];rfl
  have hMi:M[i]? =some x:=by rw[<-hjM,zqa,hji,<-hxd];rfl
  obtain⟨hxw,hxK⟩:=hI.row x (zq4 hMi);obtain⟨f,hf⟩:∃v,x[col]? =some v:=⟨_,zyh (show col < x.length by omega)⟩
  have hfd:x.getD col 0=f:=by rw[zx7,hf];rfl
  haveI iF:Bd f K:=⟨hxK f (zq4 hf)⟩
  have hcx:(lD js ps.length col la b c i)[ji]? =some x:=by rw[oM hnd i hji (.inl (zq6 _))];exact hx
  have hcb:(lD js ps.length col la b c i)[jb]? =some b:=by rw[oM hnd i hjb (.inr (zq6 _))];exact hb
  have hnx:lD js ps.length col la b c (i+1)=(lD js ps.length col la b c i).set ji (bcL x b p f la x.length):=by
   conv=>lhs;unfold lD;rw[if_neg zE,hji]
   dsimp only
   rw[zx7,hcx]
   show _=_;unfold bcR;rw[hpd];show (lD js ps.length col la b c i).set ji (bcL x b p (x.getD col 0) la x.length)=_;rw[hfd]
  have hci:(lD js ps.length col la b c i).length=c.length:=rM i;generalize lD js ps.length col la b c i=ci at*;refine zg ?_;refine W.loop (fun k=>k<=x.length) (fun k=>[(0,.ptr 81 0),(1,.v (.int .i64 (col:Int))),(4,.v (.int .i64 (ps.length:Int))),(5,.it (.one (uj 91 (jb+1)))),(6,.v (.int .i64 (i:Int))),(7,.it (.one (uj 91 (ji+1)))),(8,.ptr 8 0),(46,.v (.int .i64 (x.length:Int))),(47,.v (.int .i64 (k:Int)))]) (fun k=>[(81,.box 387 (bwC cols la odd (.own 92))),(91,.abs (oH js (ci.set ji (bcL x b p f la k)))),(92,PivE ps),(8,.box 25 (zN f))]) (fun k=>x.length - k) 0 (zq8 _) (fun k hk=>?_)
   (by
    have e:oH js ci=oH js (ci.set ji (bcL x b p f la 0)):=by
     rw[amE]
     congr 1
     apply zyb
     intro n;rw[zv2]
     by_cases hn:ji=n
     ·subst hn;rw[if_pos rfl,if_pos zE,hcx]
     ·rw[if_neg hn]
    refine St.bV [] (by intro b h;exact SX.dX h rfl) ?_ ?_ rfl
    ·exact ya
    ·exact⟨ay.same rfl rfl,ay.eq rfl (congrArg Ent.abs e) rfl,ay.same rfl rfl,ay.same rfl rfl,trivial⟩)
  have lci:ji < ci.length:=zE
  by_cases h2:k < x.length
  ·obtain⟨a,ha⟩:∃a,x[k]? =some a:=⟨_,zyh h2⟩
   obtain⟨y,hy⟩:∃y,b[k]? =some y:=⟨_,zyh (show k < b.length by omega)⟩
   haveI iA:Bd a K:=⟨hxK a (zq4 ha)⟩
   haveI iY:Bd y K:=⟨hbK y (zq4 hy)⟩
   have ga:=arQ (p:=p) (f:=f) (l:=la) (show x.length=b.length by omega) ha
   have gl:=aiH (p:=p) (f:=f) (l:=la) (show x.length=b.length by omega) hk
   have c1:(ci.set ji (bcL x b p f la k))[ji]? =some (bcL x b p f la k):=by rw[zv2,if_pos rfl,if_pos lci]
   have c2:(ci.set ji (bcL x b p f la k))[jb]? =some b:=by rw[zv2,if_neg hne];exact hcb
   have e1:oH js ((ci.set ji (bcL x b p f la k)).set ji ((bcL x b p f la k).set k (eZ (a*p - f*y) la)))=oH js (ci.set ji (bcL x b p f la (k+1))):=by rw[arY zE ha hy,List.set_set]
   refine zg ?_;refine W.next (k+1) h2 zE (by
    refine St.bV [] (by intro b h;exact SX.dX h rfl) ?_ ?_ rfl
    ·exact ya
    ·exact⟨ay.same rfl rfl,ay.eq rfl (congrArg Ent.abs e1) rfl,ay.same rfl rfl,ay.same rfl rfl,trivial⟩)
  ·have hkx:k=x.length:=zE
   subst hkx;refine zg ?_;refine W.next (i+1) ⟨zE,h⟩ zE (by
    refine St.bV [] (by intro b h;exact SX.dX h rfl) ?_ ?_ rfl
    ·exact ya
    ·exact⟨ay.same rfl rfl,ay.eq rfl (congrArg (fun q=>Ent.abs (oH js q)) hnx.symm) rfl,ay.same rfl rfl,trivial⟩)
 ·obtain rfl:i=M.length:=zE
  have hcb:(lD js ps.length col la b c M.length)[jb]? =some b:=by rw[oM hnd _ hjb (.inr (zq6 _))];exact hb
  have hlaw:=aqo (l:=la) (col:=col) hjM hlt hnd hjb hb hlen.symm;have e2:yN ⟨M,ps,la,odd⟩ col=⟨bcM M ps.length col la,ps++[col],p,odd⟩:=by
   have hg:M.getD ps.length []=b:=by rw[zx7,hMb];rfl
   unfold yN
   dsimp only
   rw[hg,hpd]
  have hci:∀j∈js,j < (lD js ps.length col la b c M.length).length:=fun j hj=>by rw[rM];exact hlt j hj
  rw[e2];generalize lD js ps.length col la b c M.length=ci at*;refine zg ?_;refine aM.le (lY (s:=⟨bcM M ps.length col la,ps++[col],p,odd⟩) js ci [(92,some 93)] [91,93] hnd hci hlaw rfl ⟨aD.same rfl,aD.same rfl,aD.own rfl,aD.same rfl,aD.same rfl,aD.same rfl,trivial⟩ ⟨ay.same rfl rfl,ay.row rfl rfl (by rw[zqi];rfl) (by rw[zvc];rfl),trivial⟩ rfl rfl rfl) ?_
  exact gG (xs:=[]) trivial ⟨rfl,trivial⟩
theorem agy{s:BS}{col:Nat}(h:¬oV s.M s.ps.length col < 0):yS s col=yN (kZ s col) col:=by
 unfold yS kZ;rw[if_neg h,if_neg h]
theorem an4(s0:BS)(cols w K r:Nat)(hI:BI s0 r w K)(hcol:cols<=w)(hr:r<=100)(hw:w<=100)(hkz:kz K cols<=1000000):
  aj prog 422 [.ptr 81 0] [(81,.abs (bwE s0 cols))] ⟨.tup [],[(81,.ent (.abs (bwE (oJ cols 0 s0) cols)))]⟩:=by
 refine aj.fnA func422 results422 ntmps422 rfl rfl rfl rfl rfl rfl rfl rfl fun _ _ _ _ _=>?_
 refine zg ?_;refine W.nZ (fun(col:Nat) (s:BS)=>col<=cols/\oJ (cols - col) col s=oJ cols 0 s0/\BI s r w (kz K col)) (fun col s=>[(0,.ptr 81 0),(2,.v (.int .i64 (col:Int)))]) (fun col s=>[(81,.abs (bwE s cols))]) (fun col s=>cols - col) 0 s0 ⟨zq8 _,rfl,hI⟩ (fun col s hq=>?_)
  (by
   refine St.bV [] (by intro b h;exact SX.dX h rfl) ?_ ?_ rfl
   ·exact ya
   ·exact⟨ay.same rfl rfl,trivial⟩)
 obtain⟨hq1,hq2,hq3⟩:=hq;have hlM:=hq3.len;have hkm:kz K col<=1000000:=by
  have hmono:∀n m,kz K n<=kz K (n+m):=fun n m=>by
   induction m with
   |zero=>exact zq6 _
   |succ m ih=>rw[<-Nat.add_assoc,vB];omega
  have:=hmono col (cols - col);rw[show col+(cols - col)=cols by omega]at this
  omega
 refine zX rfl rfl rfl rfl rfl (fun js c hnd hlt hjM=>?_)
 have hlen:js.length=s.M.length:=by rw[<-hjM,zq5]
 by_cases h1:col < cols
 ·by_cases h2:s.ps.length < s.M.length
  ·have hh:=Hide.mk h2;clear h2;refine zg ?_;refine WP.weaken (lY (s:=s) js c [] [91,92] hnd hlt hjM rfl ⟨aD.same rfl,aD.same rfl,aD.same rfl,aD.same rfl,aD.same rfl,aD.same rfl,trivial⟩ ⟨ay.same rfl rfl,ay.same rfl rfl,trivial⟩ rfl rfl rfl) ?_;have h2:=hh.out;have cF:=akT s cols col w (kz K col) r hq3 zE zE hr zE
   have hn:∃n,cols - col=n+1:=⟨cols - col - 1,zE⟩
   by_cases h3:oV s.M s.ps.length col < 0
   ·rw[decide_eq_false (show¬0<=oV s.M s.ps.length col by omega),show kZ s col=s from if_pos h3]at cF
    refine zg ?_;refine W.nM (col+1) s ⟨h1,?_,by rw[vB];exact hq3.mono zE⟩ zE (by
     refine St.bV [] (by intro b h;exact SX.dX h rfl) ?_ ?_ rfl
     ·exact ya
     ·exact⟨ay.same rfl rfl,trivial⟩)
    rw[<-hq2];obtain⟨n,hn⟩:=hn;rw[hn,show cols - (col+1)=n by omega]
    conv=>rhs;unfold oJ;rw[if_pos h2]
    rw[show yS s col=s from if_pos h3]
   ·rw[decide_eq_true (show 0<=oV s.M s.ps.length col by omega)]at cF
    have hFI:BI (kZ s col) r w (kz K col):=by
     unfold kZ;rw[if_neg h3];exact hq3.swap
    have hFp:(kZ s col).ps=s.ps:=by unfold kZ;rw[if_neg h3];rfl
    have cC:=ahE (kZ s col) cols col w (kz K col) r hFI zE zE hr hw (by rw[hFp];omega)
    rw[<-agy h3]at cC;refine zg ?_;refine W.nM (col+1) (yS s col) ⟨h1,?_,by rw[vB];exact hq3.step zE zE⟩ zE (by
     refine St.bV [] (by intro b h;exact SX.dX h rfl) ?_ ?_ rfl
     ·exact ya
     ·exact⟨ay.same rfl rfl,trivial⟩)
    rw[<-hq2];obtain⟨n,hn⟩:=hn;rw[hn,show cols - (col+1)=n by omega]
    conv=>rhs;unfold oJ;rw[if_pos h2]
  ·refine zg ?_;refine aM.le (lY (s:=s) js c [] [91,92] hnd hlt hjM rfl ⟨aD.same rfl,aD.same rfl,aD.same rfl,aD.same rfl,aD.same rfl,aD.same rfl,trivial⟩ ⟨ay.same rfl rfl,ay.same rfl rfl,trivial⟩ rfl rfl rfl) ?_;rw[<-hq2,uZ (.inr h2)];exact gG (xs:=[]) trivial ⟨rfl,trivial⟩
 ·refine zg ?_;refine aM.le (lY (s:=s) js c [] [91,92] hnd hlt hjM rfl ⟨aD.same rfl,aD.same rfl,aD.same rfl,aD.same rfl,aD.same rfl,aD.same rfl,trivial⟩ ⟨ay.same rfl rfl,ay.same rfl rfl,trivial⟩ rfl rfl rfl) ?_;rw[<-hq2,uZ (.inl zE)]
  exact gG (xs:=[]) trivial ⟨rfl,trivial⟩
theorem ahW{va:Nat->Nat->Int}{r c K:Nat}(h:∀i k,i < r->k < c->(va i k).natAbs < WB ^ K)(hK:1<=K):BI (bS0 (zgM va c r)) r c K:=by
 refine⟨ajq,fun x hx=>?_,?_⟩
 ·obtain⟨i,hi,rfl⟩:=zqg.1 hx;refine⟨aiV,fun z hz=>?_⟩
  obtain⟨k,hk,rfl⟩:=zqg.1 hz;exact h i k (List.mem_range.1 hi) (List.mem_range.1 hk)
 ·exact zqf (show (1:Int).natAbs < WB ^ 1 by rw[zxh,dn];decide) (zx2 aZ hK)
section
variable{r c K:Nat}{x:Rep}{va:Nat->Nat->Int}(hr:r<=64)(hc:c<=64)(hF:ah prog 194 [.agg (zO r c x)] (.v (.bool true)))
  (hA:∀i k,i < r->k < c->ah prog 204 [.agg (zO r c x),.v (.int .i64 (i:Int)),.v (.int .i64 (k:Int))] (.agg (zN (va i k)))) (hz:∀i k,i < r->k < c->(va i k).natAbs < WB ^ K) (hK1:1<=K) (hkz:kz K c<=1000000)
include hr hc hF hA hz hK1 hkz
theorem alU:aj prog 342 [.agg (zO r c x)] [] ⟨.tup [.one (.ptr 81 0),eNo 0],[(81,.ent (.abs (bwE (oJ c 0 (bS0 (zgM va c r))) c)))]⟩:=by
 have cb:=ahs r c x va zE zE hA
 have cR:=an4 (bS0 (zgM va c r)) c c K r (ahW hz hK1) (zq6 _) zE zE hkz
 refine aj.fnA func342 results342 ntmps342 rfl rfl rfl rfl rfl rfl rfl rfl fun _ _ _ _ _=>?_
 refine zg ?_;refine anH cb rfl rfl rfl ?_;refine zg ?_;exact gG (xs:=[.one (.ptr 81 0),eNo 0]) ⟨ak.tmp rfl,ak.tmp rfl,trivial⟩ ⟨rfl,trivial⟩
end
theorem aoV{n K:Nat}{x:Rep}{va:Nat->Nat->Int}(hn:n<=64)(hF:ah prog 194 [.agg (zO n n x)] (.v (.bool true)))
  (hA:∀i k,i < n->k < n->ah prog 204 [.agg (zO n n x),.v (.int .i64 (i:Int)),.v (.int .i64 (k:Int))] (.agg (zN (va i k)))) (hz:∀i k,i < n->k < n->(va i k).natAbs < WB ^ K) (hK1:1<=K) (hkz:kz K n<=1000000):
  ah prog 221 [.agg (zO n n x)] (.tup [.agg (zN (aln (zgM va n n) n)),eNo 0]):=by
 have cD:=alU hn hn hF hA hz hK1 hkz;have hR:=BI.run (r:=n) (w:=n) n 0 (ahW hz hK1) zE
 unfold aln;generalize oJ n 0 (bS0 (zgM va n n))=s at*;obtain⟨M,ps,la,odd⟩:=s
 haveI iL:Bd la (kz K n):=⟨hR.la⟩
 obtain⟨e,he⟩:∃e:Int,Hide (e=0):=⟨0,⟨rfl⟩⟩;have cD:aj prog 342 [.agg (zO n n x)] [] ⟨.tup [.one (.ptr 81 0),eNo e],[(81,.ent (.abs (bwE ⟨M,ps,la,odd⟩ n)))]⟩:=by rw[he.out];exact cD
 have heq:eNo 0=eNo e:=by rw[he.out]
 refine ah.fq func221 results221 ntmps221 fun _ _ _ _ _=>?_
 refine zg ?_;refine amI cD rfl rfl rfl ?_;refine zg ?_;refine zX rfl rfl rfl rfl rfl (fun js c hnd hlt hjM=>?_)
 dsimp only
 have he0:=he.out;by_cases h1:ps.length < n
 ·have e1:abo ⟨M,ps,la,odd⟩ n=0:=if_pos h1;rw[e1];refine zg ?_;exact .ok (aA.mk2 (ak.imp ak.dP zN0) (ak.tmp rfl))
 ·cases odd with
  |true=>
   have e1:abo ⟨M,ps,la,true⟩ n= -la:=by unfold abo;rw[if_neg h1,if_pos rfl]
   rw[e1];refine zg ?_;exact .ok (aA.mk2 ak.dP (ak.tmp rfl))
  |false=>
   have e1:abo ⟨M,ps,la,false⟩ n=la:=by unfold abo;rw[if_neg h1];rfl
   rw[e1];refine zg ?_;exact .ok (aA.mk2 ak.dP (ak.tmp rfl))
end
