import Derived.Test.YtcamgbgfelmbaaaGreatDoorO4
import Derived.Test.YtcamgbgfelmbaaaGreatDoorO3
set_option linter.all false
open Go.Proofs.Tryz
namespace Go.Proofs.YtcamgbgfelmbaaaGreatDoor
open Go.RowKit QM SX LA
variable{C:SX.Ctx}{a f l p x:Int}{ao:List SX.AV}{b:List Int}{K c col cols k r w:Nat}{va:Nat->Nat->Int}{P:Go.Program}{st:SX.St}{d:Go.Tmp}{ty:Go.TypeId}
section
def nzZ(col:Nat)(r:List Int):Bool:=decide (r.getD col 0≠0)
def bcL(r b:List Int)(p f l:Int)(k:Nat):List Int:=List.zipWith (fun a x=>gJ (a*p - f*x) l) (r.take k) (b.take k)++r.drop k
def vM{α:Type}{l:List α}{a:α}(h:l[k]? =some a):k < l.length:=by
 rcases zyd k l.length with h2|h2
 ·exact h2
 ·rw[zqe h2]at h;cases h
def agJ{r:List Int}(h:r.length=b.length)(hk:k<=r.length):(bcL r b p f l k).length=r.length:=by
 unfold bcL;simp;omega
def awS{r:List Int}(h:r.length=b.length)(ha:r[k]? =some a):(bcL r b p f l k)[k]? =some a:=by
 have hk:=vM ha;unfold bcL;rw[zv6 (by simp;omega)]
 simp only[List.length_zipWith,zx3,zv1]
 rw[show min (min k r.length) (min k b.length)=k by omega,Nat.sub_self,zvi];exact ha
def axl{r:List Int}(h:r.length=b.length)(ha:r[k]? =some a)(hb:b[k]? =some x):(bcL r b p f l k).set k (gJ (a*p - f*x) l)=bcL r b p f l (k+1):=by
 have hk:=vM ha;apply zyb
 intro i;rw[zv2]
 unfold bcL;by_cases hi:k=i
 ·subst hi;rw[if_pos rfl,if_pos (by simp;omega)]
  rw[zyj (by simp;omega),List.getElem?_zipWith]
  simp[ha,hb]
 ·rw[if_neg hi];by_cases hlt:i < k
  ·rw[zyj (by simp;omega),zyj (by simp;omega),List.getElem?_zipWith,List.getElem?_zipWith]
   simp[zy9,hlt,show i < k+1 by omega]
  ·rw[zv6 (by simp;omega),zv6 (by simp;omega)]
   simp only[List.length_zipWith,zx3,zv1]
   congr 1
   omega
def asq{r:List Int}:bcL r b p f l 0=r:=by unfold bcL;simp
def bcR(b:List Int)(col:Nat)(l:Int)(r:List Int):List Int:=bcL r b (b.getD col 0) (r.getD col 0) l r.length
def bcM(M:List (List Int))(top col:Nat)(l:Int):List (List Int):=M.mapIdx fun i r=>if i<=top then r else bcR (M.getD top []) col l r
def lH(js:List Nat)(top col:Nat)(l:Int)(b:List Int)(c:List (List Int)):Nat->List (List Int)
 |0=>c
 |i+1=>if i<=top then lH js top col l b c i else match js[i]? with
  |some j=>(lH js top col l b c i).set j (bcR b col l ((lH js top col l b c i).getD j []))
  |none=>lH js top col l b c i
section
variable{js:List Nat}{top col:Nat}{l:Int}{b:List Int}{c:List (List Int)}
def uU:∀i,(lH js top col l b c i).length=c.length
 |0=>rfl
 |i+1=>by
  unfold lH
  split
  ·exact uU i
  ·split
   ·rw[zvf];exact uU i
   ·exact uU i
def ac8:∀i,i<=top+1->lH js top col l b c i=c
 |0,_=>rfl
 |i+1,h=>by
  unfold lH;rw[if_pos zE]
  exact ac8 i zE
def qP(hnd:js.Nodup):∀(i:Nat) {k j:Nat},js[k]? =some j->(i<=k\/k<=top)->(lH js top col l b c i)[j]? =c[j]?
 |0,k,j,hk,_=>rfl
 |i+1,k,j,hk,h=>by
  have ih:=qP hnd i hk zE
  unfold lH
  split
  ·exact ih
  ·rename_i hrt
   split
   ·rename_i j2 hj2;have hne:j2≠j:=aqd hnd hj2 hk zE
    rw[zv2,if_neg hne];exact ih
   ·exact ih
def aiI(hnd:js.Nodup):∀(i:Nat) {k j:Nat} {x:List Int},js[k]? =some j->k < i->top < k->c[j]? =some x->(lH js top col l b c i)[j]? =some (bcR b col l x)
 |0,k,j,x,hk,h,_,_=>absurd h (zvj _)
 |i+1,k,j,x,hk,h,ht,hx=>by
  have ih:k≠i->(lH js top col l b c i)[j]? =some (bcR b col l x):=fun hn=>aiI hnd i hk zE ht hx
  unfold lH
  split
  ·exact ih zE
  ·split
   ·rename_i j2 hj2;by_cases hki:k=i
    ·subst hki;rw[hk]at hj2;cases hj2;have ho:=qP (top:=top) (col:=col) (l:=l) (b:=b) (c:=c) hnd k hk (.inl (zq6 _));rw[hx]at ho;rw[zv2,if_pos rfl,if_pos (vM ho),zx7,ho];rfl
    ·have hne:j2≠j:=aqd hnd hj2 hk (fun e=>hki e.symm)
     rw[zv2,if_neg hne];exact ih hki
   ·rename_i hj2;exact ih (fun e=>by subst e;rw[hk]at hj2;cases hj2)
def arx{M:List (List Int)}{jb n:Nat}(hjM:js.map (fun j=>c.getD j [])=M)(hlt:∀j∈js,j < c.length)(hnd:js.Nodup)(hjt:js[top]? =some jb)(hs:c[jb]? =some b)(hn:n=js.length):
  js.map (fun j=>(lH js top col l b c n).getD j [])=bcM M top col l:=by
 subst hn;have htop:M.getD top []=b:=by
  rw[<-hjM,zx7,zqa,hjt]
  show c.getD jb []=b;rw[zx7,hs];rfl
 apply zyb
 intro p;unfold bcM;rw[List.getElem?_mapIdx,htop,<-hjM,zqa,zqa]
 cases hjp:js[p]? with
 |none=>rfl
 |some j=>
  obtain⟨x,hx⟩:∃x,c[j]? =some x:=⟨_,zyh (hlt j (zq4 hjp))⟩
  have e1:c.getD j []=x:=by rw[zx7,hx];rfl
  show some ((lH js top col l b c js.length).getD j [])=some (if p<=top then c.getD j []else bcR b col l (c.getD j []))
  rw[e1,zx7]
  by_cases hp:p<=top
  ·rw[if_pos hp,qP hnd _ hjp (.inr hp),hx];rfl
  ·rw[if_neg hp,aiI hnd _ hjp (vM hjp) zE hx];rfl
end
structure BS where
 M:List (List Int)
 ps:List Nat
 la:Int
 odd:Bool
def mU(M:List (List Int))(top col:Nat):Int:=fi (nzZ col) (M.drop top) top
def afe(s:BS)(i:Nat):BS:=⟨sw s.M i s.ps.length,s.ps,s.la,if i=s.ps.length then s.odd else !s.odd⟩
def uI(s:BS)(col:Nat):BS:=⟨bcM s.M s.ps.length col s.la,s.ps++[col],(s.M.getD s.ps.length []).getD col 0,s.odd⟩
def oI(s:BS)(col:Nat):BS:=if mU s.M s.ps.length col < 0 then s else uI (afe s (mU s.M s.ps.length col).toNat) col
def kV:Nat->Nat->BS->BS
 |0,_,s=>s
 |n+1,col,s=>if s.ps.length < s.M.length then kV n (col+1) (oI s col)else s
def wX{n:Nat}{s:BS}(h:n=0\/¬s.ps.length < s.M.length):kV n col s=s:=by
 cases n with
 |zero=>rfl
 |succ n=>exact if_neg (h.resolve_left zE)
def kz(K:Nat):Nat->Nat
 |0=>K
 |n+1=>kz (2*K+1) n
def yH:∀(n K:Nat),kz K (n+1)=2*kz K n+1
 |0,K=>rfl
 |n+1,K=>by
  show kz (2*K+1) (n+1)=2*kz (2*K+1) n+1;exact yH n (2*K+1)
def amR:∀(n K:Nat),K<=kz K n
 |0,K=>zq6 _
 |n+1,K=>by rw[yH];have:=amR n K;omega
structure BI(s:BS)(r w K:Nat):Prop where
 len:s.M.length=r
 row:∀x∈s.M,x.length=w/\∀z∈x,z.natAbs < WB ^ K
 la:s.la.natAbs < WB ^ K
def BI.mono{s:BS}{L:Nat}(h:BI s r w K)(hK:K<=L):BI s r w L:=
 ⟨h.len,fun x hx=>⟨(h.row x hx).1,fun z hz=>zqf ((h.row x hx).2 z hz) (zx2 aX hK)⟩,zqf h.la (zx2 aX hK)⟩
def BI.swap{s:BS}{i:Nat}(h:BI s r w K):BI (afe s i) r w K:=
 ⟨by show (sw s.M i _).length=r;rw[apN];exact h.len,fun x hx=>h.row x (azr hx),h.la⟩
def akO{b:Int}(h1:a.natAbs < WB ^ K)(h2:b.natAbs < WB ^ K):(a - b).natAbs < WB ^ (K+1):=by
 have:=afM K;omega
def avD{y:Int}(h:x.natAbs < WB ^ K):(gJ x y).natAbs < WB ^ K:=by
 haveI:Bd x K:=⟨h⟩
 exact(Bd.gJ x y K).h
def awJ(ha:a.natAbs < WB ^ K)(hp:p.natAbs < WB ^ K)(hf:f.natAbs < WB ^ K)(hx:x.natAbs < WB ^ K):(gJ (a*p - f*x) l).natAbs < WB ^ (2*K+1):=by
 refine avD (akO ?_ ?_)
 ·rw[zve,show 2*K=K+K by omega];exact fZ ha hp
 ·rw[zve,show 2*K=K+K by omega];exact fZ hf hx
def a0p{r:List Int}(hr:∀z∈r,z.natAbs < WB ^ K)(hb:∀z∈b,z.natAbs < WB ^ K)(hp:p.natAbs < WB ^ K)(hf:f.natAbs < WB ^ K):∀z∈bcL r b p f l k,z.natAbs < WB ^ (2*K+1):=by
 intro z hz;unfold bcL at hz;rcases zyg.1 hz with h|h
 ·obtain⟨i,hi⟩:=List.mem_iff_getElem?.1 h;rw[List.getElem?_zipWith]at hi
  cases h1:(r.take k)[i]? with
  |none=>rw[h1]at hi;cases hi
  |some a=>
   cases h2:(b.take k)[i]? with
   |none=>rw[h1,h2]at hi;cases hi
   |some x=>
    rw[h1,h2]at hi;cases hi;exact awJ (hr a (zv3 (zq4 h1))) hp hf (hb x (zv3 (zq4 h2)))
 ·exact zqf (hr z (zw9 h)) (zx2 aX zE)
def BI.clear{s:BS}(h:BI s r w K)(htop:s.ps.length < r)(hcol:col < w):BI (uI s col) r w (2*K+1):=by
 have ht:=h.row _ (adP (l:=s.M) (i:=s.ps.length) (d:=[]) (by rw[h.len];exact htop))
 have hp:((s.M.getD s.ps.length []).getD col 0).natAbs < WB ^ K:=ht.2 _ (adP zE)
 refine⟨by show (bcM _ _ _ _).length=r;unfold bcM;rw[List.length_mapIdx];exact h.len,fun x hx=>?_,zqf hp (zx2 aX zE)⟩
 have hx:x∈bcM s.M s.ps.length col s.la:=hx;unfold bcM at hx;obtain⟨i,hi⟩:=List.mem_iff_getElem?.1 hx;rw[List.getElem?_mapIdx]at hi
 cases hy:s.M[i]? with
 |none=>rw[hy]at hi;cases hi
 |some y=>
  rw[hy]at hi;have hi:(if i<=s.ps.length then y else bcR (s.M.getD s.ps.length []) col s.la y)=x:=zy7 hi
  obtain⟨yw,yK⟩:=h.row y (zq4 hy)
  split at hi
  ·subst hi;exact⟨yw,fun z hz=>zqf (yK z hz) (zx2 aX zE)⟩
  ·subst hi;unfold bcR;exact⟨by rw[agJ zE (zq6 _)];exact yw,a0p yK ht.2 hp (yK _ (adP zE))⟩
def BI.step{s:BS}(h:BI s r w K)(htop:s.ps.length < r)(hcol:col < w):BI (oI s col) r w (2*K+1):=by
 unfold oI
 split
 ·exact h.mono zE
 ·exact(h.swap (i:=_)).clear (col:=col) htop hcol
def BI.run{r w:Nat}:∀(n col:Nat) {s:BS} {K:Nat},BI s r w K->col+n<=w->BI (kV n col s) r w (kz K n)
 |0,col,s,K,h,_=>h
 |n+1,col,s,K,h,hw=>by
  by_cases hl:s.ps.length < s.M.length
  ·rw[show kV (n+1) col s=kV n (col+1) (oI s col)from if_pos hl]
   exact BI.run n (col+1) (h.step (by rw[<-h.len];exact hl) zE) zE
  ·rw[wX (.inr hl)];exact h.mono (amR _ _)
def bS0(M:List (List Int)):BS:=⟨M,[],1,false⟩
def wz(s:BS)(n:Nat):Int:=if s.ps.length < n then 0 else if s.odd then -s.la else s.la
def aii(M:List (List Int))(n:Nat):Int:=wz (kV n 0 (bS0 M)) n
def av5{M:List (List Int)}{n:Nat}(h:BI (bS0 M) n n K):(aii M n).natAbs < WB ^ kz K n:=by
 have hR:=(BI.run (r:=n) (w:=n) n 0 h zE).la
 unfold aii wz
 split
 ·exact Nat.pow_pos aX
 ·split
  ·rw[Int.natAbs_neg];exact hR
  ·exact hR
example:aii [[1,2],[3,4]] 2= -2:=by decide+kernel
end
section
attribute [local irreducible] IntKind.wrap Go1 Reg WP aK aN bD aZ aJ aA aj ak aT Sat
abbrev qY(js:List Nat)(c:List (List Int)):kL:=iK 22 33 2 zC js c
abbrev BwI:=List Nat×List (List Int)
abbrev bwC(cols:Nat)(la:Int)(odd:Bool)(pv:Atom):List Atom:=[wm 91 0,.c (.val (.int .i64 (cols:Int))),pv,.c (.val (.bool (decide (la < 0)))),.c (.sat (bI la.natAbs)),.c (.val (.bool odd))]
abbrev bwL(js:List Nat)(c:List (List Int))(ps:List Nat):List (Nat×Ent):=[(91,.abs (qY js c)),(92,PivE ps)]
def bwE(s:BS)(cols:Nat):kL:=
 oO 81 (fun p:BwI=>p.1.Nodup/\(∀j∈p.1,j < p.2.length)/\p.1.map (fun j=>p.2.getD j [])=s.M) 466 (fun _=>bwC cols s.la s.odd (.own 92)) (fun p=>bwL p.1 p.2 s.ps)
def ab0{Q:Exit->St->Prop}{cd:Code}{s:BS}(hb:st.hp 81= .ent (.abs (bwE s cols)))(h1:st.hp 91= .free)(h2:st.hp 92= .free)(f1:C.fix 91=false)(f2:C.fix 92=false)(h:∀js c,js.Nodup->(∀j∈js,j < c.length)->js.map (fun j=>c.getD j [])=s.M->WP P C cd (xG st 81 466 (bwC cols s.la s.odd (.own 92)) (bwL js c s.ps)) Q):WP P C cd st Q:=
 WP.aiZ (ι:=BwI) (b:=81) [91,92] hb (fun p=>rfl) (by intro i hi;simp at hi;rcases hi with rfl|rfl <;> assumption) (by intro i hi;simp at hi;rcases hi with rfl|rfl <;> assumption)
  (by intro p i hi;exact .inl (by simpa[Atom.ids]using hi)) (by intro p i e he;simp at he;rcases he with⟨rfl,rfl⟩|⟨rfl,rfl⟩ <;> rfl) (fun p hp=>h p.1 p.2 hp.1 hp.2.1 hp.2.2)
def mI{C:Ctx}{s:BS}{cells0:List Atom}(js:List Nat)(c:List (List Int))(ρ:List (Nat×Option Nat))(os:List Nat)(hnd:js.Nodup)(hlt:∀j∈js,j < c.length)(hM:js.map (fun j=>c.getD j [])=s.M)(hb:st.hp 81= .ent (.box 466 cells0))(hc:pF ρ cells0 (bwC cols s.la s.odd (.own 92)))(hR:acQ st ρ (bwL js c s.ps))(hos:((bwL js c s.ps).all fun q=>match SX.src ρ q.1 with|some o=>jw os o|none=>true)=true)(hbo:jw os 81=false)(hdi:((bwL js c s.ps).all fun q=>(bwL js c s.ps).all fun q'=>Nat.beq q.1 q'.1||!(eqO (SX.src ρ q.1) (SX.src ρ q'.1)))=true)(hfb:lk ρ 81=none:=by rfl):
  St.le C st (nP st 81 (bwE s cols) os):=
 St.acL (ι:=BwI) (b:=81) (js,c) ρ os ⟨hnd,hlt,hM⟩ hb hc hR hos hbo hdi hfb
def zrK(va:Nat->Nat->Int)(i k:Nat):List Int:=(List.range k).map (va i)
def zgM(va:Nat->Nat->Int)(c r:Nat):List (List Int):=(List.range r).map fun i=>zrK va i c
def at7{i:Nat}:zrK va i (k+1)=zrK va i k++[va i k]:=by unfold zrK;rw[List.range_succ,List.map_append];rfl
def agw{i:Nat}:(zrK va i k).length=k:=by simp[zrK]
def agf:(zgM va c r).length=r:=by simp[zgM]
def av2:(List.range r).map (fun j=>(zgM va c r).getD j [])=zgM va c r:=by
 unfold zgM;refine zvg fun j hj=>?_
 rw[zx7,zqa,zvb (List.mem_range.1 hj)];rfl
def akq{i:Nat}:qY (List.range i++[(zgM va c i).length]) (zgM va c i++[zrK va i c])=qY (List.range (i+1)) (zgM va c (i+1)):=by
 rw[agf,List.range_succ];unfold zgM;rw[List.range_succ,List.map_append];rfl
def ajO(r c:Nat)(x:Rep)(va:Nat->Nat->Int)(hr:r<=100)(hc:c<=100)
  (hA:∀i k,i < r->k < c->ah prog 43 [.agg (aaW r c x),.v (.int .i64 (i:Int)),.v (.int .i64 (k:Int))] (.agg (zN (va i k)))):
  ak prog 526 [.agg (aaW r c x)] [] ⟨.ptr 81 0,[(81,.ent (.abs (bwE (bS0 (zgM va c r)) c)))]⟩:=by
 have n81:Named 11 81:=⟨⟩;have o1:=anC;refine ak.fnA func526 results526 ntmps526 rfl rfl rfl rfl rfl rfl rfl rfl fun _ _ _ _ _=>?_
 refine zg ?_;refine W.loop (fun i=>i<=r) (fun i=>[(1,.ptr 1 0),(3,.ptr 81 0),(13,.v (.int .i64 (r:Int))),(14,.v (.int .i64 (i:Int)))]) (fun i=>[(1,.box 24 (aaW r c x)),(81,.box 466 (bwC c 1 false (.c (.val (.slice none 0 0))))),(91,.abs (qY (List.range i) (zgM va c i)))]) (fun i=>r - i) 0 (zq8 _) (fun i hi=>?_)
  (by
   refine St.aS [(91,none)] z6 ?_ ?_ rfl
   ·exact yd
   ·exact⟨ay.same rfl rfl,ay.jE rfl rfl ⟨aB.azi rfl,aB.same rfl,aB.same rfl,aB.same rfl,aB.same rfl,aB.same rfl,trivial⟩,ay.av4 rfl,trivial⟩)
 by_cases h:i < r
 ·refine zg ?_;refine W.loop (fun k=>k<=c) (fun k=>[(1,.ptr 1 0),(3,.ptr 81 0),(4,.v (.int .i64 (i:Int))),(5,.own 100),(13,.v (.int .i64 (r:Int))),(14,.v (.int .i64 (i:Int))),(18,.v (.int .i64 (c:Int))),(19,.v (.int .i64 (k:Int)))]) (fun k=>[(1,.box 24 (aaW r c x)),(81,.box 466 (bwC c 1 false (.c (.val (.slice none 0 0))))),(91,.abs (qY (List.range i) (zgM va c i))),(100,.row 33 2 k ((zrK va i k).flatMap zC))]) (fun k=>c - k) 0 (zq8 _) (fun k hk=>?_)
   (by
    refine St.aS [(100,none)] z6 ?_ ?_ rfl
    ·exact yk
    ·exact⟨ay.same rfl rfl,ay.same rfl rfl,ay.same rfl rfl,ay.dw rfl,trivial⟩)
  by_cases h2:k < c
  ·have hf:=hA i k h h2;refine zg ?_;refine W.next (k+1) h2 zE (by
    have e2:(zrK va i k).flatMap zC++zC (va i k)=(zrK va i (k+1)).flatMap zC:=by rw[at7,zvc];simp
    refine St.aS [(100,some 28)] z6 ?_ ?_ rfl
    ·exact ye
    ·exact⟨ay.same rfl rfl,ay.same rfl rfl,ay.same rfl rfl,ay.row rfl rfl rfl e2,trivial⟩)
  ·obtain rfl:k=c:=zE
   have hlen:k=(zrK va i k).length:=agw.symm;have hjs:(List.range i).length=i:=zy1;refine zg ?_;refine SX.Go1.litH (l:=zrK va i k) (enc:=zC) rfl rfl rfl rfl hlen rfl ?_;refine zg ?_;refine W.next (i+1) h zE (by
    refine St.aS [(91,some 37)] z6 ?_ ?_ rfl
    ·exact yd
    ·exact⟨ay.same rfl rfl,ay.jE rfl rfl ⟨aB.rel rfl,aB.same rfl,aB.same rfl,aB.same rfl,aB.same rfl,aB.same rfl,trivial⟩,ay.abs rfl rfl akq,trivial⟩)
 ·obtain rfl:i=r:=zE
  refine zg ?_;refine aJ.le (mI (s:=bS0 (zgM va c i)) (List.range i) (zgM va c i) [(92,none)] [91] List.nodup_range (fun j hj=>by simpa[zgM]using hj) av2 rfl ⟨aB.same rfl,aB.same rfl,aB.nil rfl,aB.same rfl,aB.same rfl,aB.same rfl,trivial⟩ ⟨ay.same rfl rfl,ay.dw rfl,trivial⟩ rfl rfl rfl) ?_
  exact gQ (xs:=[.one (.ptr 81 0)]) ⟨aj.tmp rfl,trivial⟩ ⟨rfl,trivial⟩
def axb{α:Type}(l:List α)(i:Nat):sw l i i=l:=by
 unfold sw;cases h:l[i]? with
 |none=>rfl
 |some a=>
  show (l.set i a).set i a=l;rw[List.set_set];apply zyb
  intro j;rw[zv2]
  by_cases hj:i=j
  ·subst hj;rw[if_pos rfl,if_pos (vM h),h]
  ·rw[if_neg hj]
def ajn{z:Int}:bG z=0↔z=0:=by
 unfold bG
 split
 ·rename_i h;exact⟨fun _=>h,fun _=>rfl⟩
 ·rename_i h
  split
  ·exact⟨fun h2=>zE,fun h2=>absurd h2 h⟩
  ·exact⟨fun h2=>zE,fun h2=>absurd h2 h⟩
def lF(s:BS)(col:Nat):BS:=if mU s.M s.ps.length col < 0 then s else afe s (mU s.M s.ps.length col).toNat
def apf(s:BS)(cols col w K r:Nat)(hI:BI s r w K)(hcol:col < w)(hK:K<=1000000000)(hr:r<=100)(htop:s.ps.length < r):
  ak prog 564 [.ptr 81 0,.v (.int .i64 (col:Int))] [(81,.abs (bwE s cols))] ⟨.v (.bool (decide (0<=mU s.M s.ps.length col))),[(81,.ent (.abs (bwE (lF s col) cols)))]⟩:=by
 obtain⟨M,ps,la,odd⟩:=s;have hl:M.length=r:=hI.len;refine ak.fnA func564 results564 ntmps564 rfl rfl rfl rfl rfl rfl rfl rfl fun _ _ _ _ _=>?_
 refine ab0 rfl rfl rfl rfl rfl (fun js c hnd hlt hjM=>?_)
 have hjM:js.map (fun j=>c.getD j [])=M:=hjM
 have hlen:js.length=M.length:=by rw[<-hjM,zq5]
 dsimp only at htop ⊢
 refine zg ?_;refine W.loop (fun i=>ps.length<=i/\i<=M.length/\fi (nzZ col) (M.drop i) i=mU M ps.length col) (fun i=>[(0,.ptr 81 0),(1,.v (.int .i64 (col:Int))),(5,.v (.int .i64 (ps.length:Int))),(6,.v (.int .i64 (i:Int)))]) (fun i=>[(81,.box 466 (bwC cols la odd (.own 92))),(91,.abs (qY js c)),(92,PivE ps)]) (fun i=>M.length - i) ps.length ⟨zq6 _,zE,rfl⟩ (fun i ⟨hi0,hi,he⟩=>?_)
  (by
   refine St.aS [] (by intro b h;exact SX.dB h rfl) ?_ ?_ rfl
   ·exact yd
   ·exact⟨ay.same rfl rfl,ay.same rfl rfl,ay.same rfl rfl,trivial⟩)
 by_cases h:i < M.length
 ·obtain⟨ji,hji⟩:∃j,js[i]? =some j:=⟨_,zyh (show i < js.length by omega)⟩
  obtain⟨jt,hjt⟩:∃j,js[ps.length]? =some j:=⟨_,zyh (show ps.length < js.length by omega)⟩
  have lji:=hlt ji (zq4 hji);have ljt:=hlt jt (zq4 hjt);obtain⟨row,hrow⟩:∃x,c[ji]? =some x:=⟨_,zyh lji⟩
  have hgd:c.getD ji []=row:=by rw[zx7,hrow];rfl
  have hMi:M[i]? =some row:=by rw[<-hjM,zqa,hji,<-hgd];rfl
  obtain⟨hw,hwK⟩:=hI.row row (zq4 hMi);obtain⟨v,hv⟩:∃v,row[col]? =some v:=⟨_,zyh (show col < row.length by omega)⟩
  have hvd:row.getD col 0=v:=by rw[zx7,hv];rfl
  haveI i1:Bd v K:=⟨hwK v (zq4 hv)⟩
  rw[vH hMi]at he;by_cases h0:v=0
  ·have hs:bG v=0:=ajn.2 h0;have hn:nzZ col row=false:=by unfold nzZ;rw[hvd,h0];rfl
   rw[hn,if_neg zc]at he
   refine zg ?_;refine W.next (i+1) ⟨zE,h,he⟩ zE (by
    refine St.aS [] (by intro b h;exact SX.dB h rfl) ?_ ?_ rfl
    ·exact yd
    ·exact⟨ay.same rfl rfl,ay.same rfl rfl,ay.same rfl rfl,trivial⟩)
  ·have hs:¬bG v=0:=fun h2=>h0 (ajn.1 h2)
   have hn:nzZ col row=true:=by unfold nzZ;rw[hvd];exact decide_eq_true h0
   rw[hn,if_pos rfl]at he;have e1:decide (0<=mU M ps.length col)=true:=decide_eq_true zE
   have e2:lF ⟨M,ps,la,odd⟩ col=⟨sw M i ps.length,ps,la,if i=ps.length then odd else !odd⟩:=by
    unfold lF
    dsimp only
    rw[if_neg zE,<-he];rfl
   rw[e1,e2];by_cases ht:i=ps.length
   ·subst ht;rw[axb,if_pos rfl];refine zg ?_;refine aJ.le (mI (s:=⟨M,ps,la,odd⟩) js c [] [91,92] hnd hlt hjM rfl ⟨aB.same rfl,aB.same rfl,aB.same rfl,aB.same rfl,aB.same rfl,aB.same rfl,trivial⟩ ⟨ay.same rfl rfl,ay.same rfl rfl,trivial⟩ rfl rfl rfl) ?_;exact gQ (xs:=[.one (.c (.val (.bool true)))]) ⟨aj.tmp rfl,trivial⟩ ⟨rfl,trivial⟩
   ·rw[if_neg ht];have l1:(js.set i jt).length=js.length:=zvf;have hsw:((js.set i jt).set ps.length ji).map (fun j=>c.getD j [])=sw M i ps.length:=by rw[<-hjM];exact(ayD _ hji hjt).symm
    refine zg ?_;refine aJ.le (mI (s:=⟨sw M i ps.length,ps,la,!odd⟩) ((js.set i jt).set ps.length ji) c [] [91,92] (ar2 hnd hji hjt) (fun j hj=>?_) hsw rfl ⟨aB.same rfl,aB.same rfl,aB.same rfl,aB.same rfl,aB.same rfl,aB.same rfl,trivial⟩ ⟨ay.same rfl rfl,ay.same rfl rfl,trivial⟩ rfl rfl rfl) ?_
    ·rcases List.mem_or_eq_of_mem_set hj with hj|hj
     ·rcases List.mem_or_eq_of_mem_set hj with hj|hj
      ·exact hlt j hj
      ·rw[hj];exact ljt
     ·rw[hj];exact lji
    ·exact gQ (xs:=[.one (.c (.val (.bool true)))]) ⟨aj.tmp rfl,trivial⟩ ⟨rfl,trivial⟩
 ·obtain rfl:i=M.length:=zE
  rw[zvh]at he;have e0:mU M ps.length col= -1:=he.symm;have e1:decide (0<=mU M ps.length col)=false:=decide_eq_false zE
  have e2:lF ⟨M,ps,la,odd⟩ col=⟨M,ps,la,odd⟩:=by
   unfold lF
   dsimp only
   rw[if_pos zE]
  rw[e1,e2];refine zg ?_;refine aJ.le (mI (s:=⟨M,ps,la,odd⟩) js c [] [91,92] hnd hlt hjM rfl ⟨aB.same rfl,aB.same rfl,aB.same rfl,aB.same rfl,aB.same rfl,aB.same rfl,trivial⟩ ⟨ay.same rfl rfl,ay.same rfl rfl,trivial⟩ rfl rfl rfl) ?_;exact gQ (xs:=[.one (.c (.val (.bool false)))]) ⟨aj.tmp rfl,trivial⟩ ⟨rfl,trivial⟩
end
section
def atd{ae:List Oper}{aa:List Oper}{ab:_}{K:_}{f:FuncId}{xs:Array Operand}{tys:Array TypeId}{b:Nat}{A:kL}{e:Int}(hc:ak P f ao [] ⟨.tup [.one (.ptr b 0),eNo e],[(b,.ent (.abs A))]⟩)(ha:evs st xs.toList=some ao)(hd:aC (some d) C.nt=true)(hf:st.hp b= .free)(ai:Reg P C ae aa (st.app (some d) ⟨.tup [.one (.ptr b 0),eNo e],[(b,.ent (.abs A))]⟩) (([b],[b])::ab) K):Go1 P C ae (some d) (.call ⟨.value (.func f),xs,tys⟩) ty aa st ab K:=
 Go1.wG (am:=[]) (pre:=[]) (out:=⟨.tup [.one (.ptr b 0),eNo e],[(b,.ent (.abs A))]⟩) (fp:=[b]) hd rfl ha (by simpa using hc) (fun b e hb=>by cases hb) (fun b s hb=>by simp at hb;rw[hb.1];exact .inr hf) (fun b s hb=>by simp at hb;rw[hb.2];rfl) (fun b s hb=>by simp at hb;simp[hb.1])
  (fun i hi=>by
   left
   rcases hi with hi|⟨b,e,hb,hi⟩
   ·have:i=b:=by simpa[AV.ids,AV0.ids,Atom.ids]using hi
    subst this;exact⟨_,by simp;rfl⟩
   ·simp at hb;obtain⟨rfl,rfl⟩:=hb;cases hi) ai
def auz{ae:List Oper}{aa:List Oper}{ab:_}{K:_}{f:FuncId}{xs:Array Operand}{tys:Array TypeId}{b:Nat}{A:kL}(hc:ak P f ao [] ⟨.ptr b 0,[(b,.ent (.abs A))]⟩)(ha:evs st xs.toList=some ao)(hd:aC (some d) C.nt=true)(hf:st.hp b= .free)(ai:Reg P C ae aa (st.app (some d) ⟨.ptr b 0,[(b,.ent (.abs A))]⟩) (([b],[b])::ab) K):Go1 P C ae (some d) (.call ⟨.value (.func f),xs,tys⟩) ty aa st ab K:=
 Go1.wG (am:=[]) (pre:=[]) (out:=⟨.ptr b 0,[(b,.ent (.abs A))]⟩) (fp:=[b]) hd rfl ha (by simpa using hc) (fun b e hb=>by cases hb) (fun b s hb=>by simp at hb;rw[hb.1];exact .inr hf) (fun b s hb=>by simp at hb;rw[hb.2];rfl) (fun b s hb=>by simp at hb;simp[hb.1])
  (fun i hi=>by
   left
   rcases hi with hi|⟨b,e,hb,hi⟩
   ·have:i=b:=by simpa[AV.ids,AV0.ids,Atom.ids]using hi
    subst this;exact⟨_,by simp;rfl⟩
   ·simp at hb;obtain⟨rfl,rfl⟩:=hb;cases hi) ai
attribute [local irreducible] IntKind.wrap Go1 Reg WP aK aN bD aZ aJ aA aj ak aT Sat
def akU(s:BS)(cols col w K r:Nat)(hI:BI s r w K)(hcol:col < w)(hK:K<=1000000)(hr:r<=100)(hw:w<=100)(htop:s.ps.length < r):
  ak prog 565 [.ptr 81 0,.v (.int .i64 (col:Int))] [(81,.abs (bwE s cols))] ⟨.tup [],[(81,.ent (.abs (bwE (uI s col) cols)))]⟩:=by
 obtain⟨M,ps,la,odd⟩:=s;have hl:M.length=r:=hI.len
 haveI iL:Bd la K:=⟨hI.la⟩
 refine ak.fnA func565 results565 ntmps565 rfl rfl rfl rfl rfl rfl rfl rfl fun _ _ _ _ _=>?_
 refine ab0 rfl rfl rfl rfl rfl (fun js c hnd hlt hjM=>?_)
 have hjM:js.map (fun j=>c.getD j [])=M:=hjM
 have hlen:js.length=M.length:=by rw[<-hjM,zq5]
 have htop:ps.length < r:=htop
 dsimp only
 obtain⟨jb,hjb⟩:∃j,js[ps.length]? =some j:=⟨_,zyh (show ps.length < js.length by omega)⟩
 have ljb:=hlt jb (zq4 hjb);obtain⟨b,hb⟩:∃x,c[jb]? =some x:=⟨_,zyh ljb⟩
 have hgd:c.getD jb []=b:=by rw[zx7,hb];rfl
 have hMb:M[ps.length]? =some b:=by rw[<-hjM,zqa,hjb,<-hgd];rfl
 obtain⟨hbw,hbK⟩:=hI.row b (zq4 hMb);obtain⟨p,hp⟩:∃v,b[col]? =some v:=⟨_,zyh (show col < b.length by omega)⟩
 have hpd:b.getD col 0=p:=by rw[zx7,hp];rfl
 haveI iP:Bd p K:=⟨hbK p (zq4 hp)⟩
 refine zg ?_;refine W.loop (fun i=>ps.length+1<=i/\i<=M.length) (fun i=>[(0,.ptr 81 0),(1,.v (.int .i64 (col:Int))),(4,.v (.int .i64 (ps.length:Int))),(5,.it (.one (wm 91 (jb+1)))),(6,.v (.int .i64 (i:Int)))]) (fun i=>[(81,.box 466 (bwC cols la odd (.own 92))),(91,.abs (qY js (lH js ps.length col la b c i))),(92,PivE ps)]) (fun i=>M.length - i) (ps.length+1) ⟨zq6 _,zE⟩ (fun i ⟨hi0,hi⟩=>?_)
  (by
   rw[ac8 _ (zq6 _)];refine St.aS [] (by intro b h;exact SX.dB h rfl) ?_ ?_ rfl
   ·exact yd
   ·exact⟨ay.same rfl rfl,ay.same rfl rfl,ay.same rfl rfl,trivial⟩)
 by_cases h:i < M.length
 ·obtain⟨ji,hji⟩:∃j,js[i]? =some j:=⟨_,zyh (show i < js.length by omega)⟩
  have lji:=hlt ji (zq4 hji);have hne:ji≠jb:=aqd hnd hji hjb zE
  obtain⟨x,hx⟩:∃x,c[ji]? =some x:=⟨_,zyh lji⟩
  have hxd:c.getD ji []=x:=by rw[zx7,hx];rfl
  have hMi:M[i]? =some x:=by rw[<-hjM,zqa,hji,<-hxd];rfl
  obtain⟨hxw,hxK⟩:=hI.row x (zq4 hMi);obtain⟨f,hf⟩:∃v,x[col]? =some v:=⟨_,zyh (show col < x.length by omega)⟩
  have hfd:x.getD col 0=f:=by rw[zx7,hf];rfl
  haveI iF:Bd f K:=⟨hxK f (zq4 hf)⟩
  have hcx:(lH js ps.length col la b c i)[ji]? =some x:=by rw[qP hnd i hji (.inl (zq6 _))];exact hx
  have hcb:(lH js ps.length col la b c i)[jb]? =some b:=by rw[qP hnd i hjb (.inr (zq6 _))];exact hb
  have hnx:lH js ps.length col la b c (i+1)=(lH js ps.length col la b c i).set ji (bcL x b p f la x.length):=by
   conv=>lhs;unfold lH;rw[if_neg zE,hji]
   dsimp only
   rw[zx7,hcx]
   show _=_;unfold bcR;rw[hpd];show (lH js ps.length col la b c i).set ji (bcL x b p (x.getD col 0) la x.length)=_;rw[hfd]
  have hci:(lH js ps.length col la b c i).length=c.length:=uU i;generalize lH js ps.length col la b c i=ci at*;refine zg ?_;refine W.loop (fun k=>k<=x.length) (fun k=>[(0,.ptr 81 0),(1,.v (.int .i64 (col:Int))),(4,.v (.int .i64 (ps.length:Int))),(5,.it (.one (wm 91 (jb+1)))),(6,.v (.int .i64 (i:Int))),(7,.it (.one (wm 91 (ji+1)))),(8,.ptr 8 0),(46,.v (.int .i64 (x.length:Int))),(47,.v (.int .i64 (k:Int)))]) (fun k=>[(81,.box 466 (bwC cols la odd (.own 92))),(91,.abs (qY js (ci.set ji (bcL x b p f la k)))),(92,PivE ps),(8,.box 33 (zN f))]) (fun k=>x.length - k) 0 (zq8 _) (fun k hk=>?_)
   (by
    have e:qY js ci=qY js (ci.set ji (bcL x b p f la 0)):=by
     rw[asq]
     congr 1
     apply zyb
     intro n;rw[zv2]
     by_cases hn:ji=n
     ·subst hn;rw[if_pos rfl,if_pos zE,hcx]
     ·rw[if_neg hn]
    refine St.aS [] (by intro b h;exact SX.dB h rfl) ?_ ?_ rfl
    ·exact yd
    ·exact⟨ay.same rfl rfl,ay.eq rfl (congrArg Ent.abs e) rfl,ay.same rfl rfl,ay.same rfl rfl,trivial⟩)
  have lci:ji < ci.length:=zE
  by_cases h2:k < x.length
  ·obtain⟨a,ha⟩:∃a,x[k]? =some a:=⟨_,zyh h2⟩
   obtain⟨y,hy⟩:∃y,b[k]? =some y:=⟨_,zyh (show k < b.length by omega)⟩
   haveI iA:Bd a K:=⟨hxK a (zq4 ha)⟩
   haveI iY:Bd y K:=⟨hbK y (zq4 hy)⟩
   have ga:=awS (p:=p) (f:=f) (l:=la) (show x.length=b.length by omega) ha
   have gl:=agJ (p:=p) (f:=f) (l:=la) (show x.length=b.length by omega) hk
   have c1:(ci.set ji (bcL x b p f la k))[ji]? =some (bcL x b p f la k):=by rw[zv2,if_pos rfl,if_pos lci]
   have c2:(ci.set ji (bcL x b p f la k))[jb]? =some b:=by rw[zv2,if_neg hne];exact hcb
   have e1:qY js ((ci.set ji (bcL x b p f la k)).set ji ((bcL x b p f la k).set k (gJ (a*p - f*y) la)))=qY js (ci.set ji (bcL x b p f la (k+1))):=by rw[axl zE ha hy,List.set_set]
   refine zg ?_;refine W.next (k+1) h2 zE (by
    refine St.aS [] (by intro b h;exact SX.dB h rfl) ?_ ?_ rfl
    ·exact yd
    ·exact⟨ay.same rfl rfl,ay.eq rfl (congrArg Ent.abs e1) rfl,ay.same rfl rfl,ay.same rfl rfl,trivial⟩)
  ·have hkx:k=x.length:=zE
   subst hkx;refine zg ?_;refine W.next (i+1) ⟨zE,h⟩ zE (by
    refine St.aS [] (by intro b h;exact SX.dB h rfl) ?_ ?_ rfl
    ·exact yd
    ·exact⟨ay.same rfl rfl,ay.eq rfl (congrArg (fun q=>Ent.abs (qY js q)) hnx.symm) rfl,ay.same rfl rfl,trivial⟩)
 ·obtain rfl:i=M.length:=zE
  have hcb:(lH js ps.length col la b c M.length)[jb]? =some b:=by rw[qP hnd _ hjb (.inr (zq6 _))];exact hb
  have hlaw:=arx (l:=la) (col:=col) hjM hlt hnd hjb hb hlen.symm;have e2:uI ⟨M,ps,la,odd⟩ col=⟨bcM M ps.length col la,ps++[col],p,odd⟩:=by
   have hg:M.getD ps.length []=b:=by rw[zx7,hMb];rfl
   unfold uI
   dsimp only
   rw[hg,hpd]
  have hci:∀j∈js,j < (lH js ps.length col la b c M.length).length:=fun j hj=>by rw[uU];exact hlt j hj
  rw[e2];generalize lH js ps.length col la b c M.length=ci at*;refine zg ?_;refine aJ.le (mI (s:=⟨bcM M ps.length col la,ps++[col],p,odd⟩) js ci [(92,some 93)] [91,93] hnd hci hlaw rfl ⟨aB.same rfl,aB.same rfl,aB.own rfl,aB.same rfl,aB.same rfl,aB.same rfl,trivial⟩ ⟨ay.same rfl rfl,ay.row rfl rfl (by rw[zqi];rfl) (by rw[zvc];rfl),trivial⟩ rfl rfl rfl) ?_
  exact gQ (xs:=[]) trivial ⟨rfl,trivial⟩
def aip{s:BS}(h:¬mU s.M s.ps.length col < 0):oI s col=uI (lF s col) col:=by
 unfold oI lF;rw[if_neg h,if_neg h]
def auJ(s0:BS)(cols w K r:Nat)(hI:BI s0 r w K)(hcol:cols<=w)(hr:r<=100)(hw:w<=100)(hkz:kz K cols<=1000000):
  ak prog 527 [.ptr 81 0] [(81,.abs (bwE s0 cols))] ⟨.tup [],[(81,.ent (.abs (bwE (kV cols 0 s0) cols)))]⟩:=by
 refine ak.fnA func527 results527 ntmps527 rfl rfl rfl rfl rfl rfl rfl rfl fun _ _ _ _ _=>?_
 refine zg ?_;refine W.nu (fun(col:Nat) (s:BS)=>col<=cols/\kV (cols - col) col s=kV cols 0 s0/\BI s r w (kz K col)) (fun col s=>[(0,.ptr 81 0),(2,.v (.int .i64 (col:Int)))]) (fun col s=>[(81,.abs (bwE s cols))]) (fun col s=>cols - col) 0 s0 ⟨zq8 _,rfl,hI⟩ (fun col s hq=>?_)
  (by
   refine St.aS [] (by intro b h;exact SX.dB h rfl) ?_ ?_ rfl
   ·exact yd
   ·exact⟨ay.same rfl rfl,trivial⟩)
 obtain⟨hq1,hq2,hq3⟩:=hq;have hlM:=hq3.len;have hkm:kz K col<=1000000:=by
  have hmono:∀n m,kz K n<=kz K (n+m):=fun n m=>by
   induction m with
   |zero=>exact zq6 _
   |succ m ih=>rw[<-Nat.add_assoc,yH];omega
  have:=hmono col (cols - col);rw[show col+(cols - col)=cols by omega]at this
  omega
 refine ab0 rfl rfl rfl rfl rfl (fun js c hnd hlt hjM=>?_)
 have hlen:js.length=s.M.length:=by rw[<-hjM,zq5]
 by_cases h1:col < cols
 ·by_cases h2:s.ps.length < s.M.length
  ·have hh:=Hide.mk h2;clear h2;refine zg ?_;refine WP.weaken (mI (s:=s) js c [] [91,92] hnd hlt hjM rfl ⟨aB.same rfl,aB.same rfl,aB.same rfl,aB.same rfl,aB.same rfl,aB.same rfl,trivial⟩ ⟨ay.same rfl rfl,ay.same rfl rfl,trivial⟩ rfl rfl rfl) ?_;have h2:=hh.out;have cF:=apf s cols col w (kz K col) r hq3 zE zE hr zE
   have hn:∃n,cols - col=n+1:=⟨cols - col - 1,zE⟩
   by_cases h3:mU s.M s.ps.length col < 0
   ·rw[decide_eq_false (show¬0<=mU s.M s.ps.length col by omega),show lF s col=s from if_pos h3]at cF
    refine zg ?_;refine W.mV (col+1) s ⟨h1,?_,by rw[yH];exact hq3.mono zE⟩ zE (by
     refine St.aS [] (by intro b h;exact SX.dB h rfl) ?_ ?_ rfl
     ·exact yd
     ·exact⟨ay.same rfl rfl,trivial⟩)
    rw[<-hq2];obtain⟨n,hn⟩:=hn;rw[hn,show cols - (col+1)=n by omega]
    conv=>rhs;unfold kV;rw[if_pos h2]
    rw[show oI s col=s from if_pos h3]
   ·rw[decide_eq_true (show 0<=mU s.M s.ps.length col by omega)]at cF
    have hFI:BI (lF s col) r w (kz K col):=by
     unfold lF;rw[if_neg h3];exact hq3.swap
    have hFp:(lF s col).ps=s.ps:=by unfold lF;rw[if_neg h3];rfl
    have cC:=akU (lF s col) cols col w (kz K col) r hFI zE zE hr hw (by rw[hFp];omega)
    rw[<-aip h3]at cC;refine zg ?_;refine W.mV (col+1) (oI s col) ⟨h1,?_,by rw[yH];exact hq3.step zE zE⟩ zE (by
     refine St.aS [] (by intro b h;exact SX.dB h rfl) ?_ ?_ rfl
     ·exact yd
     ·exact⟨ay.same rfl rfl,trivial⟩)
    rw[<-hq2];obtain⟨n,hn⟩:=hn;rw[hn,show cols - (col+1)=n by omega]
    conv=>rhs;unfold kV;rw[if_pos h2]
  ·refine zg ?_;refine aJ.le (mI (s:=s) js c [] [91,92] hnd hlt hjM rfl ⟨aB.same rfl,aB.same rfl,aB.same rfl,aB.same rfl,aB.same rfl,aB.same rfl,trivial⟩ ⟨ay.same rfl rfl,ay.same rfl rfl,trivial⟩ rfl rfl rfl) ?_;rw[<-hq2,wX (.inr h2)];exact gQ (xs:=[]) trivial ⟨rfl,trivial⟩
 ·refine zg ?_;refine aJ.le (mI (s:=s) js c [] [91,92] hnd hlt hjM rfl ⟨aB.same rfl,aB.same rfl,aB.same rfl,aB.same rfl,aB.same rfl,aB.same rfl,trivial⟩ ⟨ay.same rfl rfl,ay.same rfl rfl,trivial⟩ rfl rfl rfl) ?_;rw[<-hq2,wX (.inl zE)]
  exact gQ (xs:=[]) trivial ⟨rfl,trivial⟩
def alf(h:∀i k,i < r->k < c->(va i k).natAbs < WB ^ K)(hK:1<=K):BI (bS0 (zgM va c r)) r c K:=by
 refine⟨agf,fun x hx=>?_,?_⟩
 ·obtain⟨i,hi,rfl⟩:=zqg.1 hx;refine⟨agw,fun z hz=>?_⟩
  obtain⟨k,hk,rfl⟩:=zqg.1 hz;exact h i k (List.mem_range.1 hi) (List.mem_range.1 hk)
 ·exact zqf (show (1:Int).natAbs < WB ^ 1 by rw[zxh,bf];decide) (zx2 aX hK)
section
variable{r c K:Nat}{x:Rep}{va:Nat->Nat->Int}(hr:r<=64)(hc:c<=64)(hF:ah prog 40 [.agg (aaW r c x)] (.v (.bool true)))
  (hA:∀i k,i < r->k < c->ah prog 43 [.agg (aaW r c x),.v (.int .i64 (i:Int)),.v (.int .i64 (k:Int))] (.agg (zN (va i k)))) (hz:∀i k,i < r->k < c->(va i k).natAbs < WB ^ K) (hK1:1<=K) (hkz:kz K c<=1000000)
include hr hc hF hA hz hK1 hkz
theorem aoK:ak prog 463 [.agg (aaW r c x)] [] ⟨.tup [.one (.ptr 81 0),eNo 0],[(81,.ent (.abs (bwE (kV c 0 (bS0 (zgM va c r))) c)))]⟩:=by
 have cb:=ajO r c x va zE zE hA
 have cR:=auJ (bS0 (zgM va c r)) c c K r (alf hz hK1) (zq6 _) zE zE hkz
 refine ak.fnA func463 results463 ntmps463 rfl rfl rfl rfl rfl rfl rfl rfl fun _ _ _ _ _=>?_
 refine zg ?_;refine auz cb rfl rfl rfl ?_;refine zg ?_;exact gQ (xs:=[.one (.ptr 81 0),eNo 0]) ⟨aj.tmp rfl,aj.tmp rfl,trivial⟩ ⟨rfl,trivial⟩
end
def aql{n:Nat}{x:Rep}(hn:n<=64)(hF:ah prog 40 [.agg (aaW n n x)] (.v (.bool true)))(hA:∀i k,i < n->k < n->ah prog 43 [.agg (aaW n n x),.v (.int .i64 (i:Int)),.v (.int .i64 (k:Int))] (.agg (zN (va i k))))(hz:∀i k,i < n->k < n->(va i k).natAbs < WB ^ K)(hK1:1<=K)(hkz:kz K n<=1000000):
  ah prog 372 [.agg (aaW n n x)] (.tup [.agg (zN (aii (zgM va n n) n)),eNo 0]):=by
 have cD:=aoK hn hn hF hA hz hK1 hkz;have hR:=BI.run (r:=n) (w:=n) n 0 (alf hz hK1) zE
 unfold aii;generalize kV n 0 (bS0 (zgM va n n))=s at*;obtain⟨M,ps,la,odd⟩:=s
 haveI iL:Bd la (kz K n):=⟨hR.la⟩
 obtain⟨e,he⟩:∃e:Int,Hide (e=0):=⟨0,⟨rfl⟩⟩;have cD:ak prog 463 [.agg (aaW n n x)] [] ⟨.tup [.one (.ptr 81 0),eNo e],[(81,.ent (.abs (bwE ⟨M,ps,la,odd⟩ n)))]⟩:=by rw[he.out];exact cD
 have heq:eNo 0=eNo e:=by rw[he.out]
 refine ah.fq func372 ?_;intros
 refine zg ?_;refine atd cD rfl rfl rfl ?_;refine zg ?_;refine ab0 rfl rfl rfl rfl rfl (fun js c hnd hlt hjM=>?_)
 dsimp only
 have he0:=he.out;by_cases h1:ps.length < n
 ·have e1:wz ⟨M,ps,la,odd⟩ n=0:=if_pos h1;rw[e1];refine zg ?_;exact .ok (aA.mk2 (aj.imp aj.fK zN0) (aj.tmp rfl))
 ·cases odd with
  |true=>
   have e1:wz ⟨M,ps,la,true⟩ n= -la:=by unfold wz;rw[if_neg h1,if_pos rfl]
   rw[e1];refine zg ?_;exact .ok (aA.mk2 aj.fK (aj.tmp rfl))
  |false=>
   have e1:wz ⟨M,ps,la,false⟩ n=la:=by unfold wz;rw[if_neg h1];rfl
   rw[e1];refine zg ?_;exact .ok (aA.mk2 aj.fK (aj.tmp rfl))
end
