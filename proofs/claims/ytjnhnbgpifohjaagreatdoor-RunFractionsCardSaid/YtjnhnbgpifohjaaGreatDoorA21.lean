import Derived.Test.YtjnhnbgpifohjaaGreatDoorA10
import Derived.Test.YtjnhnbgpifohjaaGreatDoorA7
set_option linter.unusedVariables false
set_option linter.unusedSimpArgs false
open Go.Proofs.Tryz
namespace Go.Proofs.YtjnhnbgpifohjaaGreatDoor
open Go.RowKit QM SX LA
section
def nzZ(col:Nat)(r:List Int):Bool:=decide (r.getD col 0≠0)
def bcL(r b:List Int)(p f l:Int)(k:Nat):List Int:=List.zipWith (fun a x=>fZ (a*p - f*x) l) (r.take k) (b.take k)++r.drop k
theorem uy{α:Type}{l:List α}{k:Nat}{a:α}(h:l[k]? =some a):k < l.length:=by
 rcases Nat.lt_or_ge k l.length with h2|h2
 ·exact h2
 ·rw[List.getElem?_eq_none h2]at h;cases h
theorem aio{r b:List Int}{p f l:Int}{k:Nat}(h:r.length=b.length)(hk:k≤r.length):(bcL r b p f l k).length=r.length:=by
 unfold bcL;simp;omega
theorem aqG{r b:List Int}{p f l:Int}{k:Nat}{a:Int}(h:r.length=b.length)(ha:r[k]? =some a):(bcL r b p f l k)[k]? =some a:=by
 have hk:=uy ha;unfold bcL;rw[List.getElem?_append_right (by simp;omega)]
 simp only[List.length_zipWith,List.length_take,List.getElem?_drop]
 rw[show min (min k r.length) (min k b.length)=k by omega,Nat.sub_self,Nat.add_zero];exact ha
theorem aqN{r b:List Int}{p f l:Int}{k:Nat}{a x:Int}(h:r.length=b.length)(ha:r[k]? =some a)(hb:b[k]? =some x):(bcL r b p f l k).set k (fZ (a*p - f*x) l)=bcL r b p f l (k+1):=by
 have hk:=uy ha;apply List.ext_getElem?
 intro i;rw[List.getElem?_set]
 unfold bcL;by_cases hi:k=i
 ·subst hi;rw[if_pos rfl,if_pos (by simp;omega)]
  rw[List.getElem?_append_left (by simp;omega),List.getElem?_zipWith]
  simp[ha,hb]
 ·rw[if_neg hi];by_cases hlt:i < k
  ·rw[List.getElem?_append_left (by simp;omega),List.getElem?_append_left (by simp;omega),List.getElem?_zipWith,List.getElem?_zipWith]
   simp[List.getElem?_take,hlt,show i < k+1 by omega]
  ·rw[List.getElem?_append_right (by simp;omega),List.getElem?_append_right (by simp;omega)]
   simp only[List.length_zipWith,List.length_take,List.getElem?_drop]
   congr 1
   omega
theorem aoG{r b:List Int}{p f l:Int}:bcL r b p f l 0=r:=by unfold bcL;simp
def bcR(b:List Int)(col:Nat)(l:Int)(r:List Int):List Int:=bcL r b (b.getD col 0) (r.getD col 0) l r.length
def bcM(M:List (List Int))(top col:Nat)(l:Int):List (List Int):=M.mapIdx fun i r=>if i≤top then r else bcR (M.getD top []) col l r
def jT(js:List Nat)(top col:Nat)(l:Int)(b:List Int)(c:List (List Int)):Nat→List (List Int)
 |0=>c
 |i+1=>if i≤top then jT js top col l b c i else match js[i]? with
  |some j=>(jT js top col l b c i).set j (bcR b col l ((jT js top col l b c i).getD j []))
  |none=>jT js top col l b c i
section
variable{js:List Nat}{top col:Nat}{l:Int}{b:List Int}{c:List (List Int)}
theorem qc:∀i,(jT js top col l b c i).length=c.length
 |0=>rfl
 |i+1=>by
  unfold jT
  split
  ·exact qc i
  ·split
   ·rw[List.length_set];exact qc i
   ·exact qc i
theorem aaH:∀i,i≤top+1→jT js top col l b c i=c
 |0,_=>rfl
 |i+1,h=>by
  unfold jT;rw[if_pos (by omega)]
  exact aaH i (by omega)
theorem nH(hnd:js.Nodup):∀(i:Nat) {k j:Nat},js[k]? =some j→(i≤k∨k≤top)→(jT js top col l b c i)[j]? =c[j]?
 |0,k,j,hk,_=>rfl
 |i+1,k,j,hk,h=>by
  have ih:=nH hnd i hk (by omega)
  unfold jT
  split
  ·exact ih
  ·rename_i hrt
   split
   ·rename_i j2 hj2;have hne:j2≠j:=aa4 hnd hj2 hk (by omega)
    rw[List.getElem?_set,if_neg hne];exact ih
   ·exact ih
theorem adZ(hnd:js.Nodup):∀(i:Nat) {k j:Nat} {x:List Int},js[k]? =some j→k < i→top < k→c[j]? =some x→(jT js top col l b c i)[j]? =some (bcR b col l x)
 |0,k,j,x,hk,h,_,_=>absurd h (Nat.not_lt_zero _)
 |i+1,k,j,x,hk,h,ht,hx=>by
  have ih:k≠i→(jT js top col l b c i)[j]? =some (bcR b col l x):=fun hn=>adZ hnd i hk (by omega) ht hx
  unfold jT
  split
  ·exact ih (by omega)
  ·split
   ·rename_i j2 hj2;by_cases hki:k=i
    ·subst hki;rw[hk]at hj2;cases hj2;have ho:=nH (top:=top) (col:=col) (l:=l) (b:=b) (c:=c) hnd k hk (.inl (Nat.le_refl _));rw[hx]at ho;rw[List.getElem?_set,if_pos rfl,if_pos (uy ho),zq3,ho];rfl
    ·have hne:j2≠j:=aa4 hnd hj2 hk (fun e=>hki e.symm)
     rw[List.getElem?_set,if_neg hne];exact ih hki
   ·rename_i hj2;exact ih (fun e=>by subst e;rw[hk]at hj2;cases hj2)
theorem anR{M:List (List Int)}{jb n:Nat}(hjM:js.map (fun j=>c.getD j [])=M)(hlt:∀j∈js,j < c.length)(hnd:js.Nodup)(hjt:js[top]? =some jb)(hs:c[jb]? =some b)(hn:n=js.length):
  js.map (fun j=>(jT js top col l b c n).getD j [])=bcM M top col l:=by
 subst hn;have htop:M.getD top []=b:=by
  rw[←hjM,zq3,List.getElem?_map,hjt]
  show c.getD jb []=b;rw[zq3,hs];rfl
 apply List.ext_getElem?
 intro p;unfold bcM;rw[List.getElem?_mapIdx,htop,←hjM,List.getElem?_map,List.getElem?_map]
 cases hjp:js[p]? with
 |none=>rfl
 |some j=>
  obtain⟨x,hx⟩:∃x,c[j]? =some x:=⟨_,zq2 (hlt j (zq4 hjp))⟩
  have e1:c.getD j []=x:=by rw[zq3,hx];rfl
  show some ((jT js top col l b c js.length).getD j [])=some (if p≤top then c.getD j []else bcR b col l (c.getD j []))
  rw[e1,zq3]
  by_cases hp:p≤top
  ·rw[if_pos hp,nH hnd _ hjp (.inr hp),hx];rfl
  ·rw[if_neg hp,adZ hnd _ hjp (uy hjp) (by omega) hx];rfl
end
structure BS where
 M:List (List Int)
 ps:List Nat
 la:Int
 odd:Bool
def nR(M:List (List Int))(top col:Nat):Int:=fi (nzZ col) (M.drop top) top
def aot(s:BS)(i:Nat):BS:=⟨sw s.M i s.ps.length,s.ps,s.la,if i=s.ps.length then s.odd else !s.odd⟩
def wU(s:BS)(col:Nat):BS:=⟨bcM s.M s.ps.length col s.la,s.ps++[col],(s.M.getD s.ps.length []).getD col 0,s.odd⟩
def xZ(s:BS)(col:Nat):BS:=if nR s.M s.ps.length col < 0 then s else wU (aot s (nR s.M s.ps.length col).toNat) col
def nu:Nat→Nat→BS→BS
 |0,_,s=>s
 |n+1,col,s=>if s.ps.length < s.M.length then nu n (col+1) (xZ s col)else s
theorem sW{n col:Nat}{s:BS}(h:n=0∨¬s.ps.length < s.M.length):nu n col s=s:=by
 cases n with
 |zero=>rfl
 |succ n=>exact if_neg (h.resolve_left (by omega))
def kz(K:Nat):Nat→Nat
 |0=>K
 |n+1=>kz (2*K+1) n
theorem vk:∀(n K:Nat),kz K (n+1)=2*kz K n+1
 |0,K=>rfl
 |n+1,K=>by
  show kz (2*K+1) (n+1)=2*kz (2*K+1) n+1;exact vk n (2*K+1)
theorem aev:∀(n K:Nat),K≤kz K n
 |0,K=>Nat.le_refl _
 |n+1,K=>by rw[vk];have:=aev n K;omega
structure BI(s:BS)(r w K:Nat):Prop where
 len:s.M.length=r
 row:∀x∈s.M,x.length=w∧∀z∈x,z.natAbs < WB ^ K
 la:s.la.natAbs < WB ^ K
theorem BI.mono{s:BS}{r w K L:Nat}(h:BI s r w K)(hK:K≤L):BI s r w L:=
 ⟨h.len,fun x hx=>⟨(h.row x hx).1,fun z hz=>Nat.lt_of_lt_of_le ((h.row x hx).2 z hz) (Nat.pow_le_pow_right aS hK)⟩,Nat.lt_of_lt_of_le h.la (Nat.pow_le_pow_right aS hK)⟩
theorem BI.swap{s:BS}{r w K i:Nat}(h:BI s r w K):BI (aot s i) r w K:=
 ⟨by show (sw s.M i _).length=r;rw[zu];exact h.len,fun x hx=>h.row x (aaB hx),h.la⟩
theorem ahm{a b:Int}{K:Nat}(h1:a.natAbs < WB ^ K)(h2:b.natAbs < WB ^ K):(a - b).natAbs < WB ^ (K+1):=by
 have:=alR K;omega
theorem apJ{x y:Int}{K:Nat}(h:x.natAbs < WB ^ K):(fZ x y).natAbs < WB ^ K:=by
 haveI:Bd x K:=⟨h⟩
 exact(Bd.fZ x y K).h
theorem apZ{a p f x l:Int}{K:Nat}(ha:a.natAbs < WB ^ K)(hp:p.natAbs < WB ^ K)(hf:f.natAbs < WB ^ K)(hx:x.natAbs < WB ^ K):(fZ (a*p - f*x) l).natAbs < WB ^ (2*K+1):=by
 refine apJ (ahm ?_ ?_)
 ·rw[Int.natAbs_mul,show 2*K=K+K by omega];exact eY ha hp
 ·rw[Int.natAbs_mul,show 2*K=K+K by omega];exact eY hf hx
theorem asP{r b:List Int}{p f l:Int}{k K:Nat}(hr:∀z∈r,z.natAbs < WB ^ K)(hb:∀z∈b,z.natAbs < WB ^ K)(hp:p.natAbs < WB ^ K)(hf:f.natAbs < WB ^ K):∀z∈bcL r b p f l k,z.natAbs < WB ^ (2*K+1):=by
 intro z hz;unfold bcL at hz;rcases List.mem_append.1 hz with h|h
 ·obtain⟨i,hi⟩:=List.mem_iff_getElem?.1 h;rw[List.getElem?_zipWith]at hi
  cases h1:(r.take k)[i]? with
  |none=>rw[h1]at hi;cases hi
  |some a=>
   cases h2:(b.take k)[i]? with
   |none=>rw[h1,h2]at hi;cases hi
   |some x=>
    rw[h1,h2]at hi;cases hi;exact apZ (hr a (List.mem_of_mem_take (zq4 h1))) hp hf (hb x (List.mem_of_mem_take (zq4 h2)))
 ·exact Nat.lt_of_lt_of_le (hr z (List.mem_of_mem_drop h)) (Nat.pow_le_pow_right aS (by omega))
theorem BI.clear{s:BS}{r w K col:Nat}(h:BI s r w K)(htop:s.ps.length < r)(hcol:col < w):BI (wU s col) r w (2*K+1):=by
 have ht:=h.row _ (kX (l:=s.M) (i:=s.ps.length) (d:=[]) (by rw[h.len];exact htop))
 have hp:((s.M.getD s.ps.length []).getD col 0).natAbs < WB ^ K:=ht.2 _ (kX (by omega))
 refine⟨by show (bcM _ _ _ _).length=r;unfold bcM;rw[List.length_mapIdx];exact h.len,fun x hx=>?_,Nat.lt_of_lt_of_le hp (Nat.pow_le_pow_right aS (by omega))⟩
 have hx:x∈bcM s.M s.ps.length col s.la:=hx;unfold bcM at hx;obtain⟨i,hi⟩:=List.mem_iff_getElem?.1 hx;rw[List.getElem?_mapIdx]at hi
 cases hy:s.M[i]? with
 |none=>rw[hy]at hi;cases hi
 |some y=>
  rw[hy]at hi;have hi:(if i≤s.ps.length then y else bcR (s.M.getD s.ps.length []) col s.la y)=x:=Option.some.inj hi
  obtain⟨yw,yK⟩:=h.row y (zq4 hy)
  split at hi
  ·subst hi;exact⟨yw,fun z hz=>Nat.lt_of_lt_of_le (yK z hz) (Nat.pow_le_pow_right aS (by omega))⟩
  ·subst hi;unfold bcR;exact⟨by rw[aio (by omega) (Nat.le_refl _)];exact yw,asP yK ht.2 hp (yK _ (kX (by omega)))⟩
theorem BI.step{s:BS}{r w K col:Nat}(h:BI s r w K)(htop:s.ps.length < r)(hcol:col < w):BI (xZ s col) r w (2*K+1):=by
 unfold xZ
 split
 ·exact h.mono (by omega)
 ·exact(h.swap (i:=_)).clear (col:=col) htop hcol
theorem BI.run{r w:Nat}:∀(n col:Nat) {s:BS} {K:Nat},BI s r w K→col+n≤w→BI (nu n col s) r w (kz K n)
 |0,col,s,K,h,_=>h
 |n+1,col,s,K,h,hw=>by
  by_cases hl:s.ps.length < s.M.length
  ·rw[show nu (n+1) col s=nu n (col+1) (xZ s col)from if_pos hl]
   exact BI.run n (col+1) (h.step (by rw[←h.len];exact hl) (by omega)) (by omega)
  ·rw[sW (.inr hl)];exact h.mono (aev _ _)
def bS0(M:List (List Int)):BS:=⟨M,[],1,false⟩
def zo(s:BS)(n:Nat):Int:=if s.ps.length < n then 0 else if s.odd then -s.la else s.la
def akp(M:List (List Int))(n:Nat):Int:=zo (nu n 0 (bS0 M)) n
theorem aq1{M:List (List Int)}{n K:Nat}(h:BI (bS0 M) n n K):(akp M n).natAbs < WB ^ kz K n:=by
 have hR:=(BI.run (r:=n) (w:=n) n 0 h (by omega)).la
 unfold akp zo
 split
 ·exact Nat.pow_pos aS
 ·split
  ·rw[Int.natAbs_neg];exact hR
  ·exact hR
example:akp [[1,2],[3,4]] 2= -2:=by decide+kernel
end
section
attribute [local irreducible] IntKind.wrap Go1 Reg WP aR aU bR bO aN aF ak aj aY Sat
attribute [local irreducible] bS dn cK dD dh qv bW mf
abbrev nI(js:List Nat)(c:List (List Int)):jO:=eU 34 31 2 zC js c
abbrev BwI:=List Nat×List (List Int)
abbrev bwC(cols:Nat)(la:Int)(odd:Bool)(pv:Atom):List Atom:=[jE 91 0,.c (.val (.int .i64 (cols:Int))),pv,.c (.val (.bool (decide (la < 0)))),.c (.sat (bI la.natAbs)),.c (.val (.bool odd))]
abbrev bwL(js:List Nat)(c:List (List Int))(ps:List Nat):List (Nat×Ent):=[(91,.abs (nI js c)),(92,sF ps)]
def bwE(s:BS)(cols:Nat):jO:=
 mh 81 (fun p:BwI=>p.1.Nodup∧(∀j∈p.1,j < p.2.length)∧p.1.map (fun j=>p.2.getD j [])=s.M) 109 (fun _=>bwC cols s.la s.odd (.own 92)) (fun p=>bwL p.1 p.2 s.ps)
theorem yI{P:Program}{C:Ctx}{st:St}{Q:Exit→St→Prop}{cd:Code}{s:BS}{cols:Nat}(hb:st.hp 81= .ent (.abs (bwE s cols)))(h1:st.hp 91= .free)(h2:st.hp 92= .free)(f1:C.fix 91=false)(f2:C.fix 92=false)
  (h:∀js c,js.Nodup→(∀j∈js,j < c.length)→js.map (fun j=>c.getD j [])=s.M→WP P C cd (sS st 81 109 (bwC cols s.la s.odd (.own 92)) (bwL js c s.ps)) Q):WP P C cd st Q:=
 WP.afp (ι:=BwI) (b:=81) [91,92] hb (fun p=>rfl) (by intro i hi;simp at hi;rcases hi with rfl|rfl <;> assumption) (by intro i hi;simp at hi;rcases hi with rfl|rfl <;> assumption)
  (by intro p i hi;exact .inl (by simpa[Atom.ids]using hi)) (by intro p i e he;simp at he;rcases he with⟨rfl,rfl⟩|⟨rfl,rfl⟩ <;> rfl) (fun p hp=>h p.1 p.2 hp.1 hp.2.1 hp.2.2)
theorem kS{C:Ctx}{st:St}{s:BS}{cols:Nat}{cells0:List Atom}(js:List Nat)(c:List (List Int))(ρ:List (Nat×Option Nat))(os:List Nat)(hnd:js.Nodup)(hlt:∀j∈js,j < c.length)(hM:js.map (fun j=>c.getD j [])=s.M)(hb:st.hp 81= .ent (.box 109 cells0))
  (hc:mG ρ cells0 (bwC cols s.la s.odd (.own 92))) (hR:aay st ρ (bwL js c s.ps))
  (hos:((bwL js c s.ps).all fun q=>match SX.src ρ q.1 with|some o=>iR os o|none=>true)=true) (hbo:iR os 81=false) (hdi:((bwL js c s.ps).all fun q=>(bwL js c s.ps).all fun q'=>Nat.beq q.1 q'.1||!(eqO (SX.src ρ q.1) (SX.src ρ q'.1)))=true) (hfb:lk ρ 81=none:=by rfl):
  St.le C st (oN st 81 (bwE s cols) os):=
 St.aa9 (ι:=BwI) (b:=81) (js,c) ρ os ⟨hnd,hlt,hM⟩ hb hc hR hos hbo hdi hfb
def zrK(va:Nat→Nat→Int)(i k:Nat):List Int:=(List.range k).map (va i)
def zgM(va:Nat→Nat→Int)(c r:Nat):List (List Int):=(List.range r).map fun i=>zrK va i c
theorem aoy{va:Nat→Nat→Int}{i k:Nat}:zrK va i (k+1)=zrK va i k++[va i k]:=by unfold zrK;rw[List.range_succ,List.map_append];rfl
theorem ah3{va:Nat→Nat→Int}{i k:Nat}:(zrK va i k).length=k:=by simp[zrK]
theorem aic{va:Nat→Nat→Int}{c r:Nat}:(zgM va c r).length=r:=by simp[zgM]
theorem aqH{va:Nat→Nat→Int}{c r:Nat}:(List.range r).map (fun j=>(zgM va c r).getD j [])=zgM va c r:=by
 unfold zgM;refine List.map_congr_left fun j hj=>?_
 rw[zq3,List.getElem?_map,List.getElem?_range (List.mem_range.1 hj)];rfl
theorem ahh{va:Nat→Nat→Int}{c i:Nat}:nI (List.range i++[(zgM va c i).length]) (zgM va c i++[zrK va i c])=nI (List.range (i+1)) (zgM va c (i+1)):=by
 rw[aic,List.range_succ];unfold zgM;rw[List.range_succ,List.map_append];rfl
theorem agA(r c:Nat)(x:Rep)(va:Nat→Nat→Int)(hr:r≤100)(hc:c≤100)
  (hA:∀i k,i < r→k < c→ah prog 202 [.agg (iT r c x),.v (.int .i64 (i:Int)),.v (.int .i64 (k:Int))] (.agg (zN (va i k)))):
  aj prog 106 [.agg (iT r c x)] [] ⟨.ptr 81 0,[(81,.ent (.abs (bwE (bS0 (zgM va c r)) c)))]⟩:=by
 have n81:Named 11 81:=⟨⟩;have o1:=of_1;refine aj.fnA func106 results106 ntmps106 rfl rfl rfl rfl rfl rfl rfl rfl (fun w0 T B E0 hB=>?_)
 refine SX.goM ?_;refine W.loop (fun i=>i≤r) (fun i=>[(1,.ptr 1 0),(3,.ptr 81 0),(13,.v (.int .i64 (r:Int))),(14,.v (.int .i64 (i:Int)))]) (fun i=>[(1,.box 51 (iT r c x)),(81,.box 109 (bwC c 1 false (.c (.val (.slice none 0 0))))),(91,.abs (nI (List.range i) (zgM va c i)))]) (fun i=>r - i) 0 (Nat.zero_le _) (fun i hi=>?_)
  (by
   refine SX.St.aZ [(91,none)] (by intro b h;cases h) ?_ ?_ rfl
   ·repeat(first|exact trivial|refine⟨⟨_,rfl,SX.aG.same rfl⟩,?_⟩)
   ·exact⟨SX.ay.same rfl rfl,SX.ay.mo rfl rfl ⟨aB.ao7 rfl,aB.same rfl,aB.same rfl,aB.same rfl,aB.same rfl,aB.same rfl,trivial⟩,SX.ay.aiX rfl,trivial⟩)
 by_cases h:i < r
 ·refine SX.goM ?_;refine W.loop (fun k=>k≤c) (fun k=>[(1,.ptr 1 0),(3,.ptr 81 0),(4,.v (.int .i64 (i:Int))),(5,.own 100),(13,.v (.int .i64 (r:Int))),(14,.v (.int .i64 (i:Int))),(18,.v (.int .i64 (c:Int))),(19,.v (.int .i64 (k:Int)))]) (fun k=>[(1,.box 51 (iT r c x)),(81,.box 109 (bwC c 1 false (.c (.val (.slice none 0 0))))),(91,.abs (nI (List.range i) (zgM va c i))),(100,.row 31 2 k ((zrK va i k).flatMap zC))]) (fun k=>c - k) 0 (Nat.zero_le _) (fun k hk=>?_)
   (by
    refine SX.St.aZ [(100,none)] (by intro b h;cases h) ?_ ?_ rfl
    ·repeat(first|exact trivial|refine⟨⟨_,rfl,SX.aG.same rfl⟩,?_⟩|refine⟨⟨_,rfl,SX.aG.nil rfl⟩,?_⟩)
    ·exact⟨SX.ay.same rfl rfl,SX.ay.same rfl rfl,SX.ay.same rfl rfl,SX.ay.dF rfl,trivial⟩)
  by_cases h2:k < c
  ·have hf:=hA i k h h2;refine SX.goM ?_;refine W.next (k+1) h2 (by omega) (by
    have e2:(zrK va i k).flatMap zC++zC (va i k)=(zrK va i (k+1)).flatMap zC:=by rw[aoy,List.flatMap_append];simp
    refine SX.St.aZ [(100,some 28)] (by intro b h;cases h) ?_ ?_ rfl
    ·repeat(first|exact trivial|refine⟨⟨_,rfl,SX.aG.same rfl⟩,?_⟩|refine⟨⟨_,rfl,SX.aG.own rfl⟩,?_⟩)
    ·exact⟨SX.ay.same rfl rfl,SX.ay.same rfl rfl,SX.ay.same rfl rfl,SX.ay.row rfl rfl rfl e2,trivial⟩)
  ·obtain rfl:k=c:=by omega
   have hlen:k=(zrK va i k).length:=ah3.symm;have hjs:(List.range i).length=i:=List.length_range;refine SX.goM ?_;refine SX.Go1.litH (l:=zrK va i k) (enc:=zC) rfl rfl rfl rfl hlen rfl ?_;refine SX.goM ?_;refine W.next (i+1) h (by omega) (by
    refine SX.St.aZ [(91,some 37)] (by intro b h;cases h) ?_ ?_ rfl
    ·repeat(first|exact trivial|refine⟨⟨_,rfl,SX.aG.same rfl⟩,?_⟩)
    ·exact⟨SX.ay.same rfl rfl,SX.ay.mo rfl rfl ⟨aB.rel rfl,aB.same rfl,aB.same rfl,aB.same rfl,aB.same rfl,aB.same rfl,trivial⟩,SX.ay.abs rfl rfl ahh,trivial⟩)
 ·obtain rfl:i=r:=by omega
  refine SX.goM ?_;refine aN.le (kS (s:=bS0 (zgM va c i)) (List.range i) (zgM va c i) [(92,none)] [91] List.nodup_range (fun j hj=>by simpa[zgM]using hj) aqH rfl ⟨aB.same rfl,aB.same rfl,aB.nil rfl,aB.same rfl,aB.same rfl,aB.same rfl,trivial⟩ ⟨SX.ay.same rfl rfl,SX.ay.dF rfl,trivial⟩ rfl rfl rfl) ?_
  exact gI (xs:=[.one (.ptr 81 0)]) ⟨ak.tmp rfl,trivial⟩ ⟨rfl,trivial⟩
theorem ap4{α:Type}(l:List α)(i:Nat):sw l i i=l:=by
 unfold sw;cases h:l[i]? with
 |none=>rfl
 |some a=>
  show (l.set i a).set i a=l;rw[List.set_set];apply List.ext_getElem?
  intro j;rw[List.getElem?_set]
  by_cases hj:i=j
  ·subst hj;rw[if_pos rfl,if_pos (uy h),h]
  ·rw[if_neg hj]
theorem aen{z:Int}:bq z=0↔z=0:=by
 unfold bq
 split
 ·rename_i h;exact⟨fun _=>h,fun _=>rfl⟩
 ·rename_i h
  split
  ·exact⟨fun h2=>by omega,fun h2=>absurd h2 h⟩
  ·exact⟨fun h2=>by omega,fun h2=>absurd h2 h⟩
def jS(s:BS)(col:Nat):BS:=if nR s.M s.ps.length col < 0 then s else aot s (nR s.M s.ps.length col).toNat
theorem akF(s:BS)(cols col w K r:Nat)(hI:BI s r w K)(hcol:col < w)(hK:K≤1000000000)(hr:r≤100)(htop:s.ps.length < r):
  aj prog 203 [.ptr 81 0,.v (.int .i64 (col:Int))] [(81,.abs (bwE s cols))] ⟨.v (.bool (decide (0≤nR s.M s.ps.length col))),[(81,.ent (.abs (bwE (jS s col) cols)))]⟩:=by
 obtain⟨M,ps,la,odd⟩:=s;have hl:M.length=r:=hI.len;refine aj.fnA func203 results203 ntmps203 rfl rfl rfl rfl rfl rfl rfl rfl (fun w0 T B E0 hB=>?_)
 refine yI rfl rfl rfl rfl rfl (fun js c hnd hlt hjM=>?_)
 have hjM:js.map (fun j=>c.getD j [])=M:=hjM
 have hlen:js.length=M.length:=by rw[←hjM,zq5]
 dsimp only at htop ⊢
 refine SX.goM ?_;refine W.loop (fun i=>ps.length≤i∧i≤M.length∧fi (nzZ col) (M.drop i) i=nR M ps.length col) (fun i=>[(0,.ptr 81 0),(1,.v (.int .i64 (col:Int))),(5,.v (.int .i64 (ps.length:Int))),(6,.v (.int .i64 (i:Int)))]) (fun i=>[(81,.box 109 (bwC cols la odd (.own 92))),(91,.abs (nI js c)),(92,sF ps)]) (fun i=>M.length - i) ps.length ⟨Nat.le_refl _,by omega,rfl⟩ (fun i ⟨hi0,hi,he⟩=>?_)
  (by
   refine SX.St.aZ [] (by intro b h;exact SX.bU h rfl) ?_ ?_ rfl
   ·repeat(first|exact trivial|refine⟨⟨_,rfl,SX.aG.same rfl⟩,?_⟩)
   ·exact⟨SX.ay.same rfl rfl,SX.ay.same rfl rfl,SX.ay.same rfl rfl,trivial⟩)
 by_cases h:i < M.length
 ·obtain⟨ji,hji⟩:∃j,js[i]? =some j:=⟨_,zq2 (show i < js.length by omega)⟩
  obtain⟨jt,hjt⟩:∃j,js[ps.length]? =some j:=⟨_,zq2 (show ps.length < js.length by omega)⟩
  have lji:=hlt ji (zq4 hji);have ljt:=hlt jt (zq4 hjt);obtain⟨row,hrow⟩:∃x,c[ji]? =some x:=⟨_,zq2 lji⟩
  have hgd:c.getD ji []=row:=by rw[zq3,hrow];rfl
  have hMi:M[i]? =some row:=by rw[←hjM,List.getElem?_map,hji,←hgd];rfl
  obtain⟨hw,hwK⟩:=hI.row row (zq4 hMi);obtain⟨v,hv⟩:∃v,row[col]? =some v:=⟨_,zq2 (show col < row.length by omega)⟩
  have hvd:row.getD col 0=v:=by rw[zq3,hv];rfl
  haveI i1:Bd v K:=⟨hwK v (zq4 hv)⟩
  rw[om hMi]at he;by_cases h0:v=0
  ·have hs:bq v=0:=aen.2 h0;have hn:nzZ col row=false:=by unfold nzZ;rw[hvd,h0];rfl
   rw[hn,if_neg (by decide)]at he
   refine SX.goM ?_;refine W.next (i+1) ⟨by omega,h,he⟩ (by omega) (by
    refine SX.St.aZ [] (by intro b h;exact SX.bU h rfl) ?_ ?_ rfl
    ·repeat(first|exact trivial|refine⟨⟨_,rfl,SX.aG.same rfl⟩,?_⟩)
    ·exact⟨SX.ay.same rfl rfl,SX.ay.same rfl rfl,SX.ay.same rfl rfl,trivial⟩)
  ·have hs:¬bq v=0:=fun h2=>h0 (aen.1 h2)
   have hn:nzZ col row=true:=by unfold nzZ;rw[hvd];exact decide_eq_true h0
   rw[hn,if_pos rfl]at he;have e1:decide (0≤nR M ps.length col)=true:=decide_eq_true (by omega)
   have e2:jS ⟨M,ps,la,odd⟩ col=⟨sw M i ps.length,ps,la,if i=ps.length then odd else !odd⟩:=by
    unfold jS
    dsimp only
    rw[if_neg (by omega),←he];rfl
   rw[e1,e2];by_cases ht:i=ps.length
   ·subst ht;rw[ap4,if_pos rfl];refine SX.goM ?_;refine aN.le (kS (s:=⟨M,ps,la,odd⟩) js c [] [91,92] hnd hlt hjM rfl ⟨aB.same rfl,aB.same rfl,aB.same rfl,aB.same rfl,aB.same rfl,aB.same rfl,trivial⟩ ⟨SX.ay.same rfl rfl,SX.ay.same rfl rfl,trivial⟩ rfl rfl rfl) ?_;exact gI (xs:=[.one (.c (.val (.bool true)))]) ⟨ak.tmp rfl,trivial⟩ ⟨rfl,trivial⟩
   ·rw[if_neg ht];have l1:(js.set i jt).length=js.length:=List.length_set;have hsw:((js.set i jt).set ps.length ji).map (fun j=>c.getD j [])=sw M i ps.length:=by rw[←hjM];exact(aoM _ hji hjt).symm
    refine SX.goM ?_;refine aN.le (kS (s:=⟨sw M i ps.length,ps,la,!odd⟩) ((js.set i jt).set ps.length ji) c [] [91,92] (aeS hnd hji hjt) (fun j hj=>?_) hsw rfl ⟨aB.same rfl,aB.same rfl,aB.same rfl,aB.same rfl,aB.same rfl,aB.same rfl,trivial⟩ ⟨SX.ay.same rfl rfl,SX.ay.same rfl rfl,trivial⟩ rfl rfl rfl) ?_
    ·rcases List.mem_or_eq_of_mem_set hj with hj|hj
     ·rcases List.mem_or_eq_of_mem_set hj with hj|hj
      ·exact hlt j hj
      ·rw[hj];exact ljt
     ·rw[hj];exact lji
    ·exact gI (xs:=[.one (.c (.val (.bool true)))]) ⟨ak.tmp rfl,trivial⟩ ⟨rfl,trivial⟩
 ·obtain rfl:i=M.length:=by omega
  rw[List.drop_length]at he;have e0:nR M ps.length col= -1:=he.symm;have e1:decide (0≤nR M ps.length col)=false:=decide_eq_false (by omega)
  have e2:jS ⟨M,ps,la,odd⟩ col=⟨M,ps,la,odd⟩:=by
   unfold jS
   dsimp only
   rw[if_pos (by omega)]
  rw[e1,e2];refine SX.goM ?_;refine aN.le (kS (s:=⟨M,ps,la,odd⟩) js c [] [91,92] hnd hlt hjM rfl ⟨aB.same rfl,aB.same rfl,aB.same rfl,aB.same rfl,aB.same rfl,aB.same rfl,trivial⟩ ⟨SX.ay.same rfl rfl,SX.ay.same rfl rfl,trivial⟩ rfl rfl rfl) ?_;exact gI (xs:=[.one (.c (.val (.bool false)))]) ⟨ak.tmp rfl,trivial⟩ ⟨rfl,trivial⟩
end
section
theorem alI{P:Program}{C:Ctx}{ops:List Oper}{rest:List Oper}{st:St}{acc:_}{K:_}{d:Tmp}{ty:TypeId}{f:FuncId}{xs:Array Operand}{tys:Array TypeId}{args:List AV}{b:Nat}{A:jO}{e:Int}(hc:aj P f args [] ⟨.tup [.one (.ptr b 0),eNo e],[(b,.ent (.abs A))]⟩)(ha:evs st xs.toList=some args)(hd:aC (some d) C.nt=true)(hf:st.hp b= .free)
  (next:Reg P C ops rest (st.app (some d) ⟨.tup [.one (.ptr b 0),eNo e],[(b,.ent (.abs A))]⟩) (([b],[b])::acc) K):Go1 P C ops (some d) (.call ⟨.value (.func f),xs,tys⟩) ty rest st acc K:=
 Go1.aao (cap:=[]) (pre:=[]) (out:=⟨.tup [.one (.ptr b 0),eNo e],[(b,.ent (.abs A))]⟩) (fp:=[b]) hd rfl ha (by simpa using hc) (fun b e hb=>by cases hb) (fun b s hb=>by simp at hb;rw[hb.1];exact .inr hf) (fun b s hb=>by simp at hb;rw[hb.2];rfl) (fun b s hb=>by simp at hb;simp[hb.1])
  (fun i hi=>by
   left
   rcases hi with hi|⟨b,e,hb,hi⟩
   ·have:i=b:=by simpa[AV.ids,AV0.ids,Atom.ids]using hi
    subst this;exact⟨_,by simp;rfl⟩
   ·simp at hb;obtain⟨rfl,rfl⟩:=hb;cases hi) next
theorem aor{P:Program}{C:Ctx}{ops:List Oper}{rest:List Oper}{st:St}{acc:_}{K:_}{d:Tmp}{ty:TypeId}{f:FuncId}{xs:Array Operand}{tys:Array TypeId}{args:List AV}{b:Nat}{A:jO}(hc:aj P f args [] ⟨.ptr b 0,[(b,.ent (.abs A))]⟩)(ha:evs st xs.toList=some args)(hd:aC (some d) C.nt=true)(hf:st.hp b= .free)
  (next:Reg P C ops rest (st.app (some d) ⟨.ptr b 0,[(b,.ent (.abs A))]⟩) (([b],[b])::acc) K):Go1 P C ops (some d) (.call ⟨.value (.func f),xs,tys⟩) ty rest st acc K:=
 Go1.aao (cap:=[]) (pre:=[]) (out:=⟨.ptr b 0,[(b,.ent (.abs A))]⟩) (fp:=[b]) hd rfl ha (by simpa using hc) (fun b e hb=>by cases hb) (fun b s hb=>by simp at hb;rw[hb.1];exact .inr hf) (fun b s hb=>by simp at hb;rw[hb.2];rfl) (fun b s hb=>by simp at hb;simp[hb.1])
  (fun i hi=>by
   left
   rcases hi with hi|⟨b,e,hb,hi⟩
   ·have:i=b:=by simpa[AV.ids,AV0.ids,Atom.ids]using hi
    subst this;exact⟨_,by simp;rfl⟩
   ·simp at hb;obtain⟨rfl,rfl⟩:=hb;cases hi) next
attribute [local irreducible] IntKind.wrap Go1 Reg WP aR aU bR bO aN aF ak aj aY Sat
attribute [local irreducible] bS dn cK dD dh qv bW mf
theorem ag8(s:BS)(cols col w K r:Nat)(hI:BI s r w K)(hcol:col < w)(hK:K≤1000000)(hr:r≤100)(hw:w≤100)(htop:s.ps.length < r):
  aj prog 204 [.ptr 81 0,.v (.int .i64 (col:Int))] [(81,.abs (bwE s cols))] ⟨.tup [],[(81,.ent (.abs (bwE (wU s col) cols)))]⟩:=by
 obtain⟨M,ps,la,odd⟩:=s;have hl:M.length=r:=hI.len
 haveI iL:Bd la K:=⟨hI.la⟩
 refine aj.fnA func204 results204 ntmps204 rfl rfl rfl rfl rfl rfl rfl rfl (fun w0 T B E0 hB=>?_)
 refine yI rfl rfl rfl rfl rfl (fun js c hnd hlt hjM=>?_)
 have hjM:js.map (fun j=>c.getD j [])=M:=hjM
 have hlen:js.length=M.length:=by rw[←hjM,zq5]
 have htop:ps.length < r:=htop
 dsimp only
 obtain⟨jb,hjb⟩:∃j,js[ps.length]? =some j:=⟨_,zq2 (show ps.length < js.length by omega)⟩
 have ljb:=hlt jb (zq4 hjb);obtain⟨b,hb⟩:∃x,c[jb]? =some x:=⟨_,zq2 ljb⟩
 have hgd:c.getD jb []=b:=by rw[zq3,hb];rfl
 have hMb:M[ps.length]? =some b:=by rw[←hjM,List.getElem?_map,hjb,←hgd];rfl
 obtain⟨hbw,hbK⟩:=hI.row b (zq4 hMb);obtain⟨p,hp⟩:∃v,b[col]? =some v:=⟨_,zq2 (show col < b.length by omega)⟩
 have hpd:b.getD col 0=p:=by rw[zq3,hp];rfl
 haveI iP:Bd p K:=⟨hbK p (zq4 hp)⟩
 refine SX.goM ?_;refine W.loop (fun i=>ps.length+1≤i∧i≤M.length) (fun i=>[(0,.ptr 81 0),(1,.v (.int .i64 (col:Int))),(4,.v (.int .i64 (ps.length:Int))),(5,.it (.one (jE 91 (jb+1)))),(6,.v (.int .i64 (i:Int)))]) (fun i=>[(81,.box 109 (bwC cols la odd (.own 92))),(91,.abs (nI js (jT js ps.length col la b c i))),(92,sF ps)]) (fun i=>M.length - i) (ps.length+1) ⟨Nat.le_refl _,by omega⟩ (fun i ⟨hi0,hi⟩=>?_)
  (by
   rw[aaH _ (Nat.le_refl _)];refine SX.St.aZ [] (by intro b h;exact SX.bU h rfl) ?_ ?_ rfl
   ·repeat(first|exact trivial|refine⟨⟨_,rfl,SX.aG.same rfl⟩,?_⟩)
   ·exact⟨SX.ay.same rfl rfl,SX.ay.same rfl rfl,SX.ay.same rfl rfl,trivial⟩)
 by_cases h:i < M.length
 ·obtain⟨ji,hji⟩:∃j,js[i]? =some j:=⟨_,zq2 (show i < js.length by omega)⟩
  have lji:=hlt ji (zq4 hji);have hne:ji≠jb:=aa4 hnd hji hjb (by omega)
  obtain⟨x,hx⟩:∃x,c[ji]? =some x:=⟨_,zq2 lji⟩
  have hxd:c.getD ji []=x:=by rw[zq3,hx];rfl
  have hMi:M[i]? =some x:=by rw[←hjM,List.getElem?_map,hji,←hxd];rfl
  obtain⟨hxw,hxK⟩:=hI.row x (zq4 hMi);obtain⟨f,hf⟩:∃v,x[col]? =some v:=⟨_,zq2 (show col < x.length by omega)⟩
  have hfd:x.getD col 0=f:=by rw[zq3,hf];rfl
  haveI iF:Bd f K:=⟨hxK f (zq4 hf)⟩
  have hcx:(jT js ps.length col la b c i)[ji]? =some x:=by rw[nH hnd i hji (.inl (Nat.le_refl _))];exact hx
  have hcb:(jT js ps.length col la b c i)[jb]? =some b:=by rw[nH hnd i hjb (.inr (Nat.le_refl _))];exact hb
  have hnx:jT js ps.length col la b c (i+1)=(jT js ps.length col la b c i).set ji (bcL x b p f la x.length):=by
   conv=>lhs;unfold jT;rw[if_neg (by omega),hji]
   dsimp only
   rw[zq3,hcx]
   show _=_;unfold bcR;rw[hpd];show (jT js ps.length col la b c i).set ji (bcL x b p (x.getD col 0) la x.length)=_;rw[hfd]
  have hci:(jT js ps.length col la b c i).length=c.length:=qc i;generalize jT js ps.length col la b c i=ci at*;refine SX.goM ?_;refine W.loop (fun k=>k≤x.length) (fun k=>[(0,.ptr 81 0),(1,.v (.int .i64 (col:Int))),(4,.v (.int .i64 (ps.length:Int))),(5,.it (.one (jE 91 (jb+1)))),(6,.v (.int .i64 (i:Int))),(7,.it (.one (jE 91 (ji+1)))),(8,.ptr 8 0),(46,.v (.int .i64 (x.length:Int))),(47,.v (.int .i64 (k:Int)))]) (fun k=>[(81,.box 109 (bwC cols la odd (.own 92))),(91,.abs (nI js (ci.set ji (bcL x b p f la k)))),(92,sF ps),(8,.box 31 (zN f))]) (fun k=>x.length - k) 0 (Nat.zero_le _) (fun k hk=>?_)
   (by
    have e:nI js ci=nI js (ci.set ji (bcL x b p f la 0)):=by
     rw[aoG]
     congr 1
     apply List.ext_getElem?
     intro n;rw[List.getElem?_set]
     by_cases hn:ji=n
     ·subst hn;rw[if_pos rfl,if_pos (by omega),hcx]
     ·rw[if_neg hn]
    refine SX.St.aZ [] (by intro b h;exact SX.bU h rfl) ?_ ?_ rfl
    ·repeat(first|exact trivial|refine⟨⟨_,rfl,SX.aG.same rfl⟩,?_⟩)
    ·exact⟨SX.ay.same rfl rfl,SX.ay.eq rfl (congrArg Ent.abs e) rfl,SX.ay.same rfl rfl,SX.ay.same rfl rfl,trivial⟩)
  have lci:ji < ci.length:=by omega
  by_cases h2:k < x.length
  ·obtain⟨a,ha⟩:∃a,x[k]? =some a:=⟨_,zq2 h2⟩
   obtain⟨y,hy⟩:∃y,b[k]? =some y:=⟨_,zq2 (show k < b.length by omega)⟩
   haveI iA:Bd a K:=⟨hxK a (zq4 ha)⟩
   haveI iY:Bd y K:=⟨hbK y (zq4 hy)⟩
   have ga:=aqG (p:=p) (f:=f) (l:=la) (show x.length=b.length by omega) ha
   have gl:=aio (p:=p) (f:=f) (l:=la) (show x.length=b.length by omega) hk
   have c1:(ci.set ji (bcL x b p f la k))[ji]? =some (bcL x b p f la k):=by rw[List.getElem?_set,if_pos rfl,if_pos lci]
   have c2:(ci.set ji (bcL x b p f la k))[jb]? =some b:=by rw[List.getElem?_set,if_neg hne];exact hcb
   have e1:nI js ((ci.set ji (bcL x b p f la k)).set ji ((bcL x b p f la k).set k (fZ (a*p - f*y) la)))=nI js (ci.set ji (bcL x b p f la (k+1))):=by rw[aqN (by omega) ha hy,List.set_set]
   refine SX.goM ?_;refine W.next (k+1) h2 (by omega) (by
    refine SX.St.aZ [] (by intro b h;exact SX.bU h rfl) ?_ ?_ rfl
    ·repeat(first|exact trivial|refine⟨⟨_,rfl,SX.aG.same rfl⟩,?_⟩)
    ·exact⟨SX.ay.same rfl rfl,SX.ay.eq rfl (congrArg Ent.abs e1) rfl,SX.ay.same rfl rfl,SX.ay.same rfl rfl,trivial⟩)
  ·have hkx:k=x.length:=by omega
   subst hkx;refine SX.goM ?_;refine W.next (i+1) ⟨by omega,h⟩ (by omega) (by
    refine SX.St.aZ [] (by intro b h;exact SX.bU h rfl) ?_ ?_ rfl
    ·repeat(first|exact trivial|refine⟨⟨_,rfl,SX.aG.same rfl⟩,?_⟩)
    ·exact⟨SX.ay.same rfl rfl,SX.ay.eq rfl (congrArg (fun q=>Ent.abs (nI js q)) hnx.symm) rfl,SX.ay.same rfl rfl,trivial⟩)
 ·obtain rfl:i=M.length:=by omega
  have hcb:(jT js ps.length col la b c M.length)[jb]? =some b:=by rw[nH hnd _ hjb (.inr (Nat.le_refl _))];exact hb
  have hlaw:=anR (l:=la) (col:=col) hjM hlt hnd hjb hb hlen.symm;have e2:wU ⟨M,ps,la,odd⟩ col=⟨bcM M ps.length col la,ps++[col],p,odd⟩:=by
   have hg:M.getD ps.length []=b:=by rw[zq3,hMb];rfl
   unfold wU
   dsimp only
   rw[hg,hpd]
  have hci:∀j∈js,j < (jT js ps.length col la b c M.length).length:=fun j hj=>by rw[qc];exact hlt j hj
  rw[e2];generalize jT js ps.length col la b c M.length=ci at*;refine SX.goM ?_;refine aN.le (kS (s:=⟨bcM M ps.length col la,ps++[col],p,odd⟩) js ci [(92,some 93)] [91,93] hnd hci hlaw rfl ⟨aB.same rfl,aB.same rfl,aB.own rfl,aB.same rfl,aB.same rfl,aB.same rfl,trivial⟩ ⟨SX.ay.same rfl rfl,SX.ay.row rfl rfl (by rw[List.length_append];rfl) (by rw[List.flatMap_append];rfl),trivial⟩ rfl rfl rfl) ?_
  exact gI (xs:=[]) trivial ⟨rfl,trivial⟩
theorem aeY{s:BS}{col:Nat}(h:¬nR s.M s.ps.length col < 0):xZ s col=wU (jS s col) col:=by
 unfold xZ jS;rw[if_neg h,if_neg h]
theorem aok(s0:BS)(cols w K r:Nat)(hI:BI s0 r w K)(hcol:cols≤w)(hr:r≤100)(hw:w≤100)(hkz:kz K cols≤1000000):
  aj prog 107 [.ptr 81 0] [(81,.abs (bwE s0 cols))] ⟨.tup [],[(81,.ent (.abs (bwE (nu cols 0 s0) cols)))]⟩:=by
 refine aj.fnA func107 results107 ntmps107 rfl rfl rfl rfl rfl rfl rfl rfl (fun w0 T B E0 hB=>?_)
 refine SX.goM ?_;refine W.mH (fun(col:Nat) (s:BS)=>col≤cols∧nu (cols - col) col s=nu cols 0 s0∧BI s r w (kz K col)) (fun col s=>[(0,.ptr 81 0),(2,.v (.int .i64 (col:Int)))]) (fun col s=>[(81,.abs (bwE s cols))]) (fun col s=>cols - col) 0 s0 ⟨Nat.zero_le _,rfl,hI⟩ (fun col s hq=>?_)
  (by
   refine SX.St.aZ [] (by intro b h;exact SX.bU h rfl) ?_ ?_ rfl
   ·repeat(first|exact trivial|refine⟨⟨_,rfl,SX.aG.same rfl⟩,?_⟩)
   ·exact⟨SX.ay.same rfl rfl,trivial⟩)
 obtain⟨hq1,hq2,hq3⟩:=hq;have hlM:=hq3.len;have hkm:kz K col≤1000000:=by
  have hmono:∀n m,kz K n≤kz K (n+m):=fun n m=>by
   induction m with
   |zero=>exact Nat.le_refl _
   |succ m ih=>rw[←Nat.add_assoc,vk];omega
  have:=hmono col (cols - col);rw[show col+(cols - col)=cols by omega]at this
  omega
 refine yI rfl rfl rfl rfl rfl (fun js c hnd hlt hjM=>?_)
 have hlen:js.length=s.M.length:=by rw[←hjM,zq5]
 by_cases h1:col < cols
 ·by_cases h2:s.ps.length < s.M.length
  ·have hh:=Hide.mk h2;clear h2;refine SX.goM ?_;refine SX.WP.weaken (kS (s:=s) js c [] [91,92] hnd hlt hjM rfl ⟨aB.same rfl,aB.same rfl,aB.same rfl,aB.same rfl,aB.same rfl,aB.same rfl,trivial⟩ ⟨SX.ay.same rfl rfl,SX.ay.same rfl rfl,trivial⟩ rfl rfl rfl) ?_;have h2:=hh.out;have cF:=akF s cols col w (kz K col) r hq3 (by omega) (by omega) hr (by omega)
   have hn:∃n,cols - col=n+1:=⟨cols - col - 1,by omega⟩
   by_cases h3:nR s.M s.ps.length col < 0
   ·rw[decide_eq_false (show¬0≤nR s.M s.ps.length col by omega),show jS s col=s from if_pos h3]at cF
    refine SX.goM ?_;refine W.lS (col+1) s ⟨h1,?_,by rw[vk];exact hq3.mono (by omega)⟩ (by omega) (by
     refine SX.St.aZ [] (by intro b h;exact SX.bU h rfl) ?_ ?_ rfl
     ·repeat(first|exact trivial|refine⟨⟨_,rfl,SX.aG.same rfl⟩,?_⟩)
     ·exact⟨SX.ay.same rfl rfl,trivial⟩)
    rw[←hq2];obtain⟨n,hn⟩:=hn;rw[hn,show cols - (col+1)=n by omega]
    conv=>rhs;unfold nu;rw[if_pos h2]
    rw[show xZ s col=s from if_pos h3]
   ·rw[decide_eq_true (show 0≤nR s.M s.ps.length col by omega)]at cF
    have hFI:BI (jS s col) r w (kz K col):=by
     unfold jS;rw[if_neg h3];exact hq3.swap
    have hFp:(jS s col).ps=s.ps:=by unfold jS;rw[if_neg h3];rfl
    have cC:=ag8 (jS s col) cols col w (kz K col) r hFI (by omega) (by omega) hr hw (by rw[hFp];omega)
    rw[←aeY h3]at cC;refine SX.goM ?_;refine W.lS (col+1) (xZ s col) ⟨h1,?_,by rw[vk];exact hq3.step (by omega) (by omega)⟩ (by omega) (by
     refine SX.St.aZ [] (by intro b h;exact SX.bU h rfl) ?_ ?_ rfl
     ·repeat(first|exact trivial|refine⟨⟨_,rfl,SX.aG.same rfl⟩,?_⟩)
     ·exact⟨SX.ay.same rfl rfl,trivial⟩)
    rw[←hq2];obtain⟨n,hn⟩:=hn;rw[hn,show cols - (col+1)=n by omega]
    conv=>rhs;unfold nu;rw[if_pos h2]
  ·refine SX.goM ?_;refine aN.le (kS (s:=s) js c [] [91,92] hnd hlt hjM rfl ⟨aB.same rfl,aB.same rfl,aB.same rfl,aB.same rfl,aB.same rfl,aB.same rfl,trivial⟩ ⟨SX.ay.same rfl rfl,SX.ay.same rfl rfl,trivial⟩ rfl rfl rfl) ?_;rw[←hq2,sW (.inr h2)];exact gI (xs:=[]) trivial ⟨rfl,trivial⟩
 ·refine SX.goM ?_;refine aN.le (kS (s:=s) js c [] [91,92] hnd hlt hjM rfl ⟨aB.same rfl,aB.same rfl,aB.same rfl,aB.same rfl,aB.same rfl,aB.same rfl,trivial⟩ ⟨SX.ay.same rfl rfl,SX.ay.same rfl rfl,trivial⟩ rfl rfl rfl) ?_;rw[←hq2,sW (.inl (by omega))]
  exact gI (xs:=[]) trivial ⟨rfl,trivial⟩
theorem agS{va:Nat→Nat→Int}{r c K:Nat}(h:∀i k,i < r→k < c→(va i k).natAbs < WB ^ K)(hK:1≤K):BI (bS0 (zgM va c r)) r c K:=by
 refine⟨aic,fun x hx=>?_,?_⟩
 ·obtain⟨i,hi,rfl⟩:=List.mem_map.1 hx;refine⟨ah3,fun z hz=>?_⟩
  obtain⟨k,hk,rfl⟩:=List.mem_map.1 hz;exact h i k (List.mem_range.1 hi) (List.mem_range.1 hk)
 ·exact Nat.lt_of_lt_of_le (show (1:Int).natAbs < WB ^ 1 by rw[Nat.pow_one,bV];decide) (Nat.pow_le_pow_right aS hK)
section
variable{r c K:Nat}{x:Rep}{va:Nat→Nat→Int}(hr:r≤64)(hc:c≤64)(hF:ah prog 105 [.agg (iT r c x)] (.v (.bool true)))
  (hA:∀i k,i < r→k < c→ah prog 202 [.agg (iT r c x),.v (.int .i64 (i:Int)),.v (.int .i64 (k:Int))] (.agg (zN (va i k)))) (hz:∀i k,i < r→k < c→(va i k).natAbs < WB ^ K) (hK1:1≤K) (hkz:kz K c≤1000000)
include hr hc hF hA hz hK1 hkz
theorem ak0:aj prog 54 [.agg (iT r c x)] [] ⟨.tup [.one (.ptr 81 0),eNo 0],[(81,.ent (.abs (bwE (nu c 0 (bS0 (zgM va c r))) c)))]⟩:=by
 have cb:=agA r c x va (by omega) (by omega) hA
 have cR:=aok (bS0 (zgM va c r)) c c K r (agS hz hK1) (Nat.le_refl _) (by omega) (by omega) hkz
 refine aj.fnA func54 results54 ntmps54 rfl rfl rfl rfl rfl rfl rfl rfl (fun w0 T B E0 hB=>?_)
 refine SX.goM ?_;refine aor cb rfl rfl rfl ?_;refine SX.goM ?_;exact gI (xs:=[.one (.ptr 81 0),eNo 0]) ⟨ak.tmp rfl,ak.tmp rfl,trivial⟩ ⟨rfl,trivial⟩
end
theorem alp{n K:Nat}{x:Rep}{va:Nat→Nat→Int}(hn:n≤64)(hF:ah prog 105 [.agg (iT n n x)] (.v (.bool true)))
  (hA:∀i k,i < n→k < n→ah prog 202 [.agg (iT n n x),.v (.int .i64 (i:Int)),.v (.int .i64 (k:Int))] (.agg (zN (va i k)))) (hz:∀i k,i < n→k < n→(va i k).natAbs < WB ^ K) (hK1:1≤K) (hkz:kz K n≤1000000):
  ah prog 13 [.agg (iT n n x)] (.tup [.agg (zN (akp (zgM va n n) n)),eNo 0]):=by
 have cD:=ak0 hn hn hF hA hz hK1 hkz;have hR:=BI.run (r:=n) (w:=n) n 0 (agS hz hK1) (by omega)
 unfold akp;generalize nu n 0 (bS0 (zgM va n n))=s at*;obtain⟨M,ps,la,odd⟩:=s
 haveI iL:Bd la (kz K n):=⟨hR.la⟩
 obtain⟨e,he⟩:∃e:Int,Hide (e=0):=⟨0,⟨rfl⟩⟩;have cD:aj prog 54 [.agg (iT n n x)] [] ⟨.tup [.one (.ptr 81 0),eNo e],[(81,.ent (.abs (bwE ⟨M,ps,la,odd⟩ n)))]⟩:=by rw[he.out];exact cD
 have heq:eNo 0=eNo e:=by rw[he.out]
 refine ah.fnF func13 results13 ntmps13 rfl rfl rfl (by simp[AV.ids,AV0.ids,Atom.ids]) rfl (fun w0 T B E0 hB=>?_)
 refine SX.goM ?_;refine alI cD rfl rfl rfl ?_;refine SX.goM ?_;refine yI rfl rfl rfl rfl rfl (fun js c hnd hlt hjM=>?_)
 dsimp only
 have he0:=he.out;by_cases h1:ps.length < n
 ·have e1:zo ⟨M,ps,la,odd⟩ n=0:=if_pos h1;rw[e1];refine SX.goM ?_;exact .ok (aF.mk2 (ak.imp (ak.iV rfl rfl rfl) zN0) (ak.tmp rfl))
 ·cases odd with
  |true=>
   have e1:zo ⟨M,ps,la,true⟩ n= -la:=by unfold zo;rw[if_neg h1,if_pos rfl]
   rw[e1];refine SX.goM ?_;exact .ok (aF.mk2 (ak.iV rfl rfl rfl) (ak.tmp rfl))
  |false=>
   have e1:zo ⟨M,ps,la,false⟩ n=la:=by unfold zo;rw[if_neg h1];rfl
   rw[e1];refine SX.goM ?_;exact .ok (aF.mk2 (ak.iV rfl rfl rfl) (ak.tmp rfl))
theorem ab2{r c:Nat}{x:Rep}(h:r≠c):ah prog 13 [.agg (iT r c x)] (.tup [.agg (zN 0),eNo 2]):=by
 refine ah.fnF func13 results13 ntmps13 rfl rfl rfl (by simp[AV.ids,AV0.ids,Atom.ids]) rfl (fun w0 T B E0 hB=>?_)
 refine SX.goM ?_;exact .ok (aF.mk2 (ak.imp (ak.iV rfl rfl rfl) zN0) (ak.tmp rfl))
end
end Go.Proofs.YtjnhnbgpifohjaaGreatDoor