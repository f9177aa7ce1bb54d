import Derived.Test.YtegehclknhmkgaaGreatDoorS8
import Derived.Test.YtegehclknhmkgaaGreatDoorS6
set_option linter.unusedVariables false
set_option linter.unusedSimpArgs false
open Go.Proofs.Tryz
namespace Go.Proofs.YtegehclknhmkgaaGreatDoor
open Go.RowKit QM SX LA
section
def nzZ(col:Nat)(r:List Int):Bool:=decide (r.getD col 0≠0)
def bcL(r b:List Int)(p f l:Int)(k:Nat):List Int:=List.zipWith (fun a x=>gu (a*p - f*x) l) (r.take k) (b.take k)++r.drop k
theorem uj{α:Type}{l:List α}{k:Nat}{a:α}(h:l[k]? =some a):k < l.length:=by
 rcases Nat.lt_or_ge k l.length with h2|h2
 ·exact h2
 ·rw[List.getElem?_eq_none h2]at h;cases h
theorem ain{r b:List Int}{p f l:Int}{k:Nat}(h:r.length=b.length)(hk:k≤r.length):(bcL r b p f l k).length=r.length:=by
 unfold bcL;simp;omega
theorem ar1{r b:List Int}{p f l:Int}{k:Nat}{a:Int}(h:r.length=b.length)(ha:r[k]? =some a):(bcL r b p f l k)[k]? =some a:=by
 have hk:=uj ha;unfold bcL;rw[List.getElem?_append_right (by simp;omega)]
 simp only[List.length_zipWith,List.length_take,List.getElem?_drop]
 rw[show min (min k r.length) (min k b.length)=k by omega,Nat.sub_self,Nat.add_zero];exact ha
theorem aqr{r b:List Int}{p f l:Int}{k:Nat}{a x:Int}(h:r.length=b.length)(ha:r[k]? =some a)(hb:b[k]? =some x):(bcL r b p f l k).set k (gu (a*p - f*x) l)=bcL r b p f l (k+1):=by
 have hk:=uj ha;apply List.ext_getElem?
 intro i;rw[List.getElem?_set]
 unfold bcL;by_cases hi:k=i
 ·subst hi;rw[if_pos rfl,if_pos (by simp;omega)]
  rw[List.getElem?_append_left (by simp;omega),List.getElem?_zipWith]
  simp[ha,hb]
 ·rw[if_neg hi];by_cases hlt:i < k
  ·rw[List.getElem?_append_left (by simp;omega),List.getElem?_append_left (by simp;omega),List.getElem?_zipWith,List.getElem?_zipWith]
   simp[List.getElem?_take,hlt,show i < k+1 by omega]
  ·rw[List.getElem?_append_right (by simp;omega),List.getElem?_append_right (by simp;omega)]
   simp only[List.length_zipWith,List.length_take,List.getElem?_drop]
   congr 1
   omega
theorem amH{r b:List Int}{p f l:Int}:bcL r b p f l 0=r:=by unfold bcL;simp
def bcR(b:List Int)(col:Nat)(l:Int)(r:List Int):List Int:=bcL r b (b.getD col 0) (r.getD col 0) l r.length
def bcM(M:List (List Int))(top col:Nat)(l:Int):List (List Int):=M.mapIdx fun i r=>if i≤top then r else bcR (M.getD top []) col l r
def jZ(js:List Nat)(top col:Nat)(l:Int)(b:List Int)(c:List (List Int)):Nat→List (List Int)
 |0=>c
 |i+1=>if i≤top then jZ js top col l b c i else match js[i]? with
  |some j=>(jZ js top col l b c i).set j (bcR b col l ((jZ js top col l b c i).getD j []))
  |none=>jZ js top col l b c i
section
variable{js:List Nat}{top col:Nat}{l:Int}{b:List Int}{c:List (List Int)}
theorem pY:∀i,(jZ js top col l b c i).length=c.length
 |0=>rfl
 |i+1=>by
  unfold jZ
  split
  ·exact pY i
  ·split
   ·rw[List.length_set];exact pY i
   ·exact pY i
theorem aaU:∀i,i≤top+1→jZ js top col l b c i=c
 |0,_=>rfl
 |i+1,h=>by
  unfold jZ;rw[if_pos (by omega)]
  exact aaU i (by omega)
theorem nG(hnd:js.Nodup):∀(i:Nat) {k j:Nat},js[k]? =some j→(i≤k∨k≤top)→(jZ js top col l b c i)[j]? =c[j]?
 |0,k,j,hk,_=>rfl
 |i+1,k,j,hk,h=>by
  have ih:=nG hnd i hk (by omega)
  unfold jZ
  split
  ·exact ih
  ·rename_i hrt
   split
   ·rename_i j2 hj2;have hne:j2≠j:=ap8 hnd hj2 hk (by omega)
    rw[List.getElem?_set,if_neg hne];exact ih
   ·exact ih
theorem ae5(hnd:js.Nodup):∀(i:Nat) {k j:Nat} {x:List Int},js[k]? =some j→k < i→top < k→c[j]? =some x→(jZ js top col l b c i)[j]? =some (bcR b col l x)
 |0,k,j,x,hk,h,_,_=>absurd h (Nat.not_lt_zero _)
 |i+1,k,j,x,hk,h,ht,hx=>by
  have ih:k≠i→(jZ js top col l b c i)[j]? =some (bcR b col l x):=fun hn=>ae5 hnd i hk (by omega) ht hx
  unfold jZ
  split
  ·exact ih (by omega)
  ·split
   ·rename_i j2 hj2;by_cases hki:k=i
    ·subst hki;rw[hk]at hj2;cases hj2;have ho:=nG (top:=top) (col:=col) (l:=l) (b:=b) (c:=c) hnd k hk (.inl (Nat.le_refl _));rw[hx]at ho;rw[List.getElem?_set,if_pos rfl,if_pos (uj ho),zq3,ho];rfl
    ·have hne:j2≠j:=ap8 hnd hj2 hk (fun e=>hki e.symm)
     rw[List.getElem?_set,if_neg hne];exact ih hki
   ·rename_i hj2;exact ih (fun e=>by subst e;rw[hk]at hj2;cases hj2)
theorem anV{M:List (List Int)}{jb n:Nat}(hjM:js.map (fun j=>c.getD j [])=M)(hlt:∀j∈js,j < c.length)(hnd:js.Nodup)(hjt:js[top]? =some jb)(hs:c[jb]? =some b)(hn:n=js.length):
  js.map (fun j=>(jZ js top col l b c n).getD j [])=bcM M top col l:=by
 subst hn;have htop:M.getD top []=b:=by
  rw[←hjM,zq3,List.getElem?_map,hjt]
  show c.getD jb []=b;rw[zq3,hs];rfl
 apply List.ext_getElem?
 intro p;unfold bcM;rw[List.getElem?_mapIdx,htop,←hjM,List.getElem?_map,List.getElem?_map]
 cases hjp:js[p]? with
 |none=>rfl
 |some j=>
  obtain⟨x,hx⟩:∃x,c[j]? =some x:=⟨_,zq2 (hlt j (zq4 hjp))⟩
  have e1:c.getD j []=x:=by rw[zq3,hx];rfl
  show some ((jZ js top col l b c js.length).getD j [])=some (if p≤top then c.getD j []else bcR b col l (c.getD j []))
  rw[e1,zq3]
  by_cases hp:p≤top
  ·rw[if_pos hp,nG hnd _ hjp (.inr hp),hx];rfl
  ·rw[if_neg hp,ae5 hnd _ hjp (uj hjp) (by omega) hx];rfl
end
structure BS where
 M:List (List Int)
 ps:List Nat
 la:Int
 odd:Bool
def nM(M:List (List Int))(top col:Nat):Int:=fi (nzZ col) (M.drop top) top
def apH(s:BS)(i:Nat):BS:=⟨sw s.M i s.ps.length,s.ps,s.la,if i=s.ps.length then s.odd else !s.odd⟩
def wI(s:BS)(col:Nat):BS:=⟨bcM s.M s.ps.length col s.la,s.ps++[col],(s.M.getD s.ps.length []).getD col 0,s.odd⟩
def yt(s:BS)(col:Nat):BS:=if nM s.M s.ps.length col < 0 then s else wI (apH s (nM s.M s.ps.length col).toNat) col
def ny:Nat→Nat→BS→BS
 |0,_,s=>s
 |n+1,col,s=>if s.ps.length < s.M.length then ny n (col+1) (yt s col)else s
theorem sZ{n col:Nat}{s:BS}(h:n=0∨¬s.ps.length < s.M.length):ny n col s=s:=by
 cases n with
 |zero=>rfl
 |succ n=>exact if_neg (h.resolve_left (by omega))
def kz(K:Nat):Nat→Nat
 |0=>K
 |n+1=>kz (2*K+1) n
theorem uZ:∀(n K:Nat),kz K (n+1)=2*kz K n+1
 |0,K=>rfl
 |n+1,K=>by
  show kz (2*K+1) (n+1)=2*kz (2*K+1) n+1;exact uZ n (2*K+1)
theorem aiH:∀(n K:Nat),K≤kz K n
 |0,K=>Nat.le_refl _
 |n+1,K=>by rw[uZ];have:=aiH n K;omega
structure BI(s:BS)(r w K:Nat):Prop where
 len:s.M.length=r
 row:∀x∈s.M,x.length=w∧∀z∈x,z.natAbs < WB ^ K
 la:s.la.natAbs < WB ^ K
theorem BI.mono{s:BS}{r w K L:Nat}(h:BI s r w K)(hK:K≤L):BI s r w L:=
 ⟨h.len,fun x hx=>⟨(h.row x hx).1,fun z hz=>Nat.lt_of_lt_of_le ((h.row x hx).2 z hz) (Nat.pow_le_pow_right aW hK)⟩,Nat.lt_of_lt_of_le h.la (Nat.pow_le_pow_right aW hK)⟩
theorem BI.swap{s:BS}{r w K i:Nat}(h:BI s r w K):BI (apH s i) r w K:=
 ⟨by show (sw s.M i _).length=r;rw[asX];exact h.len,fun x hx=>h.row x (asO hx),h.la⟩
theorem ahx{a b:Int}{K:Nat}(h1:a.natAbs < WB ^ K)(h2:b.natAbs < WB ^ K):(a - b).natAbs < WB ^ (K+1):=by
 have:=atM K;omega
theorem aqa{x y:Int}{K:Nat}(h:x.natAbs < WB ^ K):(gu x y).natAbs < WB ^ K:=by
 haveI:Bd x K:=⟨h⟩
 exact(Bd.gu x y K).h
theorem ard{a p f x l:Int}{K:Nat}(ha:a.natAbs < WB ^ K)(hp:p.natAbs < WB ^ K)(hf:f.natAbs < WB ^ K)(hx:x.natAbs < WB ^ K):(gu (a*p - f*x) l).natAbs < WB ^ (2*K+1):=by
 refine aqa (ahx ?_ ?_)
 ·rw[Int.natAbs_mul,show 2*K=K+K by omega];exact gZ ha hp
 ·rw[Int.natAbs_mul,show 2*K=K+K by omega];exact gZ hf hx
theorem atw{r b:List Int}{p f l:Int}{k K:Nat}(hr:∀z∈r,z.natAbs < WB ^ K)(hb:∀z∈b,z.natAbs < WB ^ K)(hp:p.natAbs < WB ^ K)(hf:f.natAbs < WB ^ K):∀z∈bcL r b p f l k,z.natAbs < WB ^ (2*K+1):=by
 intro z hz;unfold bcL at hz;rcases List.mem_append.1 hz with h|h
 ·obtain⟨i,hi⟩:=List.mem_iff_getElem?.1 h;rw[List.getElem?_zipWith]at hi
  cases h1:(r.take k)[i]? with
  |none=>rw[h1]at hi;cases hi
  |some a=>
   cases h2:(b.take k)[i]? with
   |none=>rw[h1,h2]at hi;cases hi
   |some x=>
    rw[h1,h2]at hi;cases hi;exact ard (hr a (List.mem_of_mem_take (zq4 h1))) hp hf (hb x (List.mem_of_mem_take (zq4 h2)))
 ·exact Nat.lt_of_lt_of_le (hr z (List.mem_of_mem_drop h)) (Nat.pow_le_pow_right aW (by omega))
theorem BI.clear{s:BS}{r w K col:Nat}(h:BI s r w K)(htop:s.ps.length < r)(hcol:col < w):BI (wI s col) r w (2*K+1):=by
 have ht:=h.row _ (aac (l:=s.M) (i:=s.ps.length) (d:=[]) (by rw[h.len];exact htop))
 have hp:((s.M.getD s.ps.length []).getD col 0).natAbs < WB ^ K:=ht.2 _ (aac (by omega))
 refine⟨by show (bcM _ _ _ _).length=r;unfold bcM;rw[List.length_mapIdx];exact h.len,fun x hx=>?_,Nat.lt_of_lt_of_le hp (Nat.pow_le_pow_right aW (by omega))⟩
 have hx:x∈bcM s.M s.ps.length col s.la:=hx;unfold bcM at hx;obtain⟨i,hi⟩:=List.mem_iff_getElem?.1 hx;rw[List.getElem?_mapIdx]at hi
 cases hy:s.M[i]? with
 |none=>rw[hy]at hi;cases hi
 |some y=>
  rw[hy]at hi;have hi:(if i≤s.ps.length then y else bcR (s.M.getD s.ps.length []) col s.la y)=x:=Option.some.inj hi
  obtain⟨yw,yK⟩:=h.row y (zq4 hy)
  split at hi
  ·subst hi;exact⟨yw,fun z hz=>Nat.lt_of_lt_of_le (yK z hz) (Nat.pow_le_pow_right aW (by omega))⟩
  ·subst hi;unfold bcR;exact⟨by rw[ain (by omega) (Nat.le_refl _)];exact yw,atw yK ht.2 hp (yK _ (aac (by omega)))⟩
theorem BI.step{s:BS}{r w K col:Nat}(h:BI s r w K)(htop:s.ps.length < r)(hcol:col < w):BI (yt s col) r w (2*K+1):=by
 unfold yt
 split
 ·exact h.mono (by omega)
 ·exact(h.swap (i:=_)).clear (col:=col) htop hcol
theorem BI.run{r w:Nat}:∀(n col:Nat) {s:BS} {K:Nat},BI s r w K→col+n≤w→BI (ny n col s) r w (kz K n)
 |0,col,s,K,h,_=>h
 |n+1,col,s,K,h,hw=>by
  by_cases hl:s.ps.length < s.M.length
  ·rw[show ny (n+1) col s=ny n (col+1) (yt s col)from if_pos hl]
   exact BI.run n (col+1) (h.step (by rw[←h.len];exact hl) (by omega)) (by omega)
  ·rw[sZ (.inr hl)];exact h.mono (aiH _ _)
def bS0(M:List (List Int)):BS:=⟨M,[],1,false⟩
def zJ(s:BS)(n:Nat):Int:=if s.ps.length < n then 0 else if s.odd then -s.la else s.la
def akS(M:List (List Int))(n:Nat):Int:=zJ (ny n 0 (bS0 M)) n
theorem ar7{M:List (List Int)}{n K:Nat}(h:BI (bS0 M) n n K):(akS M n).natAbs < WB ^ kz K n:=by
 have hR:=(BI.run (r:=n) (w:=n) n 0 h (by omega)).la
 unfold akS zJ
 split
 ·exact Nat.pow_pos aW
 ·split
  ·rw[Int.natAbs_neg];exact hR
  ·exact hR
example:akS [[1,2],[3,4]] 2= -2:=by decide+kernel
end
section
attribute [local irreducible] IntKind.wrap Go1 Reg WP aS aT bR bO aQ aC ak aj aX Sat
attribute [local irreducible] bT bX bY dw bZ qv dR mf
abbrev nC(js:List Nat)(c:List (List Int)):lW:=gI 42 27 2 zC js c
abbrev BwI:=List Nat×List (List Int)
abbrev bwC(cols:Nat)(la:Int)(odd:Bool)(pv:Atom):List Atom:=[rQ 91 0,.c (.val (.int .i64 (cols:Int))),pv,.c (.val (.bool (decide (la < 0)))),.c (.sat (bD la.natAbs)),.c (.val (.bool odd))]
abbrev bwL(js:List Nat)(c:List (List Int))(ps:List Nat):List (Nat×Ent):=[(91,.abs (nC js c)),(92,PivE ps)]
def bwE(s:BS)(cols:Nat):lW:=
 kP 81 (fun p:BwI=>p.1.Nodup∧(∀j∈p.1,j < p.2.length)∧p.1.map (fun j=>p.2.getD j [])=s.M) 467 (fun _=>bwC cols s.la s.odd (.own 92)) (fun p=>bwL p.1 p.2 s.ps)
theorem zu{P:Program}{C:Ctx}{st:St}{Q:Exit→St→Prop}{cd:Code}{s:BS}{cols:Nat}(hb:st.hp 81= .ent (.abs (bwE s cols)))(h1:st.hp 91= .free)(h2:st.hp 92= .free)(f1:C.fix 91=false)(f2:C.fix 92=false)
  (h:∀js c,js.Nodup→(∀j∈js,j < c.length)→js.map (fun j=>c.getD j [])=s.M→WP P C cd (wo st 81 467 (bwC cols s.la s.odd (.own 92)) (bwL js c s.ps)) Q):WP P C cd st Q:=
 WP.ajw (ι:=BwI) (b:=81) [91,92] hb (fun p=>rfl) (by intro i hi;simp at hi;rcases hi with rfl|rfl <;> assumption) (by intro i hi;simp at hi;rcases hi with rfl|rfl <;> assumption)
  (by intro p i hi;exact .inl (by simpa[Atom.ids]using hi)) (by intro p i e he;simp at he;rcases he with⟨rfl,rfl⟩|⟨rfl,rfl⟩ <;> rfl) (fun p hp=>h p.1 p.2 hp.1 hp.2.1 hp.2.2)
theorem kD{C:Ctx}{st:St}{s:BS}{cols:Nat}{cells0:List Atom}(js:List Nat)(c:List (List Int))(ρ:List (Nat×Option Nat))(os:List Nat)(hnd:js.Nodup)(hlt:∀j∈js,j < c.length)(hM:js.map (fun j=>c.getD j [])=s.M)(hb:st.hp 81= .ent (.box 467 cells0))
  (hc:oD ρ cells0 (bwC cols s.la s.odd (.own 92))) (hR:ab1 st ρ (bwL js c s.ps))
  (hos:((bwL js c s.ps).all fun q=>match SX.src ρ q.1 with|some o=>iV os o|none=>true)=true) (hbo:iV os 81=false) (hdi:((bwL js c s.ps).all fun q=>(bwL js c s.ps).all fun q'=>Nat.beq q.1 q'.1||!(eqO (SX.src ρ q.1) (SX.src ρ q'.1)))=true) (hfb:lk ρ 81=none:=by rfl):
  St.le C st (rH st 81 (bwE s cols) os):=
 St.aeU (ι:=BwI) (b:=81) (js,c) ρ os ⟨hnd,hlt,hM⟩ hb hc hR hos hbo hdi hfb
def zrK(va:Nat→Nat→Int)(i k:Nat):List Int:=(List.range k).map (va i)
def zgM(va:Nat→Nat→Int)(c r:Nat):List (List Int):=(List.range r).map fun i=>zrK va i c
theorem am7{va:Nat→Nat→Int}{i k:Nat}:zrK va i (k+1)=zrK va i k++[va i k]:=by unfold zrK;rw[List.range_succ,List.map_append];rfl
theorem ahW{va:Nat→Nat→Int}{i k:Nat}:(zrK va i k).length=k:=by simp[zrK]
theorem ajv{va:Nat→Nat→Int}{c r:Nat}:(zgM va c r).length=r:=by simp[zgM]
theorem aqD{va:Nat→Nat→Int}{c r:Nat}:(List.range r).map (fun j=>(zgM va c r).getD j [])=zgM va c r:=by
 unfold zgM;refine List.map_congr_left fun j hj=>?_
 rw[zq3,List.getElem?_map,List.getElem?_range (List.mem_range.1 hj)];rfl
theorem ags{va:Nat→Nat→Int}{c i:Nat}:nC (List.range i++[(zgM va c i).length]) (zgM va c i++[zrK va i c])=nC (List.range (i+1)) (zgM va c (i+1)):=by
 rw[ajv,List.range_succ];unfold zgM;rw[List.range_succ,List.map_append];rfl
theorem agu(r c:Nat)(x:Rep)(va:Nat→Nat→Int)(hr:r≤100)(hc:c≤100)
  (hA:∀i k,i < r→k < c→ah prog 375 [.agg (y8 r c x),.v (.int .i64 (i:Int)),.v (.int .i64 (k:Int))] (.agg (zN (va i k)))):
  aj prog 539 [.agg (y8 r c x)] [] ⟨.ptr 81 0,[(81,.ent (.abs (bwE (bS0 (zgM va c r)) c)))]⟩:=by
 have n81:Named 11 81:=⟨⟩;have o1:=akH;refine aj.fnA func539 results539 ntmps539 rfl rfl rfl rfl rfl rfl rfl rfl (fun w0 T B E0 hB=>?_)
 refine SX.goM ?_;refine W.loop (fun i=>i≤r) (fun i=>[(1,.ptr 1 0),(3,.ptr 81 0),(13,.v (.int .i64 (r:Int))),(14,.v (.int .i64 (i:Int)))]) (fun i=>[(1,.box 281 (y8 r c x)),(81,.box 467 (bwC c 1 false (.c (.val (.slice none 0 0))))),(91,.abs (nC (List.range i) (zgM va c i)))]) (fun i=>r - i) 0 (Nat.zero_le _) (fun i hi=>?_)
  (by
   refine SX.St.aY [(91,none)] (by intro b h;cases h) ?_ ?_ rfl
   ·repeat(first|exact trivial|refine⟨⟨_,rfl,SX.aG.same rfl⟩,?_⟩)
   ·exact⟨SX.ay.same rfl rfl,SX.ay.mh rfl rfl ⟨aD.aue rfl,aD.same rfl,aD.same rfl,aD.same rfl,aD.same rfl,aD.same rfl,trivial⟩,SX.ay.aqw rfl,trivial⟩)
 by_cases h:i < r
 ·refine SX.goM ?_;refine W.loop (fun k=>k≤c) (fun k=>[(1,.ptr 1 0),(3,.ptr 81 0),(4,.v (.int .i64 (i:Int))),(5,.own 100),(13,.v (.int .i64 (r:Int))),(14,.v (.int .i64 (i:Int))),(18,.v (.int .i64 (c:Int))),(19,.v (.int .i64 (k:Int)))]) (fun k=>[(1,.box 281 (y8 r c x)),(81,.box 467 (bwC c 1 false (.c (.val (.slice none 0 0))))),(91,.abs (nC (List.range i) (zgM va c i))),(100,.row 27 2 k ((zrK va i k).flatMap zC))]) (fun k=>c - k) 0 (Nat.zero_le _) (fun k hk=>?_)
   (by
    refine SX.St.aY [(100,none)] (by intro b h;cases h) ?_ ?_ rfl
    ·repeat(first|exact trivial|refine⟨⟨_,rfl,SX.aG.same rfl⟩,?_⟩|refine⟨⟨_,rfl,SX.aG.nil rfl⟩,?_⟩)
    ·exact⟨SX.ay.same rfl rfl,SX.ay.same rfl rfl,SX.ay.same rfl rfl,SX.ay.bV rfl,trivial⟩)
  by_cases h2:k < c
  ·have hf:=hA i k h h2;refine SX.goM ?_;refine W.next (k+1) h2 (by omega) (by
    have e2:(zrK va i k).flatMap zC++zC (va i k)=(zrK va i (k+1)).flatMap zC:=by rw[am7,List.flatMap_append];simp
    refine SX.St.aY [(100,some 28)] (by intro b h;cases h) ?_ ?_ rfl
    ·repeat(first|exact trivial|refine⟨⟨_,rfl,SX.aG.same rfl⟩,?_⟩|refine⟨⟨_,rfl,SX.aG.own rfl⟩,?_⟩)
    ·exact⟨SX.ay.same rfl rfl,SX.ay.same rfl rfl,SX.ay.same rfl rfl,SX.ay.row rfl rfl rfl e2,trivial⟩)
  ·obtain rfl:k=c:=by omega
   have hlen:k=(zrK va i k).length:=ahW.symm;have hjs:(List.range i).length=i:=List.length_range;refine SX.goM ?_;refine SX.Go1.litH (l:=zrK va i k) (enc:=zC) rfl rfl rfl rfl hlen rfl ?_;refine SX.goM ?_;refine W.next (i+1) h (by omega) (by
    refine SX.St.aY [(91,some 37)] (by intro b h;cases h) ?_ ?_ rfl
    ·repeat(first|exact trivial|refine⟨⟨_,rfl,SX.aG.same rfl⟩,?_⟩)
    ·exact⟨SX.ay.same rfl rfl,SX.ay.mh rfl rfl ⟨aD.rel rfl,aD.same rfl,aD.same rfl,aD.same rfl,aD.same rfl,aD.same rfl,trivial⟩,SX.ay.abs rfl rfl ags,trivial⟩)
 ·obtain rfl:i=r:=by omega
  refine SX.goM ?_;refine aQ.le (kD (s:=bS0 (zgM va c i)) (List.range i) (zgM va c i) [(92,none)] [91] List.nodup_range (fun j hj=>by simpa[zgM]using hj) aqD rfl ⟨aD.same rfl,aD.same rfl,aD.nil rfl,aD.same rfl,aD.same rfl,aD.same rfl,trivial⟩ ⟨SX.ay.same rfl rfl,SX.ay.bV rfl,trivial⟩ rfl rfl rfl) ?_
  exact gY (xs:=[.one (.ptr 81 0)]) ⟨ak.tmp rfl,trivial⟩ ⟨rfl,trivial⟩
theorem aqs{α:Type}(l:List α)(i:Nat):sw l i i=l:=by
 unfold sw;cases h:l[i]? with
 |none=>rfl
 |some a=>
  show (l.set i a).set i a=l;rw[List.set_set];apply List.ext_getElem?
  intro j;rw[List.getElem?_set]
  by_cases hj:i=j
  ·subst hj;rw[if_pos rfl,if_pos (uj h),h]
  ·rw[if_neg hj]
theorem afj{z:Int}:aV z=0↔z=0:=by
 unfold aV
 split
 ·rename_i h;exact⟨fun _=>h,fun _=>rfl⟩
 ·rename_i h
  split
  ·exact⟨fun h2=>by omega,fun h2=>absurd h2 h⟩
  ·exact⟨fun h2=>by omega,fun h2=>absurd h2 h⟩
def jG(s:BS)(col:Nat):BS:=if nM s.M s.ps.length col < 0 then s else apH s (nM s.M s.ps.length col).toNat
theorem alC(s:BS)(cols col w K r:Nat)(hI:BI s r w K)(hcol:col < w)(hK:K≤1000000000)(hr:r≤100)(htop:s.ps.length < r):
  aj prog 577 [.ptr 81 0,.v (.int .i64 (col:Int))] [(81,.abs (bwE s cols))] ⟨.v (.bool (decide (0≤nM s.M s.ps.length col))),[(81,.ent (.abs (bwE (jG s col) cols)))]⟩:=by
 obtain⟨M,ps,la,odd⟩:=s;have hl:M.length=r:=hI.len;refine aj.fnA func577 results577 ntmps577 rfl rfl rfl rfl rfl rfl rfl rfl (fun w0 T B E0 hB=>?_)
 refine zu rfl rfl rfl rfl rfl (fun js c hnd hlt hjM=>?_)
 have hjM:js.map (fun j=>c.getD j [])=M:=hjM
 have hlen:js.length=M.length:=by rw[←hjM,zq5]
 dsimp only at htop ⊢
 refine SX.goM ?_;refine W.loop (fun i=>ps.length≤i∧i≤M.length∧fi (nzZ col) (M.drop i) i=nM M ps.length col) (fun i=>[(0,.ptr 81 0),(1,.v (.int .i64 (col:Int))),(5,.v (.int .i64 (ps.length:Int))),(6,.v (.int .i64 (i:Int)))]) (fun i=>[(81,.box 467 (bwC cols la odd (.own 92))),(91,.abs (nC js c)),(92,PivE ps)]) (fun i=>M.length - i) ps.length ⟨Nat.le_refl _,by omega,rfl⟩ (fun i ⟨hi0,hi,he⟩=>?_)
  (by
   refine SX.St.aY [] (by intro b h;exact SX.dB h rfl) ?_ ?_ rfl
   ·repeat(first|exact trivial|refine⟨⟨_,rfl,SX.aG.same rfl⟩,?_⟩)
   ·exact⟨SX.ay.same rfl rfl,SX.ay.same rfl rfl,SX.ay.same rfl rfl,trivial⟩)
 by_cases h:i < M.length
 ·obtain⟨ji,hji⟩:∃j,js[i]? =some j:=⟨_,zq2 (show i < js.length by omega)⟩
  obtain⟨jt,hjt⟩:∃j,js[ps.length]? =some j:=⟨_,zq2 (show ps.length < js.length by omega)⟩
  have lji:=hlt ji (zq4 hji);have ljt:=hlt jt (zq4 hjt);obtain⟨row,hrow⟩:∃x,c[ji]? =some x:=⟨_,zq2 lji⟩
  have hgd:c.getD ji []=row:=by rw[zq3,hrow];rfl
  have hMi:M[i]? =some row:=by rw[←hjM,List.getElem?_map,hji,←hgd];rfl
  obtain⟨hw,hwK⟩:=hI.row row (zq4 hMi);obtain⟨v,hv⟩:∃v,row[col]? =some v:=⟨_,zq2 (show col < row.length by omega)⟩
  have hvd:row.getD col 0=v:=by rw[zq3,hv];rfl
  haveI i1:Bd v K:=⟨hwK v (zq4 hv)⟩
  rw[rD hMi]at he;by_cases h0:v=0
  ·have hs:aV v=0:=afj.2 h0;have hn:nzZ col row=false:=by unfold nzZ;rw[hvd,h0];rfl
   rw[hn,if_neg (by decide)]at he
   refine SX.goM ?_;refine W.next (i+1) ⟨by omega,h,he⟩ (by omega) (by
    refine SX.St.aY [] (by intro b h;exact SX.dB h rfl) ?_ ?_ rfl
    ·repeat(first|exact trivial|refine⟨⟨_,rfl,SX.aG.same rfl⟩,?_⟩)
    ·exact⟨SX.ay.same rfl rfl,SX.ay.same rfl rfl,SX.ay.same rfl rfl,trivial⟩)
  ·have hs:¬aV v=0:=fun h2=>h0 (afj.1 h2)
   have hn:nzZ col row=true:=by unfold nzZ;rw[hvd];exact decide_eq_true h0
   rw[hn,if_pos rfl]at he;have e1:decide (0≤nM M ps.length col)=true:=decide_eq_true (by omega)
   have e2:jG ⟨M,ps,la,odd⟩ col=⟨sw M i ps.length,ps,la,if i=ps.length then odd else !odd⟩:=by
    unfold jG
    dsimp only
    rw[if_neg (by omega),←he];rfl
   rw[e1,e2];by_cases ht:i=ps.length
   ·subst ht;rw[aqs,if_pos rfl];refine SX.goM ?_;refine aQ.le (kD (s:=⟨M,ps,la,odd⟩) js c [] [91,92] hnd hlt hjM rfl ⟨aD.same rfl,aD.same rfl,aD.same rfl,aD.same rfl,aD.same rfl,aD.same rfl,trivial⟩ ⟨SX.ay.same rfl rfl,SX.ay.same rfl rfl,trivial⟩ rfl rfl rfl) ?_;exact gY (xs:=[.one (.c (.val (.bool true)))]) ⟨ak.tmp rfl,trivial⟩ ⟨rfl,trivial⟩
   ·rw[if_neg ht];have l1:(js.set i jt).length=js.length:=List.length_set;have hsw:((js.set i jt).set ps.length ji).map (fun j=>c.getD j [])=sw M i ps.length:=by rw[←hjM];exact(atY _ hji hjt).symm
    refine SX.goM ?_;refine aQ.le (kD (s:=⟨sw M i ps.length,ps,la,!odd⟩) ((js.set i jt).set ps.length ji) c [] [91,92] (anm hnd hji hjt) (fun j hj=>?_) hsw rfl ⟨aD.same rfl,aD.same rfl,aD.same rfl,aD.same rfl,aD.same rfl,aD.same rfl,trivial⟩ ⟨SX.ay.same rfl rfl,SX.ay.same rfl rfl,trivial⟩ rfl rfl rfl) ?_
    ·rcases List.mem_or_eq_of_mem_set hj with hj|hj
     ·rcases List.mem_or_eq_of_mem_set hj with hj|hj
      ·exact hlt j hj
      ·rw[hj];exact ljt
     ·rw[hj];exact lji
    ·exact gY (xs:=[.one (.c (.val (.bool true)))]) ⟨ak.tmp rfl,trivial⟩ ⟨rfl,trivial⟩
 ·obtain rfl:i=M.length:=by omega
  rw[List.drop_length]at he;have e0:nM M ps.length col= -1:=he.symm;have e1:decide (0≤nM M ps.length col)=false:=decide_eq_false (by omega)
  have e2:jG ⟨M,ps,la,odd⟩ col=⟨M,ps,la,odd⟩:=by
   unfold jG
   dsimp only
   rw[if_pos (by omega)]
  rw[e1,e2];refine SX.goM ?_;refine aQ.le (kD (s:=⟨M,ps,la,odd⟩) js c [] [91,92] hnd hlt hjM rfl ⟨aD.same rfl,aD.same rfl,aD.same rfl,aD.same rfl,aD.same rfl,aD.same rfl,trivial⟩ ⟨SX.ay.same rfl rfl,SX.ay.same rfl rfl,trivial⟩ rfl rfl rfl) ?_;exact gY (xs:=[.one (.c (.val (.bool false)))]) ⟨ak.tmp rfl,trivial⟩ ⟨rfl,trivial⟩
end
section
theorem aoa{P:Program}{C:Ctx}{ops:List Oper}{rest:List Oper}{st:St}{acc:_}{K:_}{d:Tmp}{ty:TypeId}{f:FuncId}{xs:Array Operand}{tys:Array TypeId}{args:List AV}{b:Nat}{A:lW}{e:Int}(hc:aj P f args [] ⟨.tup [.one (.ptr b 0),eNo e],[(b,.ent (.abs A))]⟩)(ha:evs st xs.toList=some args)(hd:aB (some d) C.nt=true)(hf:st.hp b= .free)
  (next:Reg P C ops rest (st.app (some d) ⟨.tup [.one (.ptr b 0),eNo e],[(b,.ent (.abs A))]⟩) (([b],[b])::acc) K):Go1 P C ops (some d) (.call ⟨.value (.func f),xs,tys⟩) ty rest st acc K:=
 Go1.abH (cap:=[]) (pre:=[]) (out:=⟨.tup [.one (.ptr b 0),eNo e],[(b,.ent (.abs A))]⟩) (fp:=[b]) hd rfl ha (by simpa using hc) (fun b e hb=>by cases hb) (fun b s hb=>by simp at hb;rw[hb.1];exact .inr hf) (fun b s hb=>by simp at hb;rw[hb.2];rfl) (fun b s hb=>by simp at hb;simp[hb.1])
  (fun i hi=>by
   left
   rcases hi with hi|⟨b,e,hb,hi⟩
   ·have:i=b:=by simpa[AV.ids,AV0.ids,Atom.ids]using hi
    subst this;exact⟨_,by simp;rfl⟩
   ·simp at hb;obtain⟨rfl,rfl⟩:=hb;cases hi) next
theorem aon{P:Program}{C:Ctx}{ops:List Oper}{rest:List Oper}{st:St}{acc:_}{K:_}{d:Tmp}{ty:TypeId}{f:FuncId}{xs:Array Operand}{tys:Array TypeId}{args:List AV}{b:Nat}{A:lW}(hc:aj P f args [] ⟨.ptr b 0,[(b,.ent (.abs A))]⟩)(ha:evs st xs.toList=some args)(hd:aB (some d) C.nt=true)(hf:st.hp b= .free)
  (next:Reg P C ops rest (st.app (some d) ⟨.ptr b 0,[(b,.ent (.abs A))]⟩) (([b],[b])::acc) K):Go1 P C ops (some d) (.call ⟨.value (.func f),xs,tys⟩) ty rest st acc K:=
 Go1.abH (cap:=[]) (pre:=[]) (out:=⟨.ptr b 0,[(b,.ent (.abs A))]⟩) (fp:=[b]) hd rfl ha (by simpa using hc) (fun b e hb=>by cases hb) (fun b s hb=>by simp at hb;rw[hb.1];exact .inr hf) (fun b s hb=>by simp at hb;rw[hb.2];rfl) (fun b s hb=>by simp at hb;simp[hb.1])
  (fun i hi=>by
   left
   rcases hi with hi|⟨b,e,hb,hi⟩
   ·have:i=b:=by simpa[AV.ids,AV0.ids,Atom.ids]using hi
    subst this;exact⟨_,by simp;rfl⟩
   ·simp at hb;obtain⟨rfl,rfl⟩:=hb;cases hi) next
attribute [local irreducible] IntKind.wrap Go1 Reg WP aS aT bR bO aQ aC ak aj aX Sat
attribute [local irreducible] bT bX bY dw bZ qv dR mf
theorem agw(s:BS)(cols col w K r:Nat)(hI:BI s r w K)(hcol:col < w)(hK:K≤1000000)(hr:r≤100)(hw:w≤100)(htop:s.ps.length < r):
  aj prog 578 [.ptr 81 0,.v (.int .i64 (col:Int))] [(81,.abs (bwE s cols))] ⟨.tup [],[(81,.ent (.abs (bwE (wI s col) cols)))]⟩:=by
 obtain⟨M,ps,la,odd⟩:=s;have hl:M.length=r:=hI.len
 haveI iL:Bd la K:=⟨hI.la⟩
 refine aj.fnA func578 results578 ntmps578 rfl rfl rfl rfl rfl rfl rfl rfl (fun w0 T B E0 hB=>?_)
 refine zu rfl rfl rfl rfl rfl (fun js c hnd hlt hjM=>?_)
 have hjM:js.map (fun j=>c.getD j [])=M:=hjM
 have hlen:js.length=M.length:=by rw[←hjM,zq5]
 have htop:ps.length < r:=htop
 dsimp only
 obtain⟨jb,hjb⟩:∃j,js[ps.length]? =some j:=⟨_,zq2 (show ps.length < js.length by omega)⟩
 have ljb:=hlt jb (zq4 hjb);obtain⟨b,hb⟩:∃x,c[jb]? =some x:=⟨_,zq2 ljb⟩
 have hgd:c.getD jb []=b:=by rw[zq3,hb];rfl
 have hMb:M[ps.length]? =some b:=by rw[←hjM,List.getElem?_map,hjb,←hgd];rfl
 obtain⟨hbw,hbK⟩:=hI.row b (zq4 hMb);obtain⟨p,hp⟩:∃v,b[col]? =some v:=⟨_,zq2 (show col < b.length by omega)⟩
 have hpd:b.getD col 0=p:=by rw[zq3,hp];rfl
 haveI iP:Bd p K:=⟨hbK p (zq4 hp)⟩
 refine SX.goM ?_;refine W.loop (fun i=>ps.length+1≤i∧i≤M.length) (fun i=>[(0,.ptr 81 0),(1,.v (.int .i64 (col:Int))),(4,.v (.int .i64 (ps.length:Int))),(5,.it (.one (rQ 91 (jb+1)))),(6,.v (.int .i64 (i:Int)))]) (fun i=>[(81,.box 467 (bwC cols la odd (.own 92))),(91,.abs (nC js (jZ js ps.length col la b c i))),(92,PivE ps)]) (fun i=>M.length - i) (ps.length+1) ⟨Nat.le_refl _,by omega⟩ (fun i ⟨hi0,hi⟩=>?_)
  (by
   rw[aaU _ (Nat.le_refl _)];refine SX.St.aY [] (by intro b h;exact SX.dB h rfl) ?_ ?_ rfl
   ·repeat(first|exact trivial|refine⟨⟨_,rfl,SX.aG.same rfl⟩,?_⟩)
   ·exact⟨SX.ay.same rfl rfl,SX.ay.same rfl rfl,SX.ay.same rfl rfl,trivial⟩)
 by_cases h:i < M.length
 ·obtain⟨ji,hji⟩:∃j,js[i]? =some j:=⟨_,zq2 (show i < js.length by omega)⟩
  have lji:=hlt ji (zq4 hji);have hne:ji≠jb:=ap8 hnd hji hjb (by omega)
  obtain⟨x,hx⟩:∃x,c[ji]? =some x:=⟨_,zq2 lji⟩
  have hxd:c.getD ji []=x:=by rw[zq3,hx];rfl
  have hMi:M[i]? =some x:=by rw[←hjM,List.getElem?_map,hji,←hxd];rfl
  obtain⟨hxw,hxK⟩:=hI.row x (zq4 hMi);obtain⟨f,hf⟩:∃v,x[col]? =some v:=⟨_,zq2 (show col < x.length by omega)⟩
  have hfd:x.getD col 0=f:=by rw[zq3,hf];rfl
  haveI iF:Bd f K:=⟨hxK f (zq4 hf)⟩
  have hcx:(jZ js ps.length col la b c i)[ji]? =some x:=by rw[nG hnd i hji (.inl (Nat.le_refl _))];exact hx
  have hcb:(jZ js ps.length col la b c i)[jb]? =some b:=by rw[nG hnd i hjb (.inr (Nat.le_refl _))];exact hb
  have hnx:jZ js ps.length col la b c (i+1)=(jZ js ps.length col la b c i).set ji (bcL x b p f la x.length):=by
   conv=>lhs;unfold jZ;rw[if_neg (by omega),hji]
   dsimp only
   rw[zq3,hcx]
   show _=_;unfold bcR;rw[hpd];show (jZ js ps.length col la b c i).set ji (bcL x b p (x.getD col 0) la x.length)=_;rw[hfd]
  have hci:(jZ js ps.length col la b c i).length=c.length:=pY i;generalize jZ js ps.length col la b c i=ci at*;refine SX.goM ?_;refine W.loop (fun k=>k≤x.length) (fun k=>[(0,.ptr 81 0),(1,.v (.int .i64 (col:Int))),(4,.v (.int .i64 (ps.length:Int))),(5,.it (.one (rQ 91 (jb+1)))),(6,.v (.int .i64 (i:Int))),(7,.it (.one (rQ 91 (ji+1)))),(8,.ptr 8 0),(46,.v (.int .i64 (x.length:Int))),(47,.v (.int .i64 (k:Int)))]) (fun k=>[(81,.box 467 (bwC cols la odd (.own 92))),(91,.abs (nC js (ci.set ji (bcL x b p f la k)))),(92,PivE ps),(8,.box 27 (zN f))]) (fun k=>x.length - k) 0 (Nat.zero_le _) (fun k hk=>?_)
   (by
    have e:nC js ci=nC js (ci.set ji (bcL x b p f la 0)):=by
     rw[amH]
     congr 1
     apply List.ext_getElem?
     intro n;rw[List.getElem?_set]
     by_cases hn:ji=n
     ·subst hn;rw[if_pos rfl,if_pos (by omega),hcx]
     ·rw[if_neg hn]
    refine SX.St.aY [] (by intro b h;exact SX.dB h rfl) ?_ ?_ rfl
    ·repeat(first|exact trivial|refine⟨⟨_,rfl,SX.aG.same rfl⟩,?_⟩)
    ·exact⟨SX.ay.same rfl rfl,SX.ay.eq rfl (congrArg Ent.abs e) rfl,SX.ay.same rfl rfl,SX.ay.same rfl rfl,trivial⟩)
  have lci:ji < ci.length:=by omega
  by_cases h2:k < x.length
  ·obtain⟨a,ha⟩:∃a,x[k]? =some a:=⟨_,zq2 h2⟩
   obtain⟨y,hy⟩:∃y,b[k]? =some y:=⟨_,zq2 (show k < b.length by omega)⟩
   haveI iA:Bd a K:=⟨hxK a (zq4 ha)⟩
   haveI iY:Bd y K:=⟨hbK y (zq4 hy)⟩
   have ga:=ar1 (p:=p) (f:=f) (l:=la) (show x.length=b.length by omega) ha
   have gl:=ain (p:=p) (f:=f) (l:=la) (show x.length=b.length by omega) hk
   have c1:(ci.set ji (bcL x b p f la k))[ji]? =some (bcL x b p f la k):=by rw[List.getElem?_set,if_pos rfl,if_pos lci]
   have c2:(ci.set ji (bcL x b p f la k))[jb]? =some b:=by rw[List.getElem?_set,if_neg hne];exact hcb
   have e1:nC js ((ci.set ji (bcL x b p f la k)).set ji ((bcL x b p f la k).set k (gu (a*p - f*y) la)))=nC js (ci.set ji (bcL x b p f la (k+1))):=by rw[aqr (by omega) ha hy,List.set_set]
   refine SX.goM ?_;refine W.next (k+1) h2 (by omega) (by
    refine SX.St.aY [] (by intro b h;exact SX.dB h rfl) ?_ ?_ rfl
    ·repeat(first|exact trivial|refine⟨⟨_,rfl,SX.aG.same rfl⟩,?_⟩)
    ·exact⟨SX.ay.same rfl rfl,SX.ay.eq rfl (congrArg Ent.abs e1) rfl,SX.ay.same rfl rfl,SX.ay.same rfl rfl,trivial⟩)
  ·have hkx:k=x.length:=by omega
   subst hkx;refine SX.goM ?_;refine W.next (i+1) ⟨by omega,h⟩ (by omega) (by
    refine SX.St.aY [] (by intro b h;exact SX.dB h rfl) ?_ ?_ rfl
    ·repeat(first|exact trivial|refine⟨⟨_,rfl,SX.aG.same rfl⟩,?_⟩)
    ·exact⟨SX.ay.same rfl rfl,SX.ay.eq rfl (congrArg (fun q=>Ent.abs (nC js q)) hnx.symm) rfl,SX.ay.same rfl rfl,trivial⟩)
 ·obtain rfl:i=M.length:=by omega
  have hcb:(jZ js ps.length col la b c M.length)[jb]? =some b:=by rw[nG hnd _ hjb (.inr (Nat.le_refl _))];exact hb
  have hlaw:=anV (l:=la) (col:=col) hjM hlt hnd hjb hb hlen.symm;have e2:wI ⟨M,ps,la,odd⟩ col=⟨bcM M ps.length col la,ps++[col],p,odd⟩:=by
   have hg:M.getD ps.length []=b:=by rw[zq3,hMb];rfl
   unfold wI
   dsimp only
   rw[hg,hpd]
  have hci:∀j∈js,j < (jZ js ps.length col la b c M.length).length:=fun j hj=>by rw[pY];exact hlt j hj
  rw[e2];generalize jZ js ps.length col la b c M.length=ci at*;refine SX.goM ?_;refine aQ.le (kD (s:=⟨bcM M ps.length col la,ps++[col],p,odd⟩) js ci [(92,some 93)] [91,93] hnd hci hlaw rfl ⟨aD.same rfl,aD.same rfl,aD.own rfl,aD.same rfl,aD.same rfl,aD.same rfl,trivial⟩ ⟨SX.ay.same rfl rfl,SX.ay.row rfl rfl (by rw[List.length_append];rfl) (by rw[List.flatMap_append];rfl),trivial⟩ rfl rfl rfl) ?_
  exact gY (xs:=[]) trivial ⟨rfl,trivial⟩
theorem afm{s:BS}{col:Nat}(h:¬nM s.M s.ps.length col < 0):yt s col=wI (jG s col) col:=by
 unfold yt jG;rw[if_neg h,if_neg h]
theorem alT(s0:BS)(cols w K r:Nat)(hI:BI s0 r w K)(hcol:cols≤w)(hr:r≤100)(hw:w≤100)(hkz:kz K cols≤1000000):
  aj prog 540 [.ptr 81 0] [(81,.abs (bwE s0 cols))] ⟨.tup [],[(81,.ent (.abs (bwE (ny cols 0 s0) cols)))]⟩:=by
 refine aj.fnA func540 results540 ntmps540 rfl rfl rfl rfl rfl rfl rfl rfl (fun w0 T B E0 hB=>?_)
 refine SX.goM ?_;refine W.mO (fun(col:Nat) (s:BS)=>col≤cols∧ny (cols - col) col s=ny cols 0 s0∧BI s r w (kz K col)) (fun col s=>[(0,.ptr 81 0),(2,.v (.int .i64 (col:Int)))]) (fun col s=>[(81,.abs (bwE s cols))]) (fun col s=>cols - col) 0 s0 ⟨Nat.zero_le _,rfl,hI⟩ (fun col s hq=>?_)
  (by
   refine SX.St.aY [] (by intro b h;exact SX.dB h rfl) ?_ ?_ rfl
   ·repeat(first|exact trivial|refine⟨⟨_,rfl,SX.aG.same rfl⟩,?_⟩)
   ·exact⟨SX.ay.same rfl rfl,trivial⟩)
 obtain⟨hq1,hq2,hq3⟩:=hq;have hlM:=hq3.len;have hkm:kz K col≤1000000:=by
  have hmono:∀n m,kz K n≤kz K (n+m):=fun n m=>by
   induction m with
   |zero=>exact Nat.le_refl _
   |succ m ih=>rw[←Nat.add_assoc,uZ];omega
  have:=hmono col (cols - col);rw[show col+(cols - col)=cols by omega]at this
  omega
 refine zu rfl rfl rfl rfl rfl (fun js c hnd hlt hjM=>?_)
 have hlen:js.length=s.M.length:=by rw[←hjM,zq5]
 by_cases h1:col < cols
 ·by_cases h2:s.ps.length < s.M.length
  ·have hh:=Hide.mk h2;clear h2;refine SX.goM ?_;refine SX.WP.weaken (kD (s:=s) js c [] [91,92] hnd hlt hjM rfl ⟨aD.same rfl,aD.same rfl,aD.same rfl,aD.same rfl,aD.same rfl,aD.same rfl,trivial⟩ ⟨SX.ay.same rfl rfl,SX.ay.same rfl rfl,trivial⟩ rfl rfl rfl) ?_;have h2:=hh.out;have cF:=alC s cols col w (kz K col) r hq3 (by omega) (by omega) hr (by omega)
   have hn:∃n,cols - col=n+1:=⟨cols - col - 1,by omega⟩
   by_cases h3:nM s.M s.ps.length col < 0
   ·rw[decide_eq_false (show¬0≤nM s.M s.ps.length col by omega),show jG s col=s from if_pos h3]at cF
    refine SX.goM ?_;refine W.lX (col+1) s ⟨h1,?_,by rw[uZ];exact hq3.mono (by omega)⟩ (by omega) (by
     refine SX.St.aY [] (by intro b h;exact SX.dB h rfl) ?_ ?_ rfl
     ·repeat(first|exact trivial|refine⟨⟨_,rfl,SX.aG.same rfl⟩,?_⟩)
     ·exact⟨SX.ay.same rfl rfl,trivial⟩)
    rw[←hq2];obtain⟨n,hn⟩:=hn;rw[hn,show cols - (col+1)=n by omega]
    conv=>rhs;unfold ny;rw[if_pos h2]
    rw[show yt s col=s from if_pos h3]
   ·rw[decide_eq_true (show 0≤nM s.M s.ps.length col by omega)]at cF
    have hFI:BI (jG s col) r w (kz K col):=by
     unfold jG;rw[if_neg h3];exact hq3.swap
    have hFp:(jG s col).ps=s.ps:=by unfold jG;rw[if_neg h3];rfl
    have cC:=agw (jG s col) cols col w (kz K col) r hFI (by omega) (by omega) hr hw (by rw[hFp];omega)
    rw[←afm h3]at cC;refine SX.goM ?_;refine W.lX (col+1) (yt s col) ⟨h1,?_,by rw[uZ];exact hq3.step (by omega) (by omega)⟩ (by omega) (by
     refine SX.St.aY [] (by intro b h;exact SX.dB h rfl) ?_ ?_ rfl
     ·repeat(first|exact trivial|refine⟨⟨_,rfl,SX.aG.same rfl⟩,?_⟩)
     ·exact⟨SX.ay.same rfl rfl,trivial⟩)
    rw[←hq2];obtain⟨n,hn⟩:=hn;rw[hn,show cols - (col+1)=n by omega]
    conv=>rhs;unfold ny;rw[if_pos h2]
  ·refine SX.goM ?_;refine aQ.le (kD (s:=s) js c [] [91,92] hnd hlt hjM rfl ⟨aD.same rfl,aD.same rfl,aD.same rfl,aD.same rfl,aD.same rfl,aD.same rfl,trivial⟩ ⟨SX.ay.same rfl rfl,SX.ay.same rfl rfl,trivial⟩ rfl rfl rfl) ?_;rw[←hq2,sZ (.inr h2)];exact gY (xs:=[]) trivial ⟨rfl,trivial⟩
 ·refine SX.goM ?_;refine aQ.le (kD (s:=s) js c [] [91,92] hnd hlt hjM rfl ⟨aD.same rfl,aD.same rfl,aD.same rfl,aD.same rfl,aD.same rfl,aD.same rfl,trivial⟩ ⟨SX.ay.same rfl rfl,SX.ay.same rfl rfl,trivial⟩ rfl rfl rfl) ?_;rw[←hq2,sZ (.inl (by omega))]
  exact gY (xs:=[]) trivial ⟨rfl,trivial⟩
theorem ah6{va:Nat→Nat→Int}{r c K:Nat}(h:∀i k,i < r→k < c→(va i k).natAbs < WB ^ K)(hK:1≤K):BI (bS0 (zgM va c r)) r c K:=by
 refine⟨ajv,fun x hx=>?_,?_⟩
 ·obtain⟨i,hi,rfl⟩:=List.mem_map.1 hx;refine⟨ahW,fun z hz=>?_⟩
  obtain⟨k,hk,rfl⟩:=List.mem_map.1 hz;exact h i k (List.mem_range.1 hi) (List.mem_range.1 hk)
 ·exact Nat.lt_of_lt_of_le (show (1:Int).natAbs < WB ^ 1 by rw[Nat.pow_one,bB];decide) (Nat.pow_le_pow_right aW hK)
section
variable{r c K:Nat}{x:Rep}{va:Nat→Nat→Int}(hr:r≤64)(hc:c≤64)(hF:ah prog 365 [.agg (y8 r c x)] (.v (.bool true)))
  (hA:∀i k,i < r→k < c→ah prog 375 [.agg (y8 r c x),.v (.int .i64 (i:Int)),.v (.int .i64 (k:Int))] (.agg (zN (va i k)))) (hz:∀i k,i < r→k < c→(va i k).natAbs < WB ^ K) (hK1:1≤K) (hkz:kz K c≤1000000)
include hr hc hF hA hz hK1 hkz
theorem alg:aj prog 475 [.agg (y8 r c x)] [] ⟨.tup [.one (.ptr 81 0),eNo 0],[(81,.ent (.abs (bwE (ny c 0 (bS0 (zgM va c r))) c)))]⟩:=by
 have cb:=agu r c x va (by omega) (by omega) hA
 have cR:=alT (bS0 (zgM va c r)) c c K r (ah6 hz hK1) (Nat.le_refl _) (by omega) (by omega) hkz
 refine aj.fnA func475 results475 ntmps475 rfl rfl rfl rfl rfl rfl rfl rfl (fun w0 T B E0 hB=>?_)
 refine SX.goM ?_;refine aon cb rfl rfl rfl ?_;refine SX.goM ?_;exact gY (xs:=[.one (.ptr 81 0),eNo 0]) ⟨ak.tmp rfl,ak.tmp rfl,trivial⟩ ⟨rfl,trivial⟩
end
theorem aoP{n K:Nat}{x:Rep}{va:Nat→Nat→Int}(hn:n≤64)(hF:ah prog 365 [.agg (y8 n n x)] (.v (.bool true)))
  (hA:∀i k,i < n→k < n→ah prog 375 [.agg (y8 n n x),.v (.int .i64 (i:Int)),.v (.int .i64 (k:Int))] (.agg (zN (va i k)))) (hz:∀i k,i < n→k < n→(va i k).natAbs < WB ^ K) (hK1:1≤K) (hkz:kz K n≤1000000):
  ah prog 392 [.agg (y8 n n x)] (.tup [.agg (zN (akS (zgM va n n) n)),eNo 0]):=by
 have cD:=alg hn hn hF hA hz hK1 hkz;have hR:=BI.run (r:=n) (w:=n) n 0 (ah6 hz hK1) (by omega)
 unfold akS;generalize ny n 0 (bS0 (zgM va n n))=s at*;obtain⟨M,ps,la,odd⟩:=s
 haveI iL:Bd la (kz K n):=⟨hR.la⟩
 obtain⟨e,he⟩:∃e:Int,Hide (e=0):=⟨0,⟨rfl⟩⟩;have cD:aj prog 475 [.agg (y8 n n x)] [] ⟨.tup [.one (.ptr 81 0),eNo e],[(81,.ent (.abs (bwE ⟨M,ps,la,odd⟩ n)))]⟩:=by rw[he.out];exact cD
 have heq:eNo 0=eNo e:=by rw[he.out]
 refine ah.fnF func392 results392 ntmps392 rfl rfl rfl (by simp[AV.ids,AV0.ids,Atom.ids]) rfl (fun w0 T B E0 hB=>?_)
 refine SX.goM ?_;refine aoa cD rfl rfl rfl ?_;refine SX.goM ?_;refine zu rfl rfl rfl rfl rfl (fun js c hnd hlt hjM=>?_)
 dsimp only
 have he0:=he.out;by_cases h1:ps.length < n
 ·have e1:zJ ⟨M,ps,la,odd⟩ n=0:=if_pos h1;rw[e1];refine SX.goM ?_;exact .ok (aC.mk2 (ak.imp (ak.fC rfl rfl rfl) zN0) (ak.tmp rfl))
 ·cases odd with
  |true=>
   have e1:zJ ⟨M,ps,la,true⟩ n= -la:=by unfold zJ;rw[if_neg h1,if_pos rfl]
   rw[e1];refine SX.goM ?_;exact .ok (aC.mk2 (ak.fC rfl rfl rfl) (ak.tmp rfl))
  |false=>
   have e1:zJ ⟨M,ps,la,false⟩ n=la:=by unfold zJ;rw[if_neg h1];rfl
   rw[e1];refine SX.goM ?_;exact .ok (aC.mk2 (ak.fC rfl rfl rfl) (ak.tmp rfl))
end
end Go.Proofs.YtegehclknhmkgaaGreatDoor