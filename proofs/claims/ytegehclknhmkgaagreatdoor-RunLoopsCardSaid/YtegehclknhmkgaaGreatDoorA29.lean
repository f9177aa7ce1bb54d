import Derived.Test.YtegehclknhmkgaaGreatDoorA14
import Derived.Test.YtegehclknhmkgaaGreatDoorA11
set_option linter.unusedVariables false
set_option linter.unusedSimpArgs false
namespace Go.Proofs.YtegehclknhmkgaaGreatDoor
open Go.RowKit QM SX LA
section
def nzZ(col:Nat)(r:List Int):Bool:=decide (r.getD col 0≠0)
def bcL(r b:List Int)(p f l:Int)(k:Nat):List Int:=List.zipWith (fun a x=>fK (a*p - f*x) l) (r.take k) (b.take k)++r.drop k
theorem rP{α:Type}{l:List α}{k:Nat}{a:α}(h:l[k]? =some a):k < l.length:=by
 rcases Nat.lt_or_ge k l.length with h2|h2
 ·exact h2
 ·rw[List.getElem?_eq_none h2]at h;cases h
theorem agr{r b:List Int}{p f l:Int}{k:Nat}(h:r.length=b.length)(hk:k≤r.length):(bcL r b p f l k).length=r.length:=by
 unfold bcL;simp;omega
theorem an2{r b:List Int}{p f l:Int}{k:Nat}{a:Int}(h:r.length=b.length)(ha:r[k]? =some a):(bcL r b p f l k)[k]? =some a:=by
 have hk:=rP ha;unfold bcL;rw[List.getElem?_append_right (by simp;omega)]
 simp only[List.length_zipWith,List.length_take,List.getElem?_drop]
 rw[show min (min k r.length) (min k b.length)=k by omega,Nat.sub_self,Nat.add_zero];exact ha
theorem am9{r b:List Int}{p f l:Int}{k:Nat}{a x:Int}(h:r.length=b.length)(ha:r[k]? =some a)(hb:b[k]? =some x):(bcL r b p f l k).set k (fK (a*p - f*x) l)=bcL r b p f l (k+1):=by
 have hk:=rP ha;apply List.ext_getElem?
 intro i;rw[List.getElem?_set]
 unfold bcL;by_cases hi:k=i
 ·subst hi;rw[if_pos rfl,if_pos (by simp;omega)]
  rw[List.getElem?_append_left (by simp;omega),List.getElem?_zipWith]
  simp[ha,hb]
 ·rw[if_neg hi];by_cases hlt:i < k
  ·rw[List.getElem?_append_left (by simp;omega),List.getElem?_append_left (by simp;omega),List.getElem?_zipWith,List.getElem?_zipWith]
   simp[List.getElem?_take,hlt,show i < k+1 by omega]
  ·rw[List.getElem?_append_right (by simp;omega),List.getElem?_append_right (by simp;omega)]
   simp only[List.length_zipWith,List.length_take,List.getElem?_drop]
   congr 1
   omega
theorem aly{r b:List Int}{p f l:Int}:bcL r b p f l 0=r:=by unfold bcL;simp
def bcR(b:List Int)(col:Nat)(l:Int)(r:List Int):List Int:=bcL r b (b.getD col 0) (r.getD col 0) l r.length
def bcM(M:List (List Int))(top col:Nat)(l:Int):List (List Int):=M.mapIdx fun i r=>if i≤top then r else bcR (M.getD top []) col l r
def jN(js:List Nat)(top col:Nat)(l:Int)(b:List Int)(c:List (List Int)):Nat→List (List Int)
 |0=>c
 |i+1=>if i≤top then jN js top col l b c i else match js[i]? with
  |some j=>(jN js top col l b c i).set j (bcR b col l ((jN js top col l b c i).getD j []))
  |none=>jN js top col l b c i
section
variable{js:List Nat}{top col:Nat}{l:Int}{b:List Int}{c:List (List Int)}
theorem oz:∀i,(jN js top col l b c i).length=c.length
 |0=>rfl
 |i+1=>by
  unfold jN
  split
  ·exact oz i
  ·split
   ·rw[List.length_set];exact oz i
   ·exact oz i
theorem xG:∀i,i≤top+1→jN js top col l b c i=c
 |0,_=>rfl
 |i+1,h=>by
  unfold jN;rw[if_pos (by omega)]
  exact xG i (by omega)
theorem mM(hnd:js.Nodup):∀(i:Nat) {k j:Nat},js[k]? =some j→(i≤k∨k≤top)→(jN js top col l b c i)[j]? =c[j]?
 |0,k,j,hk,_=>rfl
 |i+1,k,j,hk,h=>by
  have ih:=mM hnd i hk (by omega)
  unfold jN
  split
  ·exact ih
  ·rename_i hrt
   split
   ·rename_i j2 hj2;have hne:j2≠j:=ajd hnd hj2 hk (by omega)
    rw[List.getElem?_set,if_neg hne];exact ih
   ·exact ih
theorem aea(hnd:js.Nodup):∀(i:Nat) {k j:Nat} {x:List Int},js[k]? =some j→k < i→top < k→c[j]? =some x→(jN js top col l b c i)[j]? =some (bcR b col l x)
 |0,k,j,x,hk,h,_,_=>absurd h (Nat.not_lt_zero _)
 |i+1,k,j,x,hk,h,ht,hx=>by
  have ih:k≠i→(jN js top col l b c i)[j]? =some (bcR b col l x):=fun hn=>aea hnd i hk (by omega) ht hx
  unfold jN
  split
  ·exact ih (by omega)
  ·split
   ·rename_i j2 hj2;by_cases hki:k=i
    ·subst hki;rw[hk]at hj2;cases hj2;have ho:=mM (top:=top) (col:=col) (l:=l) (b:=b) (c:=c) hnd k hk (.inl (Nat.le_refl _));rw[hx]at ho;rw[List.getElem?_set,if_pos rfl,if_pos (rP ho),List.getD_eq_getElem?_getD,ho];rfl
    ·have hne:j2≠j:=ajd hnd hj2 hk (fun e=>hki e.symm)
     rw[List.getElem?_set,if_neg hne];exact ih hki
   ·rename_i hj2;exact ih (fun e=>by subst e;rw[hk]at hj2;cases hj2)
theorem ajk{M:List (List Int)}{jb n:Nat}(hjM:js.map (fun j=>c.getD j [])=M)(hlt:∀j∈js,j < c.length)(hnd:js.Nodup)(hjt:js[top]? =some jb)(hs:c[jb]? =some b)(hn:n=js.length):
  js.map (fun j=>(jN js top col l b c n).getD j [])=bcM M top col l:=by
 subst hn;have htop:M.getD top []=b:=by
  rw[←hjM,List.getD_eq_getElem?_getD,List.getElem?_map,hjt]
  show c.getD jb []=b;rw[List.getD_eq_getElem?_getD,hs];rfl
 apply List.ext_getElem?
 intro p;unfold bcM;rw[List.getElem?_mapIdx,htop,←hjM,List.getElem?_map,List.getElem?_map]
 cases hjp:js[p]? with
 |none=>rfl
 |some j=>
  obtain⟨x,hx⟩:∃x,c[j]? =some x:=⟨_,List.getElem?_eq_getElem (hlt j (List.mem_of_getElem? hjp))⟩
  have e1:c.getD j []=x:=by rw[List.getD_eq_getElem?_getD,hx];rfl
  show some ((jN js top col l b c js.length).getD j [])=some (if p≤top then c.getD j []else bcR b col l (c.getD j []))
  rw[e1,List.getD_eq_getElem?_getD]
  by_cases hp:p≤top
  ·rw[if_pos hp,mM hnd _ hjp (.inr hp),hx];rfl
  ·rw[if_neg hp,aea hnd _ hjp (rP hjp) (by omega) hx];rfl
end
structure BS where
 M:List (List Int)
 ps:List Nat
 la:Int
 odd:Bool
def mY(M:List (List Int))(top col:Nat):Int:=fi (nzZ col) (M.drop top) top
def akJ(s:BS)(i:Nat):BS:=⟨sw s.M i s.ps.length,s.ps,s.la,if i=s.ps.length then s.odd else !s.odd⟩
def uY(s:BS)(col:Nat):BS:=⟨bcM s.M s.ps.length col s.la,s.ps++[col],(s.M.getD s.ps.length []).getD col 0,s.odd⟩
def vM(s:BS)(col:Nat):BS:=if mY s.M s.ps.length col < 0 then s else uY (akJ s (mY s.M s.ps.length col).toNat) col
def mQ:Nat→Nat→BS→BS
 |0,_,s=>s
 |n+1,col,s=>if s.ps.length < s.M.length then mQ n (col+1) (vM s col)else s
theorem qD{n col:Nat}{s:BS}(h:n=0∨¬s.ps.length < s.M.length):mQ n col s=s:=by
 cases n with
 |zero=>rfl
 |succ n=>exact if_neg (h.resolve_left (by omega))
def kz(K:Nat):Nat→Nat
 |0=>K
 |n+1=>kz (2*K+1) n
theorem qV:∀(n K:Nat),kz K (n+1)=2*kz K n+1
 |0,K=>rfl
 |n+1,K=>by
  show kz (2*K+1) (n+1)=2*kz (2*K+1) n+1;exact qV n (2*K+1)
theorem agp:∀(n K:Nat),K≤kz K n
 |0,K=>Nat.le_refl _
 |n+1,K=>by rw[qV];have:=agp n K;omega
structure BI(s:BS)(r w K:Nat):Prop where
 len:s.M.length=r
 row:∀x∈s.M,x.length=w∧∀z∈x,z.natAbs < WB ^ K
 la:s.la.natAbs < WB ^ K
theorem BI.mono{s:BS}{r w K L:Nat}(h:BI s r w K)(hK:K≤L):BI s r w L:=
 ⟨h.len,fun x hx=>⟨(h.row x hx).1,fun z hz=>Nat.lt_of_lt_of_le ((h.row x hx).2 z hz) (Nat.pow_le_pow_right aU hK)⟩,Nat.lt_of_lt_of_le h.la (Nat.pow_le_pow_right aU hK)⟩
theorem BI.swap{s:BS}{r w K i:Nat}(h:BI s r w K):BI (akJ s i) r w K:=
 ⟨by show (sw s.M i _).length=r;rw[ap2];exact h.len,fun x hx=>h.row x (aoW hx),h.la⟩
theorem afs{a b:Int}{K:Nat}(h1:a.natAbs < WB ^ K)(h2:b.natAbs < WB ^ K):(a - b).natAbs < WB ^ (K+1):=by
 have:=apt K;omega
theorem amg{x y:Int}{K:Nat}(h:x.natAbs < WB ^ K):(fK x y).natAbs < WB ^ K:=by
 haveI:Bd x K:=⟨h⟩
 exact(Bd.fK x y K).h
theorem amm{a p f x l:Int}{K:Nat}(ha:a.natAbs < WB ^ K)(hp:p.natAbs < WB ^ K)(hf:f.natAbs < WB ^ K)(hx:x.natAbs < WB ^ K):(fK (a*p - f*x) l).natAbs < WB ^ (2*K+1):=by
 refine amg (afs ?_ ?_)
 ·rw[Int.natAbs_mul,show 2*K=K+K by omega];exact gT ha hp
 ·rw[Int.natAbs_mul,show 2*K=K+K by omega];exact gT hf hx
theorem ap1{r b:List Int}{p f l:Int}{k K:Nat}(hr:∀z∈r,z.natAbs < WB ^ K)(hb:∀z∈b,z.natAbs < WB ^ K)(hp:p.natAbs < WB ^ K)(hf:f.natAbs < WB ^ K):∀z∈bcL r b p f l k,z.natAbs < WB ^ (2*K+1):=by
 intro z hz;unfold bcL at hz;rcases List.mem_append.1 hz with h|h
 ·obtain⟨i,hi⟩:=List.mem_iff_getElem?.1 h;rw[List.getElem?_zipWith]at hi
  cases h1:(r.take k)[i]? with
  |none=>rw[h1]at hi;cases hi
  |some a=>
   cases h2:(b.take k)[i]? with
   |none=>rw[h1,h2]at hi;cases hi
   |some x=>
    rw[h1,h2]at hi;cases hi;exact amm (hr a (List.mem_of_mem_take (List.mem_of_getElem? h1))) hp hf (hb x (List.mem_of_mem_take (List.mem_of_getElem? h2)))
 ·exact Nat.lt_of_lt_of_le (hr z (List.mem_of_mem_drop h)) (Nat.pow_le_pow_right aU (by omega))
theorem BI.clear{s:BS}{r w K col:Nat}(h:BI s r w K)(htop:s.ps.length < r)(hcol:col < w):BI (uY s col) r w (2*K+1):=by
 have ht:=h.row _ (z8 (l:=s.M) (i:=s.ps.length) (d:=[]) (by rw[h.len];exact htop))
 have hp:((s.M.getD s.ps.length []).getD col 0).natAbs < WB ^ K:=ht.2 _ (z8 (by omega))
 refine⟨by show (bcM _ _ _ _).length=r;unfold bcM;rw[List.length_mapIdx];exact h.len,fun x hx=>?_,Nat.lt_of_lt_of_le hp (Nat.pow_le_pow_right aU (by omega))⟩
 have hx:x∈bcM s.M s.ps.length col s.la:=hx;unfold bcM at hx;obtain⟨i,hi⟩:=List.mem_iff_getElem?.1 hx;rw[List.getElem?_mapIdx]at hi
 cases hy:s.M[i]? with
 |none=>rw[hy]at hi;cases hi
 |some y=>
  rw[hy]at hi;have hi:(if i≤s.ps.length then y else bcR (s.M.getD s.ps.length []) col s.la y)=x:=Option.some.inj hi
  obtain⟨yw,yK⟩:=h.row y (List.mem_of_getElem? hy)
  split at hi
  ·subst hi;exact⟨yw,fun z hz=>Nat.lt_of_lt_of_le (yK z hz) (Nat.pow_le_pow_right aU (by omega))⟩
  ·subst hi;unfold bcR;exact⟨by rw[agr (by omega) (Nat.le_refl _)];exact yw,ap1 yK ht.2 hp (yK _ (z8 (by omega)))⟩
theorem BI.step{s:BS}{r w K col:Nat}(h:BI s r w K)(htop:s.ps.length < r)(hcol:col < w):BI (vM s col) r w (2*K+1):=by
 unfold vM
 split
 ·exact h.mono (by omega)
 ·exact(h.swap (i:=_)).clear (col:=col) htop hcol
theorem BI.run{r w:Nat}:∀(n col:Nat) {s:BS} {K:Nat},BI s r w K→col+n≤w→BI (mQ n col s) r w (kz K n)
 |0,col,s,K,h,_=>h
 |n+1,col,s,K,h,hw=>by
  by_cases hl:s.ps.length < s.M.length
  ·rw[show mQ (n+1) col s=mQ n (col+1) (vM s col)from if_pos hl]
   exact BI.run n (col+1) (h.step (by rw[←h.len];exact hl) (by omega)) (by omega)
  ·rw[qD (.inr hl)];exact h.mono (agp _ _)
def bS0(M:List (List Int)):BS:=⟨M,[],1,false⟩
def zI(s:BS)(n:Nat):Int:=if s.ps.length < n then 0 else if s.odd then -s.la else s.la
def ahX(M:List (List Int))(n:Nat):Int:=zI (mQ n 0 (bS0 M)) n
theorem anj{M:List (List Int)}{n K:Nat}(h:BI (bS0 M) n n K):(ahX M n).natAbs < WB ^ kz K n:=by
 have hR:=(BI.run (r:=n) (w:=n) n 0 h (by omega)).la
 unfold ahX zI
 split
 ·exact Nat.pow_pos aU
 ·split
  ·rw[Int.natAbs_neg];exact hR
  ·exact hR
example:ahX [[1,2],[3,4]] 2= -2:=by decide+kernel
end
section
attribute [local irreducible] IntKind.wrap Go1 Reg WP aN aQ bM bI aL aC aj ah aT Sat
attribute [local irreducible] dz bU bV dA bT qv dN mf
abbrev mW(js:List Nat)(c:List (List Int)):lD:=gq 42 27 2 zC js c
abbrev BwI:=List Nat×List (List Int)
abbrev bwC(cols:Nat)(la:Int)(odd:Bool)(pv:Atom):List Atom:=[qc 91 0,.c (.val (.int .i64 (cols:Int))),pv,.c (.val (.bool (decide (la < 0)))),.c (.sat (bC la.natAbs)),.c (.val (.bool odd))]
abbrev bwL(js:List Nat)(c:List (List Int))(ps:List Nat):List (Nat×Ent):=[(91,.abs (mW js c)),(92,PivE ps)]
def bwE(s:BS)(cols:Nat):lD:=
 lM 81 (fun p:BwI=>p.1.Nodup∧(∀j∈p.1,j < p.2.length)∧p.1.map (fun j=>p.2.getD j [])=s.M) 467 (fun _=>bwC cols s.la s.odd (.own 92)) (fun p=>bwL p.1 p.2 s.ps)
theorem wO{P:Program}{C:Ctx}{st:St}{Q:Exit→St→Prop}{cd:Code}{s:BS}{cols:Nat}(hb:st.hp 81= .ent (.abs (bwE s cols)))(h1:st.hp 91= .free)(h2:st.hp 92= .free)(f1:C.fix 91=false)(f2:C.fix 92=false)
  (h:∀js c,js.Nodup→(∀j∈js,j < c.length)→js.map (fun j=>c.getD j [])=s.M→WP P C cd (uP st 81 467 (bwC cols s.la s.odd (.own 92)) (bwL js c s.ps)) Q):WP P C cd st Q:=
 WP.ahj (ι:=BwI) (b:=81) [91,92] hb (fun p=>rfl) (by intro i hi;simp at hi;rcases hi with rfl|rfl <;> assumption) (by intro i hi;simp at hi;rcases hi with rfl|rfl <;> assumption)
  (by intro p i hi;exact .inl (by simpa[Atom.ids]using hi)) (by intro p i e he;simp at he;rcases he with⟨rfl,rfl⟩|⟨rfl,rfl⟩ <;> rfl) (fun p hp=>h p.1 p.2 hp.1 hp.2.1 hp.2.2)
theorem jY{C:Ctx}{st:St}{s:BS}{cols:Nat}{cells0:List Atom}(js:List Nat)(c:List (List Int))(ρ:List (Nat×Option Nat))(os:List Nat)(hnd:js.Nodup)(hlt:∀j∈js,j < c.length)(hM:js.map (fun j=>c.getD j [])=s.M)(hb:st.hp 81= .ent (.box 467 cells0))
  (hc:nP ρ cells0 (bwC cols s.la s.odd (.own 92))) (hR:zT st ρ (bwL js c s.ps))
  (hos:((bwL js c s.ps).all fun q=>match SX.src ρ q.1 with|some o=>iK os o|none=>true)=true) (hbo:iK os 81=false) (hdi:((bwL js c s.ps).all fun q=>(bwL js c s.ps).all fun q'=>Nat.beq q.1 q'.1||!(eqO (SX.src ρ q.1) (SX.src ρ q'.1)))=true) (hfb:lk ρ 81=none:=by rfl):
  St.le C st (pE st 81 (bwE s cols) os):=
 St.adk (ι:=BwI) (b:=81) (js,c) ρ os ⟨hnd,hlt,hM⟩ hb hc hR hos hbo hdi hfb
def zrK(va:Nat→Nat→Int)(i k:Nat):List Int:=(List.range k).map (va i)
def zgM(va:Nat→Nat→Int)(c r:Nat):List (List Int):=(List.range r).map fun i=>zrK va i c
theorem ald{va:Nat→Nat→Int}{i k:Nat}:zrK va i (k+1)=zrK va i k++[va i k]:=by unfold zrK;rw[List.range_succ,List.map_append];rfl
theorem agG{va:Nat→Nat→Int}{i k:Nat}:(zrK va i k).length=k:=by simp[zrK]
theorem agZ{va:Nat→Nat→Int}{c r:Nat}:(zgM va c r).length=r:=by simp[zgM]
theorem anh{va:Nat→Nat→Int}{c r:Nat}:(List.range r).map (fun j=>(zgM va c r).getD j [])=zgM va c r:=by
 unfold zgM;refine List.map_congr_left fun j hj=>?_
 rw[List.getD_eq_getElem?_getD,List.getElem?_map,List.getElem?_range (List.mem_range.1 hj)];rfl
theorem aex{va:Nat→Nat→Int}{c i:Nat}:mW (List.range i++[(zgM va c i).length]) (zgM va c i++[zrK va i c])=mW (List.range (i+1)) (zgM va c (i+1)):=by
 rw[agZ,List.range_succ];unfold zgM;rw[List.range_succ,List.map_append];rfl
theorem afz(r c:Nat)(x:Rep)(va:Nat→Nat→Int)(hr:r≤100)(hc:c≤100)
  (hA:∀i k,i < r→k < c→PureOK Tryz.prog 375 [.agg (wh r c x),.v (.int .i64 (i:Int)),.v (.int .i64 (k:Int))] (.agg (zN (va i k)))):
  ah Tryz.prog 539 [.agg (wh r c x)] [] ⟨.ptr 81 0,[(81,.ent (.abs (bwE (bS0 (zgM va c r)) c)))]⟩:=by
 have n81:Named 11 81:=⟨⟩;have o1:=ajt;refine ah.fnA Tryz.func539 Tryz.results539 Tryz.ntmps539 rfl rfl rfl rfl rfl rfl rfl rfl (fun w0 T B E0 hB=>?_)
 refine SX.goM ?_;refine W.loop (fun i=>i≤r) (fun i=>[(1,.ptr 1 0),(3,.ptr 81 0),(13,.v (.int .i64 (r:Int))),(14,.v (.int .i64 (i:Int)))]) (fun i=>[(1,.box 281 (wh r c x)),(81,.box 467 (bwC c 1 false (.c (.val (.slice none 0 0))))),(91,.abs (mW (List.range i) (zgM va c i)))]) (fun i=>r - i) 0 (Nat.zero_le _) (fun i hi=>?_)
  (by
   refine SX.St.bG [(91,none)] (by intro b h;cases h) ?_ ?_ rfl
   ·repeat(first|exact trivial|refine⟨⟨_,rfl,SX.aG.same rfl⟩,?_⟩)
   ·exact⟨SX.ak.same rfl rfl,SX.ak.mK rfl rfl ⟨aA.apQ rfl,aA.same rfl,aA.same rfl,aA.same rfl,aA.same rfl,aA.same rfl,trivial⟩,SX.ak.amu rfl,trivial⟩)
 by_cases h:i < r
 ·refine SX.goM ?_;refine W.loop (fun k=>k≤c) (fun k=>[(1,.ptr 1 0),(3,.ptr 81 0),(4,.v (.int .i64 (i:Int))),(5,.own 100),(13,.v (.int .i64 (r:Int))),(14,.v (.int .i64 (i:Int))),(18,.v (.int .i64 (c:Int))),(19,.v (.int .i64 (k:Int)))]) (fun k=>[(1,.box 281 (wh r c x)),(81,.box 467 (bwC c 1 false (.c (.val (.slice none 0 0))))),(91,.abs (mW (List.range i) (zgM va c i))),(100,.row 27 2 k ((zrK va i k).flatMap zC))]) (fun k=>c - k) 0 (Nat.zero_le _) (fun k hk=>?_)
   (by
    refine SX.St.bG [(100,none)] (by intro b h;cases h) ?_ ?_ rfl
    ·repeat(first|exact trivial|refine⟨⟨_,rfl,SX.aG.same rfl⟩,?_⟩|refine⟨⟨_,rfl,SX.aG.nil rfl⟩,?_⟩)
    ·exact⟨SX.ak.same rfl rfl,SX.ak.same rfl rfl,SX.ak.same rfl rfl,SX.ak.dL rfl,trivial⟩)
  by_cases h2:k < c
  ·have hf:=hA i k h h2;refine SX.goM ?_;refine W.next (k+1) h2 (by omega) (by
    have e2:(zrK va i k).flatMap zC++zC (va i k)=(zrK va i (k+1)).flatMap zC:=by rw[ald,List.flatMap_append];simp
    refine SX.St.bG [(100,some 28)] (by intro b h;cases h) ?_ ?_ rfl
    ·repeat(first|exact trivial|refine⟨⟨_,rfl,SX.aG.same rfl⟩,?_⟩|refine⟨⟨_,rfl,SX.aG.own rfl⟩,?_⟩)
    ·exact⟨SX.ak.same rfl rfl,SX.ak.same rfl rfl,SX.ak.same rfl rfl,SX.ak.row rfl rfl rfl e2,trivial⟩)
  ·obtain rfl:k=c:=by omega
   have hlen:k=(zrK va i k).length:=agG.symm;have hjs:(List.range i).length=i:=List.length_range;refine SX.goM ?_;refine SX.Go1.litH (l:=zrK va i k) (enc:=zC) rfl rfl rfl rfl hlen rfl ?_;refine SX.goM ?_;refine W.next (i+1) h (by omega) (by
    refine SX.St.bG [(91,some 37)] (by intro b h;cases h) ?_ ?_ rfl
    ·repeat(first|exact trivial|refine⟨⟨_,rfl,SX.aG.same rfl⟩,?_⟩)
    ·exact⟨SX.ak.same rfl rfl,SX.ak.mK rfl rfl ⟨aA.rel rfl,aA.same rfl,aA.same rfl,aA.same rfl,aA.same rfl,aA.same rfl,trivial⟩,SX.ak.abs rfl rfl aex,trivial⟩)
 ·obtain rfl:i=r:=by omega
  refine SX.goM ?_;refine aL.le (jY (s:=bS0 (zgM va c i)) (List.range i) (zgM va c i) [(92,none)] [91] List.nodup_range (fun j hj=>by simpa[zgM]using hj) anh rfl ⟨aA.same rfl,aA.same rfl,aA.nil rfl,aA.same rfl,aA.same rfl,aA.same rfl,trivial⟩ ⟨SX.ak.same rfl rfl,SX.ak.dL rfl,trivial⟩ rfl rfl rfl) ?_
  exact gG (xs:=[.one (.ptr 81 0)]) ⟨aj.tmp rfl,trivial⟩ ⟨rfl,trivial⟩
theorem amk{α:Type}(l:List α)(i:Nat):sw l i i=l:=by
 unfold sw;cases h:l[i]? with
 |none=>rfl
 |some a=>
  show (l.set i a).set i a=l;rw[List.set_set];apply List.ext_getElem?
  intro j;rw[List.getElem?_set]
  by_cases hj:i=j
  ·subst hj;rw[if_pos rfl,if_pos (rP h),h]
  ·rw[if_neg hj]
theorem adQ{z:Int}:bO z=0↔z=0:=by
 unfold bO
 split
 ·rename_i h;exact⟨fun _=>h,fun _=>rfl⟩
 ·rename_i h
  split
  ·exact⟨fun h2=>by omega,fun h2=>absurd h2 h⟩
  ·exact⟨fun h2=>by omega,fun h2=>absurd h2 h⟩
def jC(s:BS)(col:Nat):BS:=if mY s.M s.ps.length col < 0 then s else akJ s (mY s.M s.ps.length col).toNat
theorem aiC(s:BS)(cols col w K r:Nat)(hI:BI s r w K)(hcol:col < w)(hK:K≤1000000000)(hr:r≤100)(htop:s.ps.length < r):
  ah Tryz.prog 577 [.ptr 81 0,.v (.int .i64 (col:Int))] [(81,.abs (bwE s cols))] ⟨.v (.bool (decide (0≤mY s.M s.ps.length col))),[(81,.ent (.abs (bwE (jC s col) cols)))]⟩:=by
 obtain⟨M,ps,la,odd⟩:=s;have hl:M.length=r:=hI.len;refine ah.fnA Tryz.func577 Tryz.results577 Tryz.ntmps577 rfl rfl rfl rfl rfl rfl rfl rfl (fun w0 T B E0 hB=>?_)
 refine wO rfl rfl rfl rfl rfl (fun js c hnd hlt hjM=>?_)
 have hjM:js.map (fun j=>c.getD j [])=M:=hjM
 have hlen:js.length=M.length:=by rw[←hjM,List.length_map]
 dsimp only at htop ⊢
 refine SX.goM ?_;refine W.loop (fun i=>ps.length≤i∧i≤M.length∧fi (nzZ col) (M.drop i) i=mY M ps.length col) (fun i=>[(0,.ptr 81 0),(1,.v (.int .i64 (col:Int))),(5,.v (.int .i64 (ps.length:Int))),(6,.v (.int .i64 (i:Int)))]) (fun i=>[(81,.box 467 (bwC cols la odd (.own 92))),(91,.abs (mW js c)),(92,PivE ps)]) (fun i=>M.length - i) ps.length ⟨Nat.le_refl _,by omega,rfl⟩ (fun i ⟨hi0,hi,he⟩=>?_)
  (by
   refine SX.St.bG [] (by intro b h;exact SX.dw h rfl) ?_ ?_ rfl
   ·repeat(first|exact trivial|refine⟨⟨_,rfl,SX.aG.same rfl⟩,?_⟩)
   ·exact⟨SX.ak.same rfl rfl,SX.ak.same rfl rfl,SX.ak.same rfl rfl,trivial⟩)
 by_cases h:i < M.length
 ·obtain⟨ji,hji⟩:∃j,js[i]? =some j:=⟨_,List.getElem?_eq_getElem (show i < js.length by omega)⟩
  obtain⟨jt,hjt⟩:∃j,js[ps.length]? =some j:=⟨_,List.getElem?_eq_getElem (show ps.length < js.length by omega)⟩
  have lji:=hlt ji (List.mem_of_getElem? hji);have ljt:=hlt jt (List.mem_of_getElem? hjt);obtain⟨row,hrow⟩:∃x,c[ji]? =some x:=⟨_,List.getElem?_eq_getElem lji⟩
  have hgd:c.getD ji []=row:=by rw[List.getD_eq_getElem?_getD,hrow];rfl
  have hMi:M[i]? =some row:=by rw[←hjM,List.getElem?_map,hji,←hgd];rfl
  obtain⟨hw,hwK⟩:=hI.row row (List.mem_of_getElem? hMi);obtain⟨v,hv⟩:∃v,row[col]? =some v:=⟨_,List.getElem?_eq_getElem (show col < row.length by omega)⟩
  have hvd:row.getD col 0=v:=by rw[List.getD_eq_getElem?_getD,hv];rfl
  haveI i1:Bd v K:=⟨hwK v (List.mem_of_getElem? hv)⟩
  rw[p8 hMi]at he;by_cases h0:v=0
  ·have hs:bO v=0:=adQ.2 h0;have hn:nzZ col row=false:=by unfold nzZ;rw[hvd,h0];rfl
   rw[hn,if_neg (by decide)]at he
   refine SX.goM ?_;refine W.next (i+1) ⟨by omega,h,he⟩ (by omega) (by
    refine SX.St.bG [] (by intro b h;exact SX.dw h rfl) ?_ ?_ rfl
    ·repeat(first|exact trivial|refine⟨⟨_,rfl,SX.aG.same rfl⟩,?_⟩)
    ·exact⟨SX.ak.same rfl rfl,SX.ak.same rfl rfl,SX.ak.same rfl rfl,trivial⟩)
  ·have hs:¬bO v=0:=fun h2=>h0 (adQ.1 h2)
   have hn:nzZ col row=true:=by unfold nzZ;rw[hvd];exact decide_eq_true h0
   rw[hn,if_pos rfl]at he;have e1:decide (0≤mY M ps.length col)=true:=decide_eq_true (by omega)
   have e2:jC ⟨M,ps,la,odd⟩ col=⟨sw M i ps.length,ps,la,if i=ps.length then odd else !odd⟩:=by
    unfold jC
    dsimp only
    rw[if_neg (by omega),←he];rfl
   rw[e1,e2];by_cases ht:i=ps.length
   ·subst ht;rw[amk,if_pos rfl];refine SX.goM ?_;refine aL.le (jY (s:=⟨M,ps,la,odd⟩) js c [] [91,92] hnd hlt hjM rfl ⟨aA.same rfl,aA.same rfl,aA.same rfl,aA.same rfl,aA.same rfl,aA.same rfl,trivial⟩ ⟨SX.ak.same rfl rfl,SX.ak.same rfl rfl,trivial⟩ rfl rfl rfl) ?_;exact gG (xs:=[.one (.c (.val (.bool true)))]) ⟨aj.tmp rfl,trivial⟩ ⟨rfl,trivial⟩
   ·rw[if_neg ht];have l1:(js.set i jt).length=js.length:=List.length_set;have hsw:((js.set i jt).set ps.length ji).map (fun j=>c.getD j [])=sw M i ps.length:=by rw[←hjM];exact(aor _ hji hjt).symm
    refine SX.goM ?_;refine aL.le (jY (s:=⟨sw M i ps.length,ps,la,!odd⟩) ((js.set i jt).set ps.length ji) c [] [91,92] (akp hnd hji hjt) (fun j hj=>?_) hsw rfl ⟨aA.same rfl,aA.same rfl,aA.same rfl,aA.same rfl,aA.same rfl,aA.same rfl,trivial⟩ ⟨SX.ak.same rfl rfl,SX.ak.same rfl rfl,trivial⟩ rfl rfl rfl) ?_
    ·rcases List.mem_or_eq_of_mem_set hj with hj|hj
     ·rcases List.mem_or_eq_of_mem_set hj with hj|hj
      ·exact hlt j hj
      ·rw[hj];exact ljt
     ·rw[hj];exact lji
    ·exact gG (xs:=[.one (.c (.val (.bool true)))]) ⟨aj.tmp rfl,trivial⟩ ⟨rfl,trivial⟩
 ·obtain rfl:i=M.length:=by omega
  rw[List.drop_length]at he;have e0:mY M ps.length col= -1:=he.symm;have e1:decide (0≤mY M ps.length col)=false:=decide_eq_false (by omega)
  have e2:jC ⟨M,ps,la,odd⟩ col=⟨M,ps,la,odd⟩:=by
   unfold jC
   dsimp only
   rw[if_pos (by omega)]
  rw[e1,e2];refine SX.goM ?_;refine aL.le (jY (s:=⟨M,ps,la,odd⟩) js c [] [91,92] hnd hlt hjM rfl ⟨aA.same rfl,aA.same rfl,aA.same rfl,aA.same rfl,aA.same rfl,aA.same rfl,trivial⟩ ⟨SX.ak.same rfl rfl,SX.ak.same rfl rfl,trivial⟩ rfl rfl rfl) ?_;exact gG (xs:=[.one (.c (.val (.bool false)))]) ⟨aj.tmp rfl,trivial⟩ ⟨rfl,trivial⟩
end
section
theorem ajl{P:Program}{C:Ctx}{ops:List Oper}{rest:List Oper}{st:St}{acc:_}{K:_}{d:Tmp}{ty:TypeId}{f:FuncId}{xs:Array Operand}{tys:Array TypeId}{args:List AV}{b:Nat}{A:lD}{e:Int}(hc:ah P f args [] ⟨.tup [.one (.ptr b 0),eNo e],[(b,.ent (.abs A))]⟩)(ha:evs st xs.toList=some args)(hd:ay (some d) C.nt=true)(hf:st.hp b= .free)
  (next:Reg P C ops rest (st.app (some d) ⟨.tup [.one (.ptr b 0),eNo e],[(b,.ent (.abs A))]⟩) (([b],[b])::acc) K):Go1 P C ops (some d) (.call ⟨.value (.func f),xs,tys⟩) ty rest st acc K:=
 Go1.aaO (cap:=[]) (pre:=[]) (out:=⟨.tup [.one (.ptr b 0),eNo e],[(b,.ent (.abs A))]⟩) (fp:=[b]) hd rfl ha (by simpa using hc) (fun b e hb=>by cases hb) (fun b s hb=>by simp at hb;rw[hb.1];exact .inr hf) (fun b s hb=>by simp at hb;rw[hb.2];rfl) (fun b s hb=>by simp at hb;simp[hb.1])
  (fun i hi=>by
   left
   rcases hi with hi|⟨b,e,hb,hi⟩
   ·have:i=b:=by simpa[AV.ids,AV0.ids,Atom.ids]using hi
    subst this;exact⟨_,by simp;rfl⟩
   ·simp at hb;obtain⟨rfl,rfl⟩:=hb;cases hi) next
theorem aiN{P:Program}{C:Ctx}{ops:List Oper}{rest:List Oper}{st:St}{acc:_}{K:_}{d:Tmp}{ty:TypeId}{f:FuncId}{xs:Array Operand}{tys:Array TypeId}{args:List AV}{b:Nat}{A:lD}(hc:ah P f args [] ⟨.ptr b 0,[(b,.ent (.abs A))]⟩)(ha:evs st xs.toList=some args)(hd:ay (some d) C.nt=true)(hf:st.hp b= .free)
  (next:Reg P C ops rest (st.app (some d) ⟨.ptr b 0,[(b,.ent (.abs A))]⟩) (([b],[b])::acc) K):Go1 P C ops (some d) (.call ⟨.value (.func f),xs,tys⟩) ty rest st acc K:=
 Go1.aaO (cap:=[]) (pre:=[]) (out:=⟨.ptr b 0,[(b,.ent (.abs A))]⟩) (fp:=[b]) hd rfl ha (by simpa using hc) (fun b e hb=>by cases hb) (fun b s hb=>by simp at hb;rw[hb.1];exact .inr hf) (fun b s hb=>by simp at hb;rw[hb.2];rfl) (fun b s hb=>by simp at hb;simp[hb.1])
  (fun i hi=>by
   left
   rcases hi with hi|⟨b,e,hb,hi⟩
   ·have:i=b:=by simpa[AV.ids,AV0.ids,Atom.ids]using hi
    subst this;exact⟨_,by simp;rfl⟩
   ·simp at hb;obtain⟨rfl,rfl⟩:=hb;cases hi) next
attribute [local irreducible] IntKind.wrap Go1 Reg WP aN aQ bM bI aL aC aj ah aT Sat
attribute [local irreducible] dz bU bV dA bT qv dN mf
theorem ae6(s:BS)(cols col w K r:Nat)(hI:BI s r w K)(hcol:col < w)(hK:K≤1000000)(hr:r≤100)(hw:w≤100)(htop:s.ps.length < r):
  ah Tryz.prog 578 [.ptr 81 0,.v (.int .i64 (col:Int))] [(81,.abs (bwE s cols))] ⟨.tup [],[(81,.ent (.abs (bwE (uY s col) cols)))]⟩:=by
 obtain⟨M,ps,la,odd⟩:=s;have hl:M.length=r:=hI.len
 haveI iL:Bd la K:=⟨hI.la⟩
 refine ah.fnA Tryz.func578 Tryz.results578 Tryz.ntmps578 rfl rfl rfl rfl rfl rfl rfl rfl (fun w0 T B E0 hB=>?_)
 refine wO rfl rfl rfl rfl rfl (fun js c hnd hlt hjM=>?_)
 have hjM:js.map (fun j=>c.getD j [])=M:=hjM
 have hlen:js.length=M.length:=by rw[←hjM,List.length_map]
 have htop:ps.length < r:=htop
 dsimp only
 obtain⟨jb,hjb⟩:∃j,js[ps.length]? =some j:=⟨_,List.getElem?_eq_getElem (show ps.length < js.length by omega)⟩
 have ljb:=hlt jb (List.mem_of_getElem? hjb);obtain⟨b,hb⟩:∃x,c[jb]? =some x:=⟨_,List.getElem?_eq_getElem ljb⟩
 have hgd:c.getD jb []=b:=by rw[List.getD_eq_getElem?_getD,hb];rfl
 have hMb:M[ps.length]? =some b:=by rw[←hjM,List.getElem?_map,hjb,←hgd];rfl
 obtain⟨hbw,hbK⟩:=hI.row b (List.mem_of_getElem? hMb);obtain⟨p,hp⟩:∃v,b[col]? =some v:=⟨_,List.getElem?_eq_getElem (show col < b.length by omega)⟩
 have hpd:b.getD col 0=p:=by rw[List.getD_eq_getElem?_getD,hp];rfl
 haveI iP:Bd p K:=⟨hbK p (List.mem_of_getElem? hp)⟩
 refine SX.goM ?_;refine W.loop (fun i=>ps.length+1≤i∧i≤M.length) (fun i=>[(0,.ptr 81 0),(1,.v (.int .i64 (col:Int))),(4,.v (.int .i64 (ps.length:Int))),(5,.it (.one (qc 91 (jb+1)))),(6,.v (.int .i64 (i:Int)))]) (fun i=>[(81,.box 467 (bwC cols la odd (.own 92))),(91,.abs (mW js (jN js ps.length col la b c i))),(92,PivE ps)]) (fun i=>M.length - i) (ps.length+1) ⟨Nat.le_refl _,by omega⟩ (fun i ⟨hi0,hi⟩=>?_)
  (by
   rw[xG _ (Nat.le_refl _)];refine SX.St.bG [] (by intro b h;exact SX.dw h rfl) ?_ ?_ rfl
   ·repeat(first|exact trivial|refine⟨⟨_,rfl,SX.aG.same rfl⟩,?_⟩)
   ·exact⟨SX.ak.same rfl rfl,SX.ak.same rfl rfl,SX.ak.same rfl rfl,trivial⟩)
 by_cases h:i < M.length
 ·obtain⟨ji,hji⟩:∃j,js[i]? =some j:=⟨_,List.getElem?_eq_getElem (show i < js.length by omega)⟩
  have lji:=hlt ji (List.mem_of_getElem? hji);have hne:ji≠jb:=ajd hnd hji hjb (by omega)
  obtain⟨x,hx⟩:∃x,c[ji]? =some x:=⟨_,List.getElem?_eq_getElem lji⟩
  have hxd:c.getD ji []=x:=by rw[List.getD_eq_getElem?_getD,hx];rfl
  have hMi:M[i]? =some x:=by rw[←hjM,List.getElem?_map,hji,←hxd];rfl
  obtain⟨hxw,hxK⟩:=hI.row x (List.mem_of_getElem? hMi);obtain⟨f,hf⟩:∃v,x[col]? =some v:=⟨_,List.getElem?_eq_getElem (show col < x.length by omega)⟩
  have hfd:x.getD col 0=f:=by rw[List.getD_eq_getElem?_getD,hf];rfl
  haveI iF:Bd f K:=⟨hxK f (List.mem_of_getElem? hf)⟩
  have hcx:(jN js ps.length col la b c i)[ji]? =some x:=by rw[mM hnd i hji (.inl (Nat.le_refl _))];exact hx
  have hcb:(jN js ps.length col la b c i)[jb]? =some b:=by rw[mM hnd i hjb (.inr (Nat.le_refl _))];exact hb
  have hnx:jN js ps.length col la b c (i+1)=(jN js ps.length col la b c i).set ji (bcL x b p f la x.length):=by
   conv=>lhs;unfold jN;rw[if_neg (by omega),hji]
   dsimp only
   rw[List.getD_eq_getElem?_getD,hcx]
   show _=_;unfold bcR;rw[hpd];show (jN js ps.length col la b c i).set ji (bcL x b p (x.getD col 0) la x.length)=_;rw[hfd]
  have hci:(jN js ps.length col la b c i).length=c.length:=oz i;generalize jN js ps.length col la b c i=ci at*;refine SX.goM ?_;refine W.loop (fun k=>k≤x.length) (fun k=>[(0,.ptr 81 0),(1,.v (.int .i64 (col:Int))),(4,.v (.int .i64 (ps.length:Int))),(5,.it (.one (qc 91 (jb+1)))),(6,.v (.int .i64 (i:Int))),(7,.it (.one (qc 91 (ji+1)))),(8,.ptr 8 0),(46,.v (.int .i64 (x.length:Int))),(47,.v (.int .i64 (k:Int)))]) (fun k=>[(81,.box 467 (bwC cols la odd (.own 92))),(91,.abs (mW js (ci.set ji (bcL x b p f la k)))),(92,PivE ps),(8,.box 27 (zN f))]) (fun k=>x.length - k) 0 (Nat.zero_le _) (fun k hk=>?_)
   (by
    have e:mW js ci=mW js (ci.set ji (bcL x b p f la 0)):=by
     rw[aly]
     congr 1
     apply List.ext_getElem?
     intro n;rw[List.getElem?_set]
     by_cases hn:ji=n
     ·subst hn;rw[if_pos rfl,if_pos (by omega),hcx]
     ·rw[if_neg hn]
    refine SX.St.bG [] (by intro b h;exact SX.dw h rfl) ?_ ?_ rfl
    ·repeat(first|exact trivial|refine⟨⟨_,rfl,SX.aG.same rfl⟩,?_⟩)
    ·exact⟨SX.ak.same rfl rfl,SX.ak.eq rfl (congrArg Ent.abs e) rfl,SX.ak.same rfl rfl,SX.ak.same rfl rfl,trivial⟩)
  have lci:ji < ci.length:=by omega
  by_cases h2:k < x.length
  ·obtain⟨a,ha⟩:∃a,x[k]? =some a:=⟨_,List.getElem?_eq_getElem h2⟩
   obtain⟨y,hy⟩:∃y,b[k]? =some y:=⟨_,List.getElem?_eq_getElem (show k < b.length by omega)⟩
   haveI iA:Bd a K:=⟨hxK a (List.mem_of_getElem? ha)⟩
   haveI iY:Bd y K:=⟨hbK y (List.mem_of_getElem? hy)⟩
   have ga:=an2 (p:=p) (f:=f) (l:=la) (show x.length=b.length by omega) ha
   have gl:=agr (p:=p) (f:=f) (l:=la) (show x.length=b.length by omega) hk
   have c1:(ci.set ji (bcL x b p f la k))[ji]? =some (bcL x b p f la k):=by rw[List.getElem?_set,if_pos rfl,if_pos lci]
   have c2:(ci.set ji (bcL x b p f la k))[jb]? =some b:=by rw[List.getElem?_set,if_neg hne];exact hcb
   have e1:mW js ((ci.set ji (bcL x b p f la k)).set ji ((bcL x b p f la k).set k (fK (a*p - f*y) la)))=mW js (ci.set ji (bcL x b p f la (k+1))):=by rw[am9 (by omega) ha hy,List.set_set]
   refine SX.goM ?_;refine W.next (k+1) h2 (by omega) (by
    refine SX.St.bG [] (by intro b h;exact SX.dw h rfl) ?_ ?_ rfl
    ·repeat(first|exact trivial|refine⟨⟨_,rfl,SX.aG.same rfl⟩,?_⟩)
    ·exact⟨SX.ak.same rfl rfl,SX.ak.eq rfl (congrArg Ent.abs e1) rfl,SX.ak.same rfl rfl,SX.ak.same rfl rfl,trivial⟩)
  ·have hkx:k=x.length:=by omega
   subst hkx;refine SX.goM ?_;refine W.next (i+1) ⟨by omega,h⟩ (by omega) (by
    refine SX.St.bG [] (by intro b h;exact SX.dw h rfl) ?_ ?_ rfl
    ·repeat(first|exact trivial|refine⟨⟨_,rfl,SX.aG.same rfl⟩,?_⟩)
    ·exact⟨SX.ak.same rfl rfl,SX.ak.eq rfl (congrArg (fun q=>Ent.abs (mW js q)) hnx.symm) rfl,SX.ak.same rfl rfl,trivial⟩)
 ·obtain rfl:i=M.length:=by omega
  have hcb:(jN js ps.length col la b c M.length)[jb]? =some b:=by rw[mM hnd _ hjb (.inr (Nat.le_refl _))];exact hb
  have hlaw:=ajk (l:=la) (col:=col) hjM hlt hnd hjb hb hlen.symm;have e2:uY ⟨M,ps,la,odd⟩ col=⟨bcM M ps.length col la,ps++[col],p,odd⟩:=by
   have hg:M.getD ps.length []=b:=by rw[List.getD_eq_getElem?_getD,hMb];rfl
   unfold uY
   dsimp only
   rw[hg,hpd]
  have hci:∀j∈js,j < (jN js ps.length col la b c M.length).length:=fun j hj=>by rw[oz];exact hlt j hj
  rw[e2];generalize jN js ps.length col la b c M.length=ci at*;refine SX.goM ?_;refine aL.le (jY (s:=⟨bcM M ps.length col la,ps++[col],p,odd⟩) js ci [(92,some 93)] [91,93] hnd hci hlaw rfl ⟨aA.same rfl,aA.same rfl,aA.own rfl,aA.same rfl,aA.same rfl,aA.same rfl,trivial⟩ ⟨SX.ak.same rfl rfl,SX.ak.row rfl rfl (by rw[List.length_append];rfl) (by rw[List.flatMap_append];rfl),trivial⟩ rfl rfl rfl) ?_
  exact gG (xs:=[]) trivial ⟨rfl,trivial⟩
theorem adf{s:BS}{col:Nat}(h:¬mY s.M s.ps.length col < 0):vM s col=uY (jC s col) col:=by
 unfold vM jC;rw[if_neg h,if_neg h]
theorem ajN(s0:BS)(cols w K r:Nat)(hI:BI s0 r w K)(hcol:cols≤w)(hr:r≤100)(hw:w≤100)(hkz:kz K cols≤1000000):
  ah Tryz.prog 540 [.ptr 81 0] [(81,.abs (bwE s0 cols))] ⟨.tup [],[(81,.ent (.abs (bwE (mQ cols 0 s0) cols)))]⟩:=by
 refine ah.fnA Tryz.func540 Tryz.results540 Tryz.ntmps540 rfl rfl rfl rfl rfl rfl rfl rfl (fun w0 T B E0 hB=>?_)
 refine SX.goM ?_;refine W.lC (fun(col:Nat) (s:BS)=>col≤cols∧mQ (cols - col) col s=mQ cols 0 s0∧BI s r w (kz K col)) (fun col s=>[(0,.ptr 81 0),(2,.v (.int .i64 (col:Int)))]) (fun col s=>[(81,.abs (bwE s cols))]) (fun col s=>cols - col) 0 s0 ⟨Nat.zero_le _,rfl,hI⟩ (fun col s hq=>?_)
  (by
   refine SX.St.bG [] (by intro b h;exact SX.dw h rfl) ?_ ?_ rfl
   ·repeat(first|exact trivial|refine⟨⟨_,rfl,SX.aG.same rfl⟩,?_⟩)
   ·exact⟨SX.ak.same rfl rfl,trivial⟩)
 obtain⟨hq1,hq2,hq3⟩:=hq;have hlM:=hq3.len;have hkm:kz K col≤1000000:=by
  have hmono:∀n m,kz K n≤kz K (n+m):=fun n m=>by
   induction m with
   |zero=>exact Nat.le_refl _
   |succ m ih=>rw[←Nat.add_assoc,qV];omega
  have:=hmono col (cols - col);rw[show col+(cols - col)=cols by omega]at this
  omega
 refine wO rfl rfl rfl rfl rfl (fun js c hnd hlt hjM=>?_)
 have hlen:js.length=s.M.length:=by rw[←hjM,List.length_map]
 by_cases h1:col < cols
 ·by_cases h2:s.ps.length < s.M.length
  ·have hh:=Hide.mk h2;clear h2;refine SX.goM ?_;refine SX.WP.weaken (jY (s:=s) js c [] [91,92] hnd hlt hjM rfl ⟨aA.same rfl,aA.same rfl,aA.same rfl,aA.same rfl,aA.same rfl,aA.same rfl,trivial⟩ ⟨SX.ak.same rfl rfl,SX.ak.same rfl rfl,trivial⟩ rfl rfl rfl) ?_;have h2:=hh.out;have cF:=aiC s cols col w (kz K col) r hq3 (by omega) (by omega) hr (by omega)
   have hn:∃n,cols - col=n+1:=⟨cols - col - 1,by omega⟩
   by_cases h3:mY s.M s.ps.length col < 0
   ·rw[decide_eq_false (show¬0≤mY s.M s.ps.length col by omega),show jC s col=s from if_pos h3]at cF
    refine SX.goM ?_;refine W.kG (col+1) s ⟨h1,?_,by rw[qV];exact hq3.mono (by omega)⟩ (by omega) (by
     refine SX.St.bG [] (by intro b h;exact SX.dw h rfl) ?_ ?_ rfl
     ·repeat(first|exact trivial|refine⟨⟨_,rfl,SX.aG.same rfl⟩,?_⟩)
     ·exact⟨SX.ak.same rfl rfl,trivial⟩)
    rw[←hq2];obtain⟨n,hn⟩:=hn;rw[hn,show cols - (col+1)=n by omega]
    conv=>rhs;unfold mQ;rw[if_pos h2]
    rw[show vM s col=s from if_pos h3]
   ·rw[decide_eq_true (show 0≤mY s.M s.ps.length col by omega)]at cF
    have hFI:BI (jC s col) r w (kz K col):=by
     unfold jC;rw[if_neg h3];exact hq3.swap
    have hFp:(jC s col).ps=s.ps:=by unfold jC;rw[if_neg h3];rfl
    have cC:=ae6 (jC s col) cols col w (kz K col) r hFI (by omega) (by omega) hr hw (by rw[hFp];omega)
    rw[←adf h3]at cC;refine SX.goM ?_;refine W.kG (col+1) (vM s col) ⟨h1,?_,by rw[qV];exact hq3.step (by omega) (by omega)⟩ (by omega) (by
     refine SX.St.bG [] (by intro b h;exact SX.dw h rfl) ?_ ?_ rfl
     ·repeat(first|exact trivial|refine⟨⟨_,rfl,SX.aG.same rfl⟩,?_⟩)
     ·exact⟨SX.ak.same rfl rfl,trivial⟩)
    rw[←hq2];obtain⟨n,hn⟩:=hn;rw[hn,show cols - (col+1)=n by omega]
    conv=>rhs;unfold mQ;rw[if_pos h2]
  ·refine SX.goM ?_;refine aL.le (jY (s:=s) js c [] [91,92] hnd hlt hjM rfl ⟨aA.same rfl,aA.same rfl,aA.same rfl,aA.same rfl,aA.same rfl,aA.same rfl,trivial⟩ ⟨SX.ak.same rfl rfl,SX.ak.same rfl rfl,trivial⟩ rfl rfl rfl) ?_;rw[←hq2,qD (.inr h2)];exact gG (xs:=[]) trivial ⟨rfl,trivial⟩
 ·refine SX.goM ?_;refine aL.le (jY (s:=s) js c [] [91,92] hnd hlt hjM rfl ⟨aA.same rfl,aA.same rfl,aA.same rfl,aA.same rfl,aA.same rfl,aA.same rfl,trivial⟩ ⟨SX.ak.same rfl rfl,SX.ak.same rfl rfl,trivial⟩ rfl rfl rfl) ?_;rw[←hq2,qD (.inl (by omega))]
  exact gG (xs:=[]) trivial ⟨rfl,trivial⟩
theorem aeu{va:Nat→Nat→Int}{r c K:Nat}(h:∀i k,i < r→k < c→(va i k).natAbs < WB ^ K)(hK:1≤K):BI (bS0 (zgM va c r)) r c K:=by
 refine⟨agZ,fun x hx=>?_,?_⟩
 ·obtain⟨i,hi,rfl⟩:=List.mem_map.1 hx;refine⟨agG,fun z hz=>?_⟩
  obtain⟨k,hk,rfl⟩:=List.mem_map.1 hz;exact h i k (List.mem_range.1 hi) (List.mem_range.1 hk)
 ·exact Nat.lt_of_lt_of_le (show (1:Int).natAbs < WB ^ 1 by rw[Nat.pow_one,bY];decide) (Nat.pow_le_pow_right aU hK)
section
variable{r c K:Nat}{x:Rep}{va:Nat→Nat→Int}(hr:r≤64)(hc:c≤64)(hF:PureOK Tryz.prog 365 [.agg (wh r c x)] (.v (.bool true)))
  (hA:∀i k,i < r→k < c→PureOK Tryz.prog 375 [.agg (wh r c x),.v (.int .i64 (i:Int)),.v (.int .i64 (k:Int))] (.agg (zN (va i k)))) (hz:∀i k,i < r→k < c→(va i k).natAbs < WB ^ K) (hK1:1≤K) (hkz:kz K c≤1000000)
include hr hc hF hA hz hK1 hkz
theorem ahR:ah Tryz.prog 475 [.agg (wh r c x)] [] ⟨.tup [.one (.ptr 81 0),eNo 0],[(81,.ent (.abs (bwE (mQ c 0 (bS0 (zgM va c r))) c)))]⟩:=by
 have cb:=afz r c x va (by omega) (by omega) hA
 have cR:=ajN (bS0 (zgM va c r)) c c K r (aeu hz hK1) (Nat.le_refl _) (by omega) (by omega) hkz
 refine ah.fnA Tryz.func475 Tryz.results475 Tryz.ntmps475 rfl rfl rfl rfl rfl rfl rfl rfl (fun w0 T B E0 hB=>?_)
 refine SX.goM ?_;refine aiN cb rfl rfl rfl ?_;refine SX.goM ?_;exact gG (xs:=[.one (.ptr 81 0),eNo 0]) ⟨aj.tmp rfl,aj.tmp rfl,trivial⟩ ⟨rfl,trivial⟩
end
theorem alb{n K:Nat}{x:Rep}{va:Nat→Nat→Int}(hn:n≤64)(hF:PureOK Tryz.prog 365 [.agg (wh n n x)] (.v (.bool true)))
  (hA:∀i k,i < n→k < n→PureOK Tryz.prog 375 [.agg (wh n n x),.v (.int .i64 (i:Int)),.v (.int .i64 (k:Int))] (.agg (zN (va i k)))) (hz:∀i k,i < n→k < n→(va i k).natAbs < WB ^ K) (hK1:1≤K) (hkz:kz K n≤1000000):
  PureOK Tryz.prog 392 [.agg (wh n n x)] (.tup [.agg (zN (ahX (zgM va n n) n)),eNo 0]):=by
 have cD:=ahR hn hn hF hA hz hK1 hkz;have hR:=BI.run (r:=n) (w:=n) n 0 (aeu hz hK1) (by omega)
 unfold ahX;generalize mQ n 0 (bS0 (zgM va n n))=s at*;obtain⟨M,ps,la,odd⟩:=s
 haveI iL:Bd la (kz K n):=⟨hR.la⟩
 obtain⟨e,he⟩:∃e:Int,Hide (e=0):=⟨0,⟨rfl⟩⟩;have cD:ah Tryz.prog 475 [.agg (wh n n x)] [] ⟨.tup [.one (.ptr 81 0),eNo e],[(81,.ent (.abs (bwE ⟨M,ps,la,odd⟩ n)))]⟩:=by rw[he.out];exact cD
 have heq:eNo 0=eNo e:=by rw[he.out]
 refine PureOK.fnF Tryz.func392 Tryz.results392 Tryz.ntmps392 rfl rfl rfl (by simp[AV.ids,AV0.ids,Atom.ids]) rfl (fun w0 T B E0 hB=>?_)
 refine SX.goM ?_;refine ajl cD rfl rfl rfl ?_;refine SX.goM ?_;refine wO rfl rfl rfl rfl rfl (fun js c hnd hlt hjM=>?_)
 dsimp only
 have he0:=he.out;by_cases h1:ps.length < n
 ·have e1:zI ⟨M,ps,la,odd⟩ n=0:=if_pos h1;rw[e1];refine SX.goM ?_;exact .ok (aC.mk2 (aj.imp (aj.iW rfl rfl rfl) zN0) (aj.tmp rfl))
 ·cases odd with
  |true=>
   have e1:zI ⟨M,ps,la,true⟩ n= -la:=by unfold zI;rw[if_neg h1,if_pos rfl]
   rw[e1];refine SX.goM ?_;exact .ok (aC.mk2 (aj.iW rfl rfl rfl) (aj.tmp rfl))
  |false=>
   have e1:zI ⟨M,ps,la,false⟩ n=la:=by unfold zI;rw[if_neg h1];rfl
   rw[e1];refine SX.goM ?_;exact .ok (aC.mk2 (aj.iW rfl rfl rfl) (aj.tmp rfl))
end
end Go.Proofs.YtegehclknhmkgaaGreatDoor