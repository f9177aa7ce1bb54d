import Derived.Test.YtegehclknhmkgaaGreatDoorA13
import Derived.Test.YtegehclknhmkgaaGreatDoorA9
set_option linter.unusedVariables false
set_option linter.unusedSimpArgs false
namespace Go.Proofs.YtegehclknhmkgaaGreatDoor
open Go.RowKit QM SX
section
attribute [local irreducible] IntKind.wrap Go1 Reg WP aN aQ bM bI aL aC aj ah aT Sat
attribute [local irreducible] dz bU bV dA bT qv
def piC(n:Nat):List CA:=[.val (.int .i64 (n:Int))]
abbrev PivE(ps:List Nat):Ent:= .row 3 1 ps.length (ps.flatMap piC)
abbrev wh(r c:Nat)(x:Rep):List Atom:=[.c (.val (.int .i64 (r:Int))),.c (.val (.int .i64 (c:Int))),.c (.sat x)]
def fi{α:Type}(p:α→Bool):List α→Nat→Int
 |[],_=> -1
 |a::l,k=>if p a then(k:Int)else fi p l (k+1)
theorem p8{α:Type}{p:α→Bool}{l:List α}{k:Nat}{a:α}(h:l[k]? =some a):fi p (l.drop k) k=if p a then(k:Int)else fi p (l.drop (k+1)) (k+1):=by
 have hk:k < l.length:=by
  rcases Nat.lt_or_ge k l.length with h2|h2
  ·exact h2
  ·rw[List.getElem?_eq_none h2]at h;cases h
 rw[List.drop_eq_getElem_cons hk];rw[List.getElem?_eq_getElem hk]at h
 rw[Option.some.inj h];rfl
def nz(col:Nat)(r:List Rat):Bool:=decide (r.getD col 0≠0)
def mlL(s:List Rat)(f:Rat)(k:Nat):List Rat:=(s.take k).map (· *f)++s.drop k
def aj9(M:List (List Rat))(top col:Nat):Int:=fi (nz col) (M.drop top) 0
def sw{α:Type}(l:List α)(i j:Nat):List α:=match l[i]?,l[j]? with|some a,some b=>(l.set i b).set j a|_,_=>l
def aop(M:List (List Rat))(top i col:Nat):List Rat:=let s:=(sw M top (top+i)).getD top [];mlL s (1 / s.getD col 0) s.length
def colR(by_:List Rat)(col:Nat)(r:List Rat):List Rat:=tkL r by_ (r.getD col 0) r.length
def colM(M:List (List Rat))(top col:Nat):List (List Rat):=if aj9 M top col < 0 then M else
 ((sw M top (top+(aj9 M top col).toNat)).map (colR (aop M top (aj9 M top col).toNat col) col)).set top (aop M top (aj9 M top col).toNat col)
def colP(M:List (List Rat))(ps:List Nat)(col:Nat):List Nat:=if aj9 M ps.length col < 0 then ps else ps++[col]
theorem afO{α:Type}{p:α→Bool}:∀(l:List α) (k:Nat),¬fi p l k < 0→∃i a,fi p l k=((k+i:Nat):Int)∧l[i]? =some a∧p a=true
 |[],k,h=>absurd (show (-1:Int) < 0 by decide) h
 |a::l,k,h=>by
  unfold fi at h ⊢;cases hp:p a with
  |true=>exact⟨0,a,by simp,rfl,hp⟩
  |false=>
   rw[hp]at h;obtain⟨i,b,h1,h2,h3⟩:=afO l (k+1) h;exact⟨i+1,b,by rw[if_neg (by decide),h1];congr 1;omega,h2,h3⟩
theorem ajd{js:List Nat}(h:js.Nodup){i k a b:Nat}(hi:js[i]? =some a)(hk:js[k]? =some b)(hne:i≠k):a≠b:=by
 rintro rfl;have hil:i < js.length:=by
  rcases Nat.lt_or_ge i js.length with h|h
  ·exact h
  ·rw[List.getElem?_eq_none h]at hi;cases hi
 exact hne ((List.getElem?_inj hil h).1 (hi.trans hk.symm))
theorem ac1{α β:Type}(g:α→β)(l:List α)(i:Nat)(a:α):(l.map g).set i (g a)=(l.set i a).map g:=by rw[List.map_set]
theorem aor{α β:Type}(g:α→β){l:List α}{i j:Nat}{a b:α}(ha:l[i]? =some a)(hb:l[j]? =some b):sw (l.map g) i j=((l.set i b).set j a).map g:=by
 unfold sw;rw[List.getElem?_map,List.getElem?_map,ha,hb]
 show ((l.map g).set i (g b)).set j (g a)=_;rw[ac1,ac1]
theorem akp{js:List Nat}{t u ja jb:Nat}(hnd:js.Nodup)(ha:js[t]? =some ja)(hb:js[u]? =some jb):((js.set t jb).set u ja).Nodup:=by
 have htl:t < js.length:=by
  rcases Nat.lt_or_ge t js.length with h|h
  ·exact h
  ·rw[List.getElem?_eq_none h]at ha;cases ha
 have hul:u < js.length:=by
  rcases Nat.lt_or_ge u js.length with h|h
  ·exact h
  ·rw[List.getElem?_eq_none h]at hb;cases hb
 show List.Pairwise (· ≠ ·) _;rw[List.pairwise_iff_getElem];intro x y hx hy hxy e0;have e:=(List.getElem?_eq_getElem hx).trans ((congrArg some e0).trans (List.getElem?_eq_getElem hy).symm)
 rw[List.length_set,List.length_set]at hx hy;have key:∀z,z < js.length→((js.set t jb).set u ja)[z]? =js[if z=u then t else if z=t then u else z]? :=by
  intro z hz;rw[List.getElem?_set,List.getElem?_set]
  by_cases h1:u=z
  ·rw[if_pos h1,if_pos h1.symm,if_pos (by rw[List.length_set];exact hul),ha]
  ·have h1':¬z=u:=fun e=>h1 e.symm
   rw[if_neg h1,if_neg h1'];by_cases h2:t=z
   ·rw[if_pos h2,if_pos h2.symm,if_pos htl,hb]
   ·have h2':¬z=t:=fun e=>h2 e.symm
    rw[if_neg h2,if_neg h2']
 rw[key x (by omega),key y (by omega)]at e
 have hz:(if x=u then t else if x=t then u else x) < js.length:=by
  split
  ·exact htl
  ·split
   ·exact hul
   ·omega
 have:=(List.getElem?_inj hz hnd).1 e
 revert this
 repeat' split
 all_goals omega
def dN:Nat→Nat→List (List Rat)→List Nat→List (List Rat)×List Nat
 |0,_,M,ps=>(M,ps)
 |n+1,col,M,ps=>if ps.length < M.length then dN n (col+1) (colM M ps.length col) (colP M ps col)else(M,ps)
def kb(K:Nat):Nat→Nat
 |0=>K
 |n+1=>kb (4*K+2) n
theorem aoW{α:Type}{l:List α}{i j:Nat}{x:α}(h:x∈sw l i j):x∈l:=by
 unfold sw at h
 split at h
 ·rename_i a b ha hb;rcases List.mem_or_eq_of_mem_set h with h|h
  ·rcases List.mem_or_eq_of_mem_set h with h|h
   ·exact h
   ·rw[h];exact List.mem_of_getElem? hb
  ·rw[h];exact List.mem_of_getElem? ha
 ·exact h
theorem ap2{α:Type}{l:List α}{i j:Nat}:(sw l i j).length=l.length:=by
 unfold sw
 split
 ·rw[List.length_set,List.length_set]
 ·rfl
theorem z8{α:Type}{l:List α}{i:Nat}{d:α}(h:i < l.length):l.getD i d∈l:=by
 rw[List.getD_eq_getElem?_getD,List.getElem?_eq_getElem h];exact List.getElem_mem h
structure RdS where
 col:Nat
 M:List (List Rat)
 ps:List Nat
end
section
theorem weakArgs{P:Program}{f:FuncId}{args args':List AV}{r:AV}(h:PureOK P f args' r)(hi:∀E S w vs,aI (AV.has E S w) args vs→aI (AV.has E S w) args' vs):PureOK P f args r:=
 ⟨h.1,fun E S w vs hl hg hv a b c=>h.2 E S w vs hl hg (hi E S w vs hv) a b c⟩
attribute [local irreducible] IntKind.wrap Go1 Reg WP aN aQ bM bI aL aC aj ah aT Sat
attribute [local irreducible] dz bU bV dA bT qv
abbrev q4v(v:Rat):Q4:=(decide (v.num < 0),bC v.num.natAbs,decide ((v.den:Int) < 0),bC (v.den:Int).natAbs)
theorem afZ{α:Type}{enc:α→List CA}{size:Nat}{S:Nat→Prop}{w:World}:(aF size enc ([]:List α)).has S w (.slice none 0 0):=
 bB.2 ⟨none,0,rfl,Nat.le_refl _,Nat.zero_le _,fun _=>rfl,by simp,fun i c h=>by simp at h⟩
end
end Go.Proofs.YtegehclknhmkgaaGreatDoor
namespace LA
def sm:Nat→(Nat→Rat)→Rat
 |0,_=>0
 |n+1,f=>sm n f+f n
def Sp(n W:Nat)(m:Nat→Nat→Rat)(v:Nat→Rat):Prop:=∃c:Nat→Rat,∀k,k < W→v k=sm n (fun r=>c r*m r k)
structure Eqv(n n' W:Nat)(m m':Nat→Nat→Rat):Prop where
 fwd:∀r,r < n'→Sp n W m (m' r)
 back:∀r,r < n→Sp n' W m' (m r)
structure Rref(n w:Nat)(m:Nat→Nat→Rat)(ps:List Nat):Prop where
 len:ps.length≤n
 inc:ps.Pairwise (· < ·)
 lt:∀p∈ps,p < w
 one:∀i p,ps[i]? =some p→∀r,r < n→m r p=if r=i then 1 else 0
 low:∀i p,ps[i]? =some p→∀k,k < p→m i k=0
 zero:∀r,ps.length≤r→r < n→∀k,k < w→m r k=0
end LA
namespace Go.Proofs.YtegehclknhmkgaaGreatDoor
section
open LA
def mf(M:List (List Rat))(r k:Nat):Rat:=(M.getD r []).getD k 0
theorem agf{α:Type}{p:α→Bool}:∀{l:List α} {k:Nat},fi p l k < 0→∀a∈l,p a=false
 |[],k,_,a,h=>by cases h
 |b::l,k,h,a,ha=>by
  unfold fi at h;cases hp:p b with
  |true=>rw[hp]at h;simp at h;omega
  |false=>
   rw[hp]at h;rcases List.mem_cons.1 ha with rfl|ha
   ·exact hp
   ·exact agf (k:=k+1) (by simpa using h) a ha
structure ColS(n W:Nat)(m m':Nat→Nat→Rat)(top i col:Nat):Prop where
 hi:top≤i∧i < n
 ne:m i col≠0
 at_:∀r,r < n→∀k,k < W→m' r k=if r=top then m i k / m i col else(if r=i then m top k else m r k) - (if r=i then m top col else m r col)*(m i k / m i col)
section
section
variable{r c d:Nat}{va vb:Nat→Nat→Rat}
end
end
end
section
open Go.RowKit QM SX
attribute [local irreducible] IntKind.wrap Go1 Reg WP aN aQ bM bI aL aC aj ah aT Sat
attribute [local irreducible] dz bU bV dA bT qv mf
attribute [local irreducible] dN
theorem Ra.rb{l:List Atom}{v:Rat}{K:Nat}(h:Ra l v K)(hK:1≤K):RB v K:=by
 obtain⟨x0,x1,x2,x3,p,q,k,m,_,_,_,h1,h2,h3,h4,h5⟩:=h.h;by_cases hq:q=0
 ·subst hq;have:v=0:=by rw[←h5];unfold qv;grind
  rw[this];exact RB.zero hK
 ·exact RB.of hq h5 (Nat.lt_of_lt_of_le h3.h (Nat.pow_le_pow_right aU h1)) (Nat.lt_of_lt_of_le h4.h (Nat.pow_le_pow_right aU h2))
def vat(vs:List Rat)(c i k:Nat):Rat:=vs.getD (i*c+k) 0
theorem y8{r c i k:Nat}(hi:i < r)(hk:k < c):i*c+k < r*c:=by
 have:=Nat.mul_le_mul_right c (show i+1≤r from hi)
 rw[Nat.succ_mul]at this;omega
theorem ajA{vs:List Rat}{r c i k:Nat}(hl:vs.length=r*c)(hi:i < r)(hk:k < c):vs[i*c+k]? =some (vat vs c i k):=by
 have h:=y8 hi hk;unfold vat;rw[List.getD_eq_getElem?_getD,List.getElem?_eq_getElem (by omega)];rfl
theorem MV.rb{l:List Q4}{vs:List Rat}{K:Nat}(h:MV l vs K)(hK:1≤K):∀v∈vs,RB v K:=by
 intro v hv;obtain⟨i,hi⟩:=List.mem_iff_getElem?.1 hv;have hlt:i < vs.length:=by
  rcases Nat.lt_or_ge i vs.length with h|h
  ·exact h
  ·rw[List.getElem?_eq_none h]at hi;cases hi
 exact Ra.rb (h.ra i _ v (List.getElem?_eq_getElem (show i < l.length by rw[h.len];exact hlt)) hi) hK
theorem abe{c:Nat}{val:Nat→Nat→Rat}{k:Nat}(hk:k < c):∀{r i:Nat},i < r→(kC c val r)[i*c+k]? =some (val i k)
 |0,i,h=>absurd h (Nat.not_lt_zero _)
 |r+1,i,h=>by
  rw[uR];by_cases hi:i < r
  ·rw[List.getElem?_append_left (by rw[lu];exact y8 hi hk)]
   exact abe hk hi
  ·obtain rfl:i=r:=by omega
   rw[List.getElem?_append_right (by rw[lu];omega),lu,Nat.add_sub_cancel_left,List.getElem?_map,List.getElem?_range hk];rfl
theorem MV.made{vs:List Rat}{K:Nat}(h:∀v∈vs,RB v K):MV (vs.map q4v) vs K:=by
 refine⟨List.length_map _,fun i q v hq hv=>?_⟩
 rw[List.getElem?_map,hv]at hq
 cases hq;exact(h v (List.mem_of_getElem? hv)).ra
theorem aaZ(r c:Nat)(l:List Rat):ahY r c l=aad r c (l.map q4v):=by
 have e:aF 4 qC l=aF 4 q4C (l.map q4v):=by
  show aM 4 l.length (l.flatMap qC)=aM 4 (l.map q4v).length ((l.map q4v).flatMap q4C);rw[List.length_map,List.flatMap_map]
 unfold ahY aad;rw[e]
theorem ahf{r c:Nat}{n:Nat}{cells:List CA}(hl:n=r*c)(hr:r≤64)(hc:c≤64):PureOK Tryz.prog 92 [.agg [.c (.val (.int .i64 (r:Int))),.c (.val (.int .i64 (c:Int))),.c (.sat (aM 4 n cells))]] (.v (.bool true)):=by
 have h:=(yh (r:Int) (c:Int) (n:=n) (cells:=cells)).h trivial;rw[decide_eq_true (show 0≤(r:Int)∧(r:Int)≤64∧0≤(c:Int)∧(c:Int)≤64∧(n:Int)=(r:Int)*(c:Int)from ⟨by omega,by omega,by omega,by omega,by rw[hl];simp⟩)]at h
 exact h
abbrev mat0:List Atom:=[.c (.val (.int .i64 0)),.c (.val (.int .i64 0)),.c (.val (.slice none 0 0))]
abbrev eNo(z:Int):AV0:= .one (.c (.val (.int .i64 z)))
def ng(r c:Int)(n:Nat):Prop:=0≤r∧r≤64∧0≤c∧c≤64∧(n:Int)=r*c
end
section
open Go.RowKit QM SX
attribute [local irreducible] IntKind.wrap Go1 Reg WP aN aQ bM bI aL aC aj ah aT Sat
attribute [local irreducible] dz bU bV dA bT qv dN mf
theorem aj1{f:FuncId}{E:Env}{S:Nat→Prop}{w:World}{v:Value}(h:(AV.it (.one (.clo f []))).has E S w v):(AV.it (.one (.c (.sat (eu f [] []))))).has E S w v:=
 ⟨[],[],h,trivial,trivial⟩
abbrev kV:=Bool×List Nat×Bool×List Nat
abbrev rq(x:kV):Q4:=(x.1,dQ x.2.1,x.2.2.1,dQ x.2.2.2)
def rqv(x:kV):Rat:=qv (sgn x.1 (nval WB x.2.1)) (sgn x.2.2.1 (nval WB x.2.2.2))
def RSm(l:List kV):Prop:=∀x∈l,Sm WB x.2.1∧Sm WB x.2.2.2
def RLen(l:List kV)(K:Nat):Prop:=∀x∈l,x.2.1.length≤K∧x.2.2.2.length≤K
theorem MV.raw{l:List kV}{K:Nat}(hs:RSm l)(hl:RLen l K):MV (l.map rq) (l.map rqv) K:=by
 refine⟨by rw[List.length_map,List.length_map],fun i q v hq hv=>?_⟩
 rw[List.getElem?_map]at hq hv
 cases hx:l[i]? with
 |none=>rw[hx]at hq;cases hq
 |some x=>
  rw[hx]at hq hv;cases hq;cases hv;have h1:=hs x (List.mem_of_getElem? hx);have h2:=hl x (List.mem_of_getElem? hx);exact Ra.raw ⟨aaS h1.1 (Nat.le_refl _)⟩ ⟨aaS h1.2 (Nat.le_refl _)⟩ h2.1 h2.2
def FewP(r c:Int)(l:List kV)(s w:Int):Prop:=(∀k x,k < 100→l[k]? =some x→(x.2.1.length:Int)≤w∧(x.2.2.2.length:Int)≤w)∧r≤s∧c≤s∧l.length≤100
end
section
open Go.RowKit QM SX LA
attribute [local irreducible] IntKind.wrap Go1 Reg WP aN aQ bM bI aL aC aj ah aT Sat
attribute [local irreducible] dz bU bV dA bT qv dN mf
section
section
variable{l l':List Atom}{v:Rat}{K K':Nat}
end
theorem ajt:PureOK Tryz.prog 6 [.v (.int .i64 1)] (.agg (zN 1)):=wQ.h ⟨by decide,by decide⟩
theorem yZ{α:Type}{l:List α}{i:Nat}{a:α}(h:l[i]? =some a):i < l.length:=by
 rcases Nat.lt_or_ge i l.length with h2|h2
 ·exact h2
 ·rw[List.getElem?_eq_none h2]at h;cases h
end
abbrev Z2:=Bool×Rep
abbrev z2A(q:Z2):List Atom:=[.c (.val (.bool q.1)),.c (.sat q.2)]
abbrev z2C(q:Z2):List CA:=[.val (.bool q.1),.sat q.2]
instance:eB z2C 2:=⟨fun _=>rfl⟩
abbrev zC(z:Int):List CA:=[.val (.bool (decide (z < 0))),.sat (bC z.natAbs)]
instance:eB zC 2:=⟨fun _=>rfl⟩
abbrev z2v(z:Int):Z2:=(decide (z < 0),bC z.natAbs)
structure ZQ(q:Z2)(z:Int)(K:Nat):Prop where
 h:∃n k,z=sgn q.1 n∧NI (.sat q.2) n k∧k≤K
 b:z.natAbs < WB ^ K
theorem NI.le{a:CA}{n k K:Nat}(x:NI a n k)(hK:k≤K):NI a n K:=⟨fun S w v h=>by
 obtain⟨l,h1,h2,h3⟩:=sj.1 (x.p S w v h);exact sj.2 ⟨l,h1,Nat.le_trans h2 hK,h3⟩⟩
theorem ZQ.zi{q:Z2}{z:Int}{K:Nat}(h:ZQ q z K):ZI (z2A q) z K:=by
 obtain⟨n,k,h1,h2,h3⟩:=h.h;exact h1▸ZI.mk' (neg:=q.1) (h2.le h3)
theorem agu(z:Int):sgn (decide (z < 0)) z.natAbs=z:=by
 unfold sgn;by_cases h:z < 0
 ·rw[decide_eq_true h];simp;omega
 ·rw[decide_eq_false h];simp;omega
theorem ZQ.made{z:Int}{K:Nat}(h:z.natAbs < WB ^ K):ZQ (z2v z) z K:=
 ⟨⟨z.natAbs,K,(agu z).symm,NI.abD h,Nat.le_refl _⟩,h⟩
theorem ZQ.raw{b:Bool}{l:List Nat}{K:Nat}(hs:Sm WB l)(hl:l.length≤K):ZQ (b,dQ l) (sgn b (nval WB l)) K:=
 ⟨⟨_,_,rfl,NI.raw l,hl⟩,by
  have h1:(sgn b (nval WB l)).natAbs=nval WB l:=by unfold sgn;split <;> omega
  rw[h1];exact Nat.lt_of_lt_of_le (aaS hs (Nat.le_refl _)) (Nat.pow_le_pow_right aU hl)⟩
theorem ZQ.mono{q:Z2}{z:Int}{K L:Nat}(h:ZQ q z K)(hK:K≤L):ZQ q z L:=by
 obtain⟨n,k,h1,h2,h3⟩:=h.h;exact⟨⟨n,k,h1,h2,by omega⟩,Nat.lt_of_lt_of_le h.b (Nat.pow_le_pow_right aU hK)⟩
theorem ZQ.ra{q d:Z2}{z y:Int}{K L:Nat}(h:ZQ q z K)(k:ZQ d y L):Ra (q4A (q.1,q.2,d.1,d.2)) (qv z y) (max K L):=by
 exact⟨_,_,_,_,z,y,K,L,rfl,h.zi,k.zi,by omega,by omega,⟨h.b⟩,⟨k.b⟩,rfl⟩
structure MZ(l:List Z2)(zs:List Int)(K:Nat):Prop where
 len:l.length=zs.length
 z:∀(i:Nat) q z,l[i]? =some q→zs[i]? =some z→ZQ q z K
abbrev acd(r c:Nat)(l:List Z2):List Atom:=[.c (.val (.int .i64 (r:Int))),.c (.val (.int .i64 (c:Int))),.c (.sat (aF 2 z2C l))]
abbrev xU(r c:Nat)(l:List Int):List Atom:=[.c (.val (.int .i64 (r:Int))),.c (.val (.int .i64 (c:Int))),.c (.sat (aF 2 zC l))]
def zat(zs:List Int)(c i k:Nat):Int:=zs.getD (i*c+k) 0
theorem acr{zs:List Int}{r c i k:Nat}(hl:zs.length=r*c)(hi:i < r)(hk:k < c):zs[i*c+k]? =some (zat zs c i k):=by
 have h:=y8 hi hk;unfold zat;rw[List.getD_eq_getElem?_getD,List.getElem?_eq_getElem (by omega)];rfl
theorem MZ.at{r c i k K:Nat}{l:List Z2}{zs:List Int}(hM:MZ l zs K)(hl:l.length=r*c)(hi:i < r)(hk:k < c):∃q,l[i*c+k]? =some q∧ZQ q (zat zs c i k) K:=by
 have h:=y8 hi hk;obtain⟨q,hq⟩:∃q,l[i*c+k]? =some q:=⟨_,List.getElem?_eq_getElem (by omega)⟩
 exact⟨q,hq,hM.z _ _ _ hq (acr (by rw[←hM.len];exact hl) hi hk)⟩
theorem aaE(r c:Nat)(l:List Int):xU r c l=acd r c (l.map z2v):=by
 have e:aF 2 zC l=aF 2 z2C (l.map z2v):=by
  show aM 2 l.length (l.flatMap zC)=aM 2 (l.map z2v).length ((l.map z2v).flatMap z2C);rw[List.length_map,List.flatMap_map]
 unfold xU acd;rw[e]
theorem MZ.made{zs:List Int}{K:Nat}(h:∀z∈zs,z.natAbs < WB ^ K):MZ (zs.map z2v) zs K:=by
 refine⟨List.length_map _,fun i q z hq hz=>?_⟩
 rw[List.getElem?_map,hz]at hq
 cases hq;exact ZQ.made (h z (List.mem_of_getElem? hz))
instance pR(n:Int):Con Tryz.prog 360 [.v (.int .i64 n)] True (.v (.bool (decide (0≤n∧n≤64)))):=⟨fun _=>by
 refine PureOK.fnF Tryz.func360 Tryz.results360 Tryz.ntmps360 rfl rfl rfl (by simp[AV.ids,AV0.ids,Atom.ids]) rfl (fun w0 T B E0 hB=>?_)
 by_cases h1:n≥0
 ·by_cases h2:n≤64
  ·refine SX.goM ?_;refine bK ?_;rw[decide_eq_true (show 0≤n∧n≤64 from ⟨h1,h2⟩)];exact decide_eq_true h2
  ·refine SX.goM ?_;refine bK ?_;rw[decide_eq_false (show¬(0≤n∧n≤64)from fun h=>h2 h.2)];exact decide_eq_false h2
 ·refine SX.goM ?_;refine bK ?_;rw[decide_eq_false (show¬(0≤n∧n≤64)from fun h=>h1 h.1)]⟩
theorem acz(r c:Int){n:Nat}{cells:List CA}(goal:Bool)(hg:goal=true↔ng r c n):PureOK Tryz.prog 365 [.agg [.c (.val (.int .i64 r)),.c (.val (.int .i64 c)),.c (.sat (aM 2 n cells))]] (.v (.bool goal)):=by
 have s1:=(pR r).h trivial;have s2:=(pR c).h trivial;refine PureOK.fnF Tryz.func365 Tryz.results365 Tryz.ntmps365 rfl rfl rfl (by simp[AV.ids,AV0.ids,Atom.ids]) rfl (fun w0 T B E0 hB=>?_)
 by_cases h1:0≤r∧r≤64
 ·rw[decide_eq_true h1]at s1;by_cases h2:0≤c∧c≤64
  ·rw[decide_eq_true h2]at s2;have hp:0≤r*c:=Int.mul_nonneg h1.1 h2.1;have hp2:r*c≤64*64:=Int.mul_le_mul h1.2 h2.2 h2.1 (by decide)
   refine SX.goM ?_;refine bK ?_;rw[Bool.eq_iff_iff,hg,decide_eq_true_iff];exact⟨fun h=>⟨h1.1,h1.2,h2.1,h2.2,h⟩,fun h=>h.2.2.2.2⟩
  ·rw[decide_eq_false h2]at s2;refine SX.goM ?_;refine bK ?_;exact(Bool.eq_false_iff.2 fun ht=>h2 ⟨(hg.1 ht).2.2.1,(hg.1 ht).2.2.2.1⟩).symm
 ·rw[decide_eq_false h1]at s1;refine SX.goM ?_;refine bK ?_;exact(Bool.eq_false_iff.2 fun ht=>h1 ⟨(hg.1 ht).1,(hg.1 ht).2.1⟩).symm
theorem aeT{r c:Int}{n:Nat}{cells:List CA}(h:ng r c n):PureOK Tryz.prog 365 [.agg [.c (.val (.int .i64 r)),.c (.val (.int .i64 c)),.c (.sat (aM 2 n cells))]] (.v (.bool true)):=acz r c true ⟨fun _=>h,fun _=>rfl⟩
theorem ng.nat{r c n:Nat}(hr:r≤64)(hc:c≤64)(h:n=r*c):ng r c n:=⟨by omega,by omega,by omega,by omega,by rw[h];simp⟩
theorem aj2{r c i k:Nat}{l:List Z2}{q:Z2}(hq:l[i*c+k]? =some q)(hi:i≤1000)(hc:c≤1000)(hk:k≤1000):
  PureOK Tryz.prog 464 [.agg (acd r c l),.v (.int .i64 (i:Int)),.v (.int .i64 (k:Int))] (.agg (z2A q)):=by
 have hb:=Nat.mul_le_mul hi hc;have hlt:=yZ hq;refine PureOK.fnF Tryz.func464 Tryz.results464 Tryz.ntmps464 rfl rfl rfl (by simp[AV.ids,AV0.ids,Atom.ids]) rfl (fun w0 T B E0 hB=>?_)
 refine SX.goM ?_;exact qg (aj.iW rfl rfl rfl) rfl
theorem ajy{r c i:Nat}{l:List Z2}(h:i < r):PureOK Tryz.prog 463 [.agg (acd r c l),.v (.int .i64 (i:Int))] (.v (.bool true)):=by
 refine PureOK.fnF Tryz.func463 Tryz.results463 Tryz.ntmps463 rfl rfl rfl (by simp[AV.ids,AV0.ids,Atom.ids]) rfl (fun w0 T B E0 hB=>?_)
 refine SX.goM ?_;refine bK ?_;exact decide_eq_true (by omega)
theorem akh{q:Z2}{z:Int}{K:Nat}(h:ZQ q z K)(hK:K≤1000000):PureOK Tryz.prog 17 [.it (.one (.c (.sat q.2))),.v (.bool q.1)] (.agg (zN z)):=by
 obtain⟨n,k,h1,h2,h3⟩:=h.h;rw[h1];exact aaW (h:=h2) q.1 |>.h (by omega)
theorem agS{r c i k:Nat}{l:List Z2}{zs:List Int}{K:Nat}(hM:MZ l zs K)(hl:l.length=r*c)(hr:r≤64)(hc:c≤64)(hi:i < r)(hk:k < c)(hK:K≤1000000):
  PureOK Tryz.prog 375 [.agg (acd r c l),.v (.int .i64 (i:Int)),.v (.int .i64 (k:Int))] (.agg (zN (zat zs c i k))):=by
 obtain⟨q,hq,hz⟩:=hM.at hl hi hk;have cg:=aj2 (r:=r) hq (by omega) (by omega) (by omega)
 have ch:=ajy (c:=c) (l:=l) hi;have cF:=aeT (cells:=l.flatMap z2C) (ng.nat hr hc hl);have cR:=akh hz hK;refine PureOK.fnF Tryz.func375 Tryz.results375 Tryz.ntmps375 rfl rfl rfl (by simp[AV.ids,AV0.ids,Atom.ids]) rfl (fun w0 T B E0 hB=>?_)
 refine SX.goM ?_;exact qg (aj.iW rfl rfl rfl) rfl
def ku(c:Nat)(val:Nat→Nat→Int)(i:Nat):List Int:=(List.range i).flatMap fun i=>(List.range c).map (val i)
theorem aip{c:Nat}{val:Nat→Nat→Int}:ku c val 0=[]:=rfl
theorem aa8{c i:Nat}{val:Nat→Nat→Int}:ku c val (i+1)=ku c val i++(List.range c).map (val i):=by
 unfold ku;rw[List.range_succ,List.flatMap_append];simp
theorem rU{c:Nat}{val:Nat→Nat→Int}:∀i,(ku c val i).length=i*c
 |0=>by simp[aip]
 |i+1=>by rw[aa8,List.length_append,rU i];simp[Nat.succ_mul]
theorem anC{c r K:Nat}{val:Nat→Nat→Int}(h:∀i k,i < r→k < c→(val i k).natAbs < WB ^ K):∀v∈ku c val r,v.natAbs < WB ^ K:=by
 intro v hv;unfold ku at hv;obtain⟨i,hi,hv⟩:=List.mem_flatMap.1 hv;obtain⟨k,hk,rfl⟩:=List.mem_map.1 hv;exact h i k (List.mem_range.1 hi) (List.mem_range.1 hk)
def zZ(val:Nat→Nat→Int)(i k:Nat):List Int:=(List.range k).map (val i)
theorem ahu{val:Nat→Nat→Int}{i k:Nat}:zZ val i (k+1)=zZ val i k++[val i k]:=by
 unfold zZ;rw[List.range_succ,List.map_append];rfl
theorem aie(r c:Nat)(x:CA)(L:Nat→Nat→Z2)(val:Nat→Nat→Int)(K:Nat)(hr:r≤100)(hc:c≤100)(hK:K≤1000000)
  (hx:∀i k,i < r→k < c→FnV Tryz.prog x [.v (.int .i64 (i:Int)),.v (.int .i64 (k:Int))] (.agg (z2A (L i k)))) (hL:∀i k,i < r→k < c→ZQ (L i k) (val i k) K) (hx1:x.dS=true):
  PureOK Tryz.prog 361 [.v (.int .i64 (r:Int)),.v (.int .i64 (c:Int)),.it (.one (.c x))] (.agg (xU r c (ku c val r))):=by
 refine PureOK.fnF Tryz.func361 Tryz.results361 Tryz.ntmps361 rfl rfl rfl (by simp[AV.ids,AV0.ids,Atom.ids]) rfl (fun w0 T B E0 hB=>?_)
 refine SX.goM ?_;refine W.loop (fun i=>i≤r) (fun i=>[(1,.v (.int .i64 (c:Int))),(2,.it (.one (.c x))),(6,.ptr 6 0),(7,.ptr 7 0),(14,.v (.int .i64 (r:Int))),(15,.v (.int .i64 (i:Int)))]) (fun i=>[(6,.box 281 [.c (.val (.int .i64 0)),.c (.val (.int .i64 0)),.c (.val (.slice none 0 0))]),(7,.box 281 [.c (.val (.int .i64 (r:Int))),.c (.val (.int .i64 (c:Int))),.own 100]),(100,.row 27 2 (i*c) ((ku c val i).flatMap zC))]) (fun i=>r - i) 0 (Nat.zero_le _) (fun i hi=>?_)
  (by
   refine SX.St.bG [(100,none)] (by intro b h;cases h) ?_ ?_ rfl
   ·repeat(first|exact trivial|refine⟨⟨_,rfl,SX.aG.same rfl⟩,?_⟩)
   ·exact⟨SX.ak.same rfl rfl,SX.ak.mK rfl rfl ⟨aA.same rfl,aA.same rfl,aA.nil rfl,trivial⟩,by rw[Nat.zero_mul];exact SX.ak.dL rfl,trivial⟩)
 by_cases h:i < r
 ·refine SX.goM ?_;refine W.loop (fun k=>k≤c) (fun k=>[(1,.v (.int .i64 (c:Int))),(2,.it (.one (.c x))),(6,.ptr 6 0),(7,.ptr 7 0),(8,.v (.int .i64 (i:Int))),(14,.v (.int .i64 (r:Int))),(15,.v (.int .i64 (i:Int))),(18,.v (.int .i64 (c:Int))),(19,.v (.int .i64 (k:Int)))]) (fun k=>[(6,.box 281 [.c (.val (.int .i64 0)),.c (.val (.int .i64 0)),.c (.val (.slice none 0 0))]),(7,.box 281 [.c (.val (.int .i64 (r:Int))),.c (.val (.int .i64 (c:Int))),.own 100]),(100,.row 27 2 (i*c+k) ((ku c val i++zZ val i k).flatMap zC))]) (fun k=>c - k) 0 (Nat.zero_le _) (fun k hk=>?_)
   (by
    have e:Ent.row 27 2 (i*c) ((ku c val i).flatMap zC)=Ent.row 27 2 (i*c+0) ((ku c val i++zZ val i 0).flatMap zC):=by simp[zZ]
    refine SX.St.bG [] (by intro b h;cases h) ?_ ?_ rfl
    ·repeat(first|exact trivial|refine⟨⟨_,rfl,SX.aG.same rfl⟩,?_⟩)
    ·exact⟨SX.ak.same rfl rfl,SX.ak.same rfl rfl,SX.ak.eq rfl e rfl,trivial⟩)
  by_cases h2:k < c
  ·have hf:=hx i k h h2;have cR:=akh (hL i k h h2) hK;have hlen:i*c+k≤20000:=by
    have:=Nat.mul_le_mul (show i≤100 by omega) hc
    omega
   refine SX.goM ?_;refine W.next (k+1) h2 (by omega) (by
    have e2:(ku c val i++zZ val i k).flatMap zC++zC (val i k)=(ku c val i++zZ val i (k+1)).flatMap zC:=by
     rw[ahu,←List.append_assoc,List.flatMap_append (xs:=ku c val i++zZ val i k)];simp
    refine SX.St.bG [(100,some 34)] (by intro b h;cases h) ?_ ?_ rfl
    ·repeat(first|exact trivial|refine⟨⟨_,rfl,SX.aG.same rfl⟩,?_⟩)
    ·exact⟨SX.ak.same rfl rfl,SX.ak.mK rfl rfl ⟨aA.same rfl,aA.same rfl,aA.own rfl,trivial⟩,SX.ak.row rfl rfl (by omega) e2,trivial⟩)
  ·obtain rfl:k=c:=by omega
   refine SX.goM ?_;refine W.next (i+1) h (by omega) (by
    have e2:Ent.row 27 2 (i*k+k) ((ku k val i++zZ val i k).flatMap zC)=Ent.row 27 2 ((i+1)*k) ((ku k val (i+1)).flatMap zC):=by rw[Nat.succ_mul,aa8];rfl
    refine SX.St.bG [] (by intro b h;cases h) ?_ ?_ rfl
    ·repeat(first|exact trivial|refine⟨⟨_,rfl,SX.aG.same rfl⟩,?_⟩)
    ·exact⟨SX.ak.same rfl rfl,SX.ak.same rfl rfl,SX.ak.eq rfl e2 rfl,trivial⟩)
 ·obtain rfl:i=r:=by omega
  refine SX.goM ?_;have hm:xU i c (ku c val i)=[.c (.val (.int .i64 (i:Int))),.c (.val (.int .i64 (c:Int))),.c (.sat (aM 2 (i*c) ((ku c val i).flatMap zC)))]:=by
   show [_,_,Atom.c (.sat (aM 2 (ku c val i).length _))]=_;rw[rU]
  rw[hm];refine aL.frz 100 ?_;exact qg (aj.aX rfl rfl rfl) rfl
theorem ao6{z:Int}(h1: -9223372036854775808≤z)(h2:z≤9223372036854775807):z.natAbs < WB ^ 1:=by
 rw[Nat.pow_one,bY];omega
end
section
open Go.RowKit QM SX LA
section
section
attribute [local irreducible] IntKind.wrap Go1 Reg WP aN aQ bM bI aL aC aj ah aT Sat
attribute [local irreducible] dz bU bV dA bT qv dN mf
theorem ait{r c i k:Nat}{l:List Z2}{zs:List Int}{K:Nat}{d:Z2}(hM:MZ l zs K)(hl:l.length=r*c)(hr:r≤64)(hc:c≤64)(hi:i < r)(hk:k < c)(hK:K≤1000000):
  PureOK Tryz.prog 523 [.v (.int .i64 (i:Int)),.v (.int .i64 (k:Int)),.r (bR [.val (.int .i64 (r:Int)),.val (.int .i64 (c:Int)),.sat (aF 2 z2C l)]),.r (bR [.val (.bool d.1),.sat d.2])] (.agg (q4A ((z2v (zat zs c i k)).1,(z2v (zat zs c i k)).2,d.1,d.2))):=by
 have cA:=agS hM hl hr hc hi hk hK;refine PureOK.fnF Tryz.func523 Tryz.results523 Tryz.ntmps523 rfl rfl rfl (by simp[AV.ids,AV0.ids,Atom.ids]) rfl (fun w0 T B E0 hB=>?_)
 refine SX.goM ?_;exact qg (aj.uG rfl rfl rfl) rfl
theorem ak3{r c:Nat}{l:List Z2}{zs:List Int}{K L:Nat}{d:Z2}{y:Int}(hM:MZ l zs K)(hl:l.length=r*c)(hr:r≤64)(hc:c≤64)(hd:ZQ d y L)(hy:y≠0)(hK:K≤10000)(hL:L≤10000)(hKL:K≤L):
  PureOK Tryz.prog 452 [.agg (acd r c l),.agg (z2A d)] (.tup [.agg (ahY r c (kC c (fun i k=>qv (zat zs c i k) y) r)),eNo 0]):=by
 have cF:=aeT (cells:=l.flatMap z2C) (ng.nat hr hc hl)
 haveI:=hd.zi
 have cS:=(vD (l:=z2A d) (x:=y)).h (by omega)
 have hs:¬bO y=0:=fun e=>hy ((abF y).1 e)
 have cM:=adD r c (.sat (eu 523 [] [.sat (bR [.val (.int .i64 (r:Int)),.val (.int .i64 (c:Int)),.sat (aF 2 z2C l)]),.sat (bR [.val (.bool d.1),.sat d.2])])) (fun i k=>((z2v (zat zs c i k)).1,(z2v (zat zs c i k)).2,d.1,d.2)) (fun i k=>qv (zat zs c i k) y) (max K L) (by omega) (by omega) (by omega)
  (fun i k hi hk=>FnV.clo (ait hM hl hr hc hi hk (by omega)))
  (fun i k hi hk=>by
   obtain⟨q,_,hz⟩:=hM.at hl hi hk;exact(ZQ.made hz.b).ra hd) rfl
 refine PureOK.fnF Tryz.func452 Tryz.results452 Tryz.ntmps452 rfl rfl rfl (by simp[AV.ids,AV0.ids,Atom.ids]) rfl (fun w0 T B E0 hB=>?_)
 refine SX.goM ?_;refine SX.WP.iO 2 hB rfl rfl ?_;refine SX.WP.iO 3 hB rfl rfl ?_;refine SX.WP.aB ?_;refine SX.goM ?_;exact .ok (aC.mk2 (aj.aX rfl rfl rfl) (aj.tmp rfl))
theorem zq1:ZQ (z2v 1) 1 1:=ZQ.made (by rw[Nat.pow_one,bY];decide)
theorem alp{r c:Nat}{l:List Z2}{zs:List Int}{K:Nat}(hM:MZ l zs K)(hl:l.length=r*c)(hr:r≤64)(hc:c≤64)(hK:K≤10000)(hK1:1≤K):
  PureOK Tryz.prog 370 [.agg (acd r c l)] (.tup [.agg (ahY r c (kC c (fun i k=>qv (zat zs c i k) 1) r)),eNo 0]):=by
 have o1:=ajt;have cO:=ak3 hM hl hr hc (zq1.mono hK1) (by decide) hK hK (Nat.le_refl _)
 refine PureOK.fnF Tryz.func370 Tryz.results370 Tryz.ntmps370 rfl rfl rfl (by simp[AV.ids,AV0.ids,Atom.ids]) rfl (fun w0 T B E0 hB=>?_)
 refine SX.goM ?_;exact .ok (aC.mk2 (aj.aX rfl rfl rfl) (aj.tmp rfl))
end
end
section
def awV:List Rat:=kC 2 (fun i k=>qv (zat (ku 2 (zat [1,2,3,4] 2) 2) 2 i k) 1) 2
section
attribute [local irreducible] IntKind.wrap Go1 Reg WP aN aQ bM bI aL aC aj ah aT Sat
attribute [local irreducible] dz bU bV dA bT qv dN mf awV
end
end
end
end Go.Proofs.YtegehclknhmkgaaGreatDoor