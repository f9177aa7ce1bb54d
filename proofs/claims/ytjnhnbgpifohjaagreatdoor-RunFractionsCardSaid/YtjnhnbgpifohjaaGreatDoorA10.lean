import Derived.Test.YtjnhnbgpifohjaaGreatDoorA9
set_option linter.unusedVariables false
set_option linter.unusedSimpArgs false
open Go.Proofs.Tryz
namespace Go.Proofs.YtjnhnbgpifohjaaGreatDoor
section
open Go.RowKit QM SX
attribute [local irreducible] IntKind.wrap Go1 Reg WP aR aU bR bO aN aF ak aj aY Sat
attribute [local irreducible] bS dn cK dD dh qv bW mf
theorem aiL{f:FuncId}{E:Env}{S:Nat→Prop}{w:World}{v:Value}(h:(AV.it (.one (.clo f []))).has E S w v):(AV.it (.one (.c (.sat (dO f [] []))))).has E S w v:=
 ⟨[],[],h,trivial,trivial⟩
theorem anc(i k:Nat):ah prog 45 [.v (.int .i64 (i:Int)),.v (.int .i64 (k:Int))] (.agg (q4A (q4v (idv i k)))):=by
 refine ah.fnF func45 results45 ntmps45 rfl rfl rfl (by simp[AV.ids,AV0.ids,Atom.ids]) rfl (fun w0 T B E0 hB=>?_)
 by_cases h:i=k
 ·rw[show idv i k=1 from if_pos h]
  have h':(i:Int)=(k:Int):=by omega
  refine SX.goM ?_;exact kR (ak.mZ rfl rfl rfl) rfl
 ·rw[show idv i k=0 from if_neg h]
  have h':¬(i:Int)=(k:Int):=by omega
  refine SX.goM ?_;exact kR (ak.mZ rfl rfl rfl) rfl
theorem ady(i k:Nat):RB (idv i k) 1:=by
 unfold idv;split
 ·exact RB.one (Nat.le_refl 1)
 ·exact RB.zero (Nat.le_refl 1)
theorem ali{M:List (List Rat)}{cols:Nat}{ps:List Nat}{r c:Nat}{y:Rep}{i k:Nat}{row:List Rat}{v:Rat}(hi:M[i]? =some row)(hk:row[c+k]? =some v)(hc:c≤100)(hk2:k≤100):
  ah prog 48 [.v (.int .i64 (i:Int)),.v (.int .i64 (k:Int)),.r (bJ [.sat (wkP M cols ps)]),.r (bJ [.val (.int .i64 (r:Int)),.val (.int .i64 (c:Int)),.sat y])] (.agg (q4A (q4v v))):=by
 have h1:i < M.length:=by
  rcases Nat.lt_or_ge i M.length with h|h
  ·exact h
  ·rw[List.getElem?_eq_none h]at hi;cases hi
 have h2:c+k < row.length:=by
  rcases Nat.lt_or_ge (c+k) row.length with h|h
  ·exact h
  ·rw[List.getElem?_eq_none h]at hk;cases hk
 refine ah.fnF func48 results48 ntmps48 rfl rfl rfl (by simp[AV.ids,AV0.ids,Atom.ids]) rfl (fun w0 T B E0 hB=>?_)
 refine SX.goM ?_;exact kR (ak.mZ rfl rfl rfl) rfl
theorem tX{r c:Int}{l:List Q4}(h:¬(iO r c l.length∧r=c)):ah prog 10 [.agg (ane r c l)] (.tup [.agg agQ,eNo 2]):=by
 by_cases hf:iO r c l.length
 ·have h2:¬r=c:=fun e=>h ⟨hf,e⟩
  have cF:=(lZ r c (n:=l.length) (cells:=l.flatMap q4C)).h trivial;rw[decide_eq_true (show 0≤r∧r≤64∧0≤c∧c≤64∧(l.length:Int)=r*c from hf)]at cF
  refine ah.fnF func10 results10 ntmps10 rfl rfl rfl (by simp[AV.ids,AV0.ids,Atom.ids]) rfl (fun w0 T B E0 hB=>?_)
  refine SX.goM ?_;exact .ok (aF.mk2 (ak.aX rfl rfl rfl) (ak.tmp rfl))
 ·have cF:=amD (cells:=l.flatMap q4C) hf;refine ah.fnF func10 results10 ntmps10 rfl rfl rfl (by simp[AV.ids,AV0.ids,Atom.ids]) rfl (fun w0 T B E0 hB=>?_)
  refine SX.goM ?_;exact .ok (aF.mk2 (ak.aX rfl rfl rfl) (ak.tmp rfl))
theorem xI{n:Nat}{l:List Q4}{vs:List Rat}{K:Nat}(hM:MV l vs K)(hl:l.length=n*n)(hr:n≤64)(hK1:1≤K)(hkb:∀k,k < n→kb K k≤49000)(hkc:kb K n≤400000):
  ah prog 10 [.agg (iE n n l)] (if(rdP n n n (vat vs n) idv).length < n then .tup [.agg agQ,eNo 3]else .tup [.agg (pE n n (fV n (fun i k=>rdM n n n (vat vs n) idv i (n+k)) n)),eNo 0]):=by
 have hK:K≤400000:=Nat.le_trans (aiE n K) hkc;have cF:=oo (cells:=l.flatMap q4C) hl hr hr;have hRB:=ahk (hM.rb hK1) hK1 n;have hRW:RW (bgM n n (vat vs n) idv n) (n+n) K:=afH (fun i k _ _=>hRB i k) (fun i k _ _=>(ady i k).mono hK1)
 have hlt:(fV n idv n).length=n*n:=iZ n;have cB:=amN (r:=n) (c:=n) (MV.made (acX (c:=n) (r:=n) fun i k _ _=>ady i k)) (by rw[zq5];exact hlt) hr hr (by omega)
 have cR:ah prog 44 [.agg (iT n n (aA 4 q4C l)),.agg (iT n n (aA 4 q4C ((fV n idv n).map q4v)))] (.r (wkP (red n n n (vat vs n) idv).1 n (rdP n n n (vat vs n) idv))):=xG n n n n (aA 4 q4C l) (aA 4 q4C ((fV n idv n).map q4v)) (vat vs n) idv K (by omega) (by omega) (by omega) (amN hM hl hr hr (by omega)) (fun i k hi hk=>by
  have h:=cB i k hi hk;rw[apo hi hk]at h;exact h) hRW hkb
 have cI:ah prog 41 [.v (.int .i64 (n:Int)),.v (.int .i64 (n:Int)),.it (.one (.clo 45 []))] (.agg (iE n n ((fV n idv n).map q4v))):=by
  have h:=nJ n n (.sat (dO 45 [] [])) (fun i k=>q4v (idv i k)) idv 1 (by omega) (by omega) (by omega) (fun i k _ _=>FnV.const (anc i k)) (fun i k _ _=>(ady i k).ra) rfl
  rw[nA]at h;refine weakArgs h fun E S w vs hv=>?_
  match vs,hv with
  |[u1,u2,u3],⟨h1,h2,h3,_⟩=>exact⟨h1,h2,aiL h3,trivial⟩
 have cM:=nJ n n (.sat (dO 48 [] [.sat (bJ [.sat (wkP (red n n n (vat vs n) idv).1 n (rdP n n n (vat vs n) idv))]),.sat (bJ [.val (.int .i64 (n:Int)),.val (.int .i64 (n:Int)),.sat (aA 4 q4C l)])])) (fun i k=>q4v (rdM n n n (vat vs n) idv i (n+k))) (fun i k=>rdM n n n (vat vs n) idv i (n+k)) (kb K n) (by omega) (by omega) (by omega)
  (fun i k hi hk=>by
   obtain⟨row,h1,_,h3⟩:=adh (r:=n) (c:=n) (d:=n) (va:=vat vs n) (vb:=idv) hi;exact FnV.clo (ali h1 (h3 (n+k) (by omega)) (by omega) (by omega))) (fun i k hi hk=>(afQ hRW hi (by omega)).ra) rfl
 generalize rdP n n n (vat vs n) idv=ps at*;generalize (red n n n (vat vs n) idv).1=M at*;by_cases hp:ps.length < n
 ·rw[if_pos hp];refine ah.fnF func10 results10 ntmps10 rfl rfl rfl (by simp[AV.ids,AV0.ids,Atom.ids]) rfl (fun w0 T B E0 hB=>?_)
  refine SX.goM ?_;exact .ok (aF.mk2 (ak.aX rfl rfl rfl) (ak.tmp rfl))
 ·rw[if_neg hp];refine ah.fnF func10 results10 ntmps10 rfl rfl rfl (by simp[AV.ids,AV0.ids,Atom.ids]) rfl (fun w0 T B E0 hB=>?_)
  refine SX.goM ?_;refine SX.WP.fP 4 hB rfl rfl ?_;refine SX.WP.fP 1 hB rfl rfl ?_;refine SX.WP.aD ?_;refine SX.goM ?_;exact .ok (aF.mk2 (ak.aX rfl rfl rfl) (ak.tmp rfl))
abbrev gW:=Bool×List Nat×Bool×List Nat
abbrev rq(x:gW):Q4:=(x.1,dM x.2.1,x.2.2.1,dM x.2.2.2)
def rqv(x:gW):Rat:=qv (sgn x.1 (nval WB x.2.1)) (sgn x.2.2.1 (nval WB x.2.2.2))
def RSm(l:List gW):Prop:=∀x∈l,Sm WB x.2.1∧Sm WB x.2.2.2
def anx(l:List gW)(K:Nat):Prop:=∀x∈l,x.2.1.length≤K∧x.2.2.2.length≤K
theorem MV.raw{l:List gW}{K:Nat}(hs:RSm l)(hl:anx l K):MV (l.map rq) (l.map rqv) K:=by
 refine⟨by rw[zq5,zq5],fun i q v hq hv=>?_⟩
 rw[List.getElem?_map]at hq hv
 cases hx:l[i]? with
 |none=>rw[hx]at hq;cases hq
 |some x=>
  rw[hx]at hq hv;cases hq;cases hv;have h1:=hs x (zq4 hx);have h2:=hl x (zq4 hx);exact Ra.raw ⟨acg h1.1 (Nat.le_refl _)⟩ ⟨acg h1.2 (Nat.le_refl _)⟩ h2.1 h2.2
theorem xQ(r c:Int){n:Nat}{cells:List CA}:ah prog 7 [.agg [.c (.val (.int .i64 r)),.c (.val (.int .i64 c)),.c (.sat (aL 4 n cells))]] (.v (.bool (decide (0≤r∧r≤64∧0≤c∧c≤64∧(n:Int)=r*c)))):=by
 refine ah.fnF func7 results7 ntmps7 rfl rfl rfl (by simp[AV.ids,AV0.ids,Atom.ids]) rfl (fun w0 T B E0 hB=>?_)
 by_cases h1:r≥0
 ·by_cases h2:r≤64
  ·by_cases h3:c≥0
   ·by_cases h4:c≤64
    ·have hp:0≤r*c:=Int.mul_nonneg h1 h3;have hp2:r*c≤64*64:=Int.mul_le_mul h2 h4 h3 (by decide)
     refine SX.goM ?_;refine aP ?_;rw[decide_eq_decide];exact⟨fun h=>⟨h1,h2,h3,h4,h⟩,fun h=>h.2.2.2.2⟩
    ·refine SX.goM ?_;refine aP ?_;exact(decide_eq_false fun h=>h4 h.2.2.2.1).symm
   ·refine SX.goM ?_;refine aP ?_;exact(decide_eq_false fun h=>h3 h.2.2.1).symm
  ·refine SX.goM ?_;refine aP ?_;exact(decide_eq_false fun h=>h2 h.2.1).symm
 ·refine SX.goM ?_;refine aP ?_;exact(decide_eq_false fun h=>h1 h.1).symm
theorem asN{r c:Int}{n:Nat}{cells:List CA}(h:iO r c n):ah prog 7 [.agg [.c (.val (.int .i64 r)),.c (.val (.int .i64 c)),.c (.sat (aL 4 n cells))]] (.v (.bool true)):=by
 have h2:=xQ r c (n:=n) (cells:=cells);rw[decide_eq_true (show 0≤r∧r≤64∧0≤c∧c≤64∧(n:Int)=r*c from h)]at h2
 exact h2
theorem aqU{r c:Int}{n:Nat}{cells:List CA}(h:¬iO r c n):ah prog 7 [.agg [.c (.val (.int .i64 r)),.c (.val (.int .i64 c)),.c (.sat (aL 4 n cells))]] (.v (.bool false)):=by
 have h2:=xQ r c (n:=n) (cells:=cells);rw[decide_eq_false (show¬(0≤r∧r≤64∧0≤c∧c≤64∧(n:Int)=r*c)from h)]at h2
 exact h2
def adP(r c:Int)(l:List gW)(s w:Int):Prop:=(∀k x,k < 100→l[k]? =some x→(x.2.1.length:Int)≤w∧(x.2.2.2.length:Int)≤w)∧r≤s∧c≤s∧l.length≤100
theorem aoW(r c:Int)(l:List gW)(s w:Int):
  (adP r c l s w→ah prog 6 [.agg (ane r c (l.map rq)),.v (.int .i64 s),.v (.int .i64 w)] (.v (.bool true)))∧
  (¬adP r c l s w→ah prog 6 [.agg (ane r c (l.map rq)),.v (.int .i64 s),.v (.int .i64 w)] (.v (.bool false))):=by
 have hlen:(l.map rq).length=l.length:=zq5 _;have key:∀(goal:Bool),(goal=true↔adP r c l s w)→ah prog 6 [.agg (ane r c (l.map rq)),.v (.int .i64 s),.v (.int .i64 w)] (.v (.bool goal)):=by
  intro goal hg;refine ah.fnF func6 results6 ntmps6 rfl rfl rfl (by simp[AV.ids,AV0.ids,Atom.ids]) rfl (fun w0 T B E0 hB=>?_)
  refine SX.goM ?_;refine W.loop (fun k=>k≤l.length∧k≤100∧∀j x,j < k→l[j]? =some x→(x.2.1.length:Int)≤w∧(x.2.2.2.length:Int)≤w) (fun k=>[(1,.v (.int .i64 s)),(2,.v (.int .i64 w)),(3,.ptr 3 0),(7,.v (.int .i64 (k:Int)))]) (fun k=>[(3,.box 24 (ane r c (l.map rq)))]) (fun k=>l.length - k) 0 ⟨Nat.zero_le _,Nat.zero_le _,fun j x h=>absurd h (Nat.not_lt_zero _)⟩ (fun k ⟨hk,hk2,he⟩=>?_)
  by_cases h:k < l.length
  ·have h':k < (l.map rq).length:=by omega
   by_cases h2:k < 100
   ·obtain⟨x,hx⟩:∃x,l[k]? =some x:=⟨_,zq2 h⟩
    have hq:(l.map rq)[k]? =some (rq x):=by rw[List.getElem?_map,hx];rfl
    have cF:=(apj x.1 x.2.1 x.2.2.1 x.2.2.2 w).h trivial;by_cases h3:(x.2.1.length:Int)≤w∧(x.2.2.2.length:Int)≤w
    ·rw[decide_eq_true h3]at cF;refine SX.goM ?_;refine W.next (k+1) ⟨h,h2,fun j b hj hb=>?_⟩ (by omega)
     by_cases hjk:j < k
     ·exact he j b hjk hb
     ·obtain rfl:j=k:=by omega
      rw[hx]at hb;rw[←Option.some.inj hb];exact h3
    ·rw[decide_eq_false h3]at cF;refine SX.goM ?_;refine aP ?_;exact(Bool.eq_false_iff.2 fun ht=>h3 ((hg.1 ht).1 k x h2 hx)).symm
   ·obtain rfl:k=100:=by omega
    have hno:¬(l.map rq).length≤100:=by omega
    by_cases h3:r≤s
    ·by_cases h4:c≤s
     ·refine SX.goM ?_;refine aP ?_;rw[Bool.eq_iff_iff,hg,decide_eq_true_iff];exact⟨fun h=>by omega,fun h=>by have:=h.2.2.2;omega⟩
     ·refine SX.goM ?_;refine aP ?_;exact(Bool.eq_false_iff.2 fun ht=>h4 (hg.1 ht).2.2.1).symm
    ·refine SX.goM ?_;refine aP ?_;exact(Bool.eq_false_iff.2 fun ht=>h3 (hg.1 ht).2.1).symm
  ·obtain rfl:k=l.length:=by omega
   have h':¬l.length < (l.map rq).length:=by omega
   have all:∀k x,k < 100→l[k]? =some x→(x.2.1.length:Int)≤w∧(x.2.2.2.length:Int)≤w:=fun j x hj hx=>by
    have hjl:j < l.length:=by
     rcases Nat.lt_or_ge j l.length with h|h
     ·exact h
     ·rw[List.getElem?_eq_none h]at hx;cases hx
    exact he j x hjl hx
   by_cases h3:r≤s
   ·by_cases h4:c≤s
    ·refine SX.goM ?_;refine aP ?_;rw[Bool.eq_iff_iff,hg,decide_eq_true_iff];exact⟨fun h=>⟨all,h3,h4,by omega⟩,fun h=>by have:=h.2.2.2;omega⟩
    ·refine SX.goM ?_;refine aP ?_;exact(Bool.eq_false_iff.2 fun ht=>h4 (hg.1 ht).2.2.1).symm
   ·refine SX.goM ?_;refine aP ?_;exact(Bool.eq_false_iff.2 fun ht=>h3 (hg.1 ht).2.1).symm
 exact⟨fun h=>key true ⟨fun _=>h,fun _=>rfl⟩,fun h=>key false ⟨fun h=>(by cases h),fun h2=>absurd h2 h⟩⟩
end
section
open Go.RowKit QM SX LA
attribute [local irreducible] IntKind.wrap Go1 Reg WP aR aU bR bO aN aF ak aj aY Sat
attribute [local irreducible] bS dn cK dD dh qv bW mf
section
section
variable{l l':List Atom}{v:Rat}{K K':Nat}
end
theorem of_1:ah prog 18 [.v (.int .i64 1)] (.agg (zN 1)):=ad8.h ⟨by decide,by decide⟩
theorem u7{α:Type}{l:List α}{i:Nat}{a:α}(h:l[i]? =some a):i < l.length:=by
 rcases Nat.lt_or_ge i l.length with h2|h2
 ·exact h2
 ·rw[List.getElem?_eq_none h2]at h;cases h
end
abbrev Z2:=Bool×Rep
abbrev z2A(q:Z2):List Atom:=[.c (.val (.bool q.1)),.c (.sat q.2)]
abbrev z2C(q:Z2):List CA:=[.val (.bool q.1),.sat q.2]
instance:dH z2C 2:=⟨fun _=>rfl⟩
abbrev zC(z:Int):List CA:=[.val (.bool (decide (z < 0))),.sat (bI z.natAbs)]
instance:dH zC 2:=⟨fun _=>rfl⟩
abbrev z2v(z:Int):Z2:=(decide (z < 0),bI z.natAbs)
structure ZQ(q:Z2)(z:Int)(K:Nat):Prop where
 h:∃n k,z=sgn q.1 n∧NI (.sat q.2) n k∧k≤K
 b:z.natAbs < WB ^ K
theorem NI.le{a:CA}{n k K:Nat}(x:NI a n k)(hK:k≤K):NI a n K:=⟨fun S w v h=>by
 obtain⟨l,h1,h2,h3⟩:=uJ.1 (x.p S w v h);exact uJ.2 ⟨l,h1,Nat.le_trans h2 hK,h3⟩⟩
theorem ZQ.zi{q:Z2}{z:Int}{K:Nat}(h:ZQ q z K):ZI (z2A q) z K:=by
 obtain⟨n,k,h1,h2,h3⟩:=h.h;exact h1▸ZI.mk' (neg:=q.1) (h2.le h3)
theorem air(z:Int):sgn (decide (z < 0)) z.natAbs=z:=by
 unfold sgn;by_cases h:z < 0
 ·rw[decide_eq_true h];simp;omega
 ·rw[decide_eq_false h];simp;omega
theorem ZQ.made{z:Int}{K:Nat}(h:z.natAbs < WB ^ K):ZQ (z2v z) z K:=
 ⟨⟨z.natAbs,K,(air z).symm,NI.acC h,Nat.le_refl _⟩,h⟩
theorem ZQ.raw{b:Bool}{l:List Nat}{K:Nat}(hs:Sm WB l)(hl:l.length≤K):ZQ (b,dM l) (sgn b (nval WB l)) K:=
 ⟨⟨_,_,rfl,NI.raw l,hl⟩,by
  have h1:(sgn b (nval WB l)).natAbs=nval WB l:=by unfold sgn;split <;> omega
  rw[h1];exact Nat.lt_of_lt_of_le (acg hs (Nat.le_refl _)) (Nat.pow_le_pow_right aS hl)⟩
theorem ZQ.mono{q:Z2}{z:Int}{K L:Nat}(h:ZQ q z K)(hK:K≤L):ZQ q z L:=by
 obtain⟨n,k,h1,h2,h3⟩:=h.h;exact⟨⟨n,k,h1,h2,by omega⟩,Nat.lt_of_lt_of_le h.b (Nat.pow_le_pow_right aS hK)⟩
theorem ZQ.ra{q d:Z2}{z y:Int}{K L:Nat}(h:ZQ q z K)(k:ZQ d y L):Ra (q4A (q.1,q.2,d.1,d.2)) (qv z y) (max K L):=by
 exact⟨_,_,_,_,z,y,K,L,rfl,h.zi,k.zi,by omega,by omega,⟨h.b⟩,⟨k.b⟩,rfl⟩
structure MZ(l:List Z2)(zs:List Int)(K:Nat):Prop where
 len:l.length=zs.length
 z:∀(i:Nat) q z,l[i]? =some q→zs[i]? =some z→ZQ q z K
abbrev acG(r c:Nat)(l:List Z2):List Atom:=[.c (.val (.int .i64 (r:Int))),.c (.val (.int .i64 (c:Int))),.c (.sat (aA 2 z2C l))]
abbrev sD(r c:Nat)(l:List Int):List Atom:=[.c (.val (.int .i64 (r:Int))),.c (.val (.int .i64 (c:Int))),.c (.sat (aA 2 zC l))]
def zat(zs:List Int)(c i k:Nat):Int:=zs.getD (i*c+k) 0
theorem adx{zs:List Int}{r c i k:Nat}(hl:zs.length=r*c)(hi:i < r)(hk:k < c):zs[i*c+k]? =some (zat zs c i k):=by
 have h:=zA hi hk;unfold zat;rw[zq3,zq2 (by omega)];rfl
theorem MZ.at{r c i k K:Nat}{l:List Z2}{zs:List Int}(hM:MZ l zs K)(hl:l.length=r*c)(hi:i < r)(hk:k < c):∃q,l[i*c+k]? =some q∧ZQ q (zat zs c i k) K:=by
 have h:=zA hi hk;obtain⟨q,hq⟩:∃q,l[i*c+k]? =some q:=⟨_,zq2 (by omega)⟩
 exact⟨q,hq,hM.z _ _ _ hq (adx (by rw[←hM.len];exact hl) hi hk)⟩
theorem acf(r c:Nat)(l:List Int):sD r c l=acG r c (l.map z2v):=by
 have e:aA 2 zC l=aA 2 z2C (l.map z2v):=by
  show aL 2 l.length (l.flatMap zC)=aL 2 (l.map z2v).length ((l.map z2v).flatMap z2C);rw[zq5,List.flatMap_map]
 unfold sD acG;rw[e]
theorem MZ.made{zs:List Int}{K:Nat}(h:∀z∈zs,z.natAbs < WB ^ K):MZ (zs.map z2v) zs K:=by
 refine⟨zq5 _,fun i q z hq hz=>?_⟩
 rw[List.getElem?_map,hz]at hq
 cases hq;exact ZQ.made (h z (zq4 hz))
instance rM(n:Int):Con prog 120 [.v (.int .i64 n)] True (.v (.bool (decide (0≤n∧n≤64)))):=⟨fun _=>by
 refine ah.fnF func120 results120 ntmps120 rfl rfl rfl (by simp[AV.ids,AV0.ids,Atom.ids]) rfl (fun w0 T B E0 hB=>?_)
 by_cases h1:n≥0
 ·by_cases h2:n≤64
  ·refine SX.goM ?_;refine aP ?_;rw[decide_eq_true (show 0≤n∧n≤64 from ⟨h1,h2⟩)];exact decide_eq_true h2
  ·refine SX.goM ?_;refine aP ?_;rw[decide_eq_false (show¬(0≤n∧n≤64)from fun h=>h2 h.2)];exact decide_eq_false h2
 ·refine SX.goM ?_;refine aP ?_;rw[decide_eq_false (show¬(0≤n∧n≤64)from fun h=>h1 h.1)]⟩
theorem aeQ(r c:Int){n:Nat}{cells:List CA}(goal:Bool)(hg:goal=true↔iO r c n):ah prog 105 [.agg [.c (.val (.int .i64 r)),.c (.val (.int .i64 c)),.c (.sat (aL 2 n cells))]] (.v (.bool goal)):=by
 have s1:=(rM r).h trivial;have s2:=(rM c).h trivial;refine ah.fnF func105 results105 ntmps105 rfl rfl rfl (by simp[AV.ids,AV0.ids,Atom.ids]) rfl (fun w0 T B E0 hB=>?_)
 by_cases h1:0≤r∧r≤64
 ·rw[decide_eq_true h1]at s1;by_cases h2:0≤c∧c≤64
  ·rw[decide_eq_true h2]at s2;have hp:0≤r*c:=Int.mul_nonneg h1.1 h2.1;have hp2:r*c≤64*64:=Int.mul_le_mul h1.2 h2.2 h2.1 (by decide)
   refine SX.goM ?_;refine aP ?_;rw[Bool.eq_iff_iff,hg,decide_eq_true_iff];exact⟨fun h=>⟨h1.1,h1.2,h2.1,h2.2,h⟩,fun h=>h.2.2.2.2⟩
  ·rw[decide_eq_false h2]at s2;refine SX.goM ?_;refine aP ?_;exact(Bool.eq_false_iff.2 fun ht=>h2 ⟨(hg.1 ht).2.2.1,(hg.1 ht).2.2.2.1⟩).symm
 ·rw[decide_eq_false h1]at s1;refine SX.goM ?_;refine aP ?_;exact(Bool.eq_false_iff.2 fun ht=>h1 ⟨(hg.1 ht).1,(hg.1 ht).2.1⟩).symm
theorem ag4{r c:Int}{n:Nat}{cells:List CA}(h:iO r c n):ah prog 105 [.agg [.c (.val (.int .i64 r)),.c (.val (.int .i64 c)),.c (.sat (aL 2 n cells))]] (.v (.bool true)):=aeQ r c true ⟨fun _=>h,fun _=>rfl⟩
theorem iO.nat{r c n:Nat}(hr:r≤64)(hc:c≤64)(h:n=r*c):iO r c n:=⟨by omega,by omega,by omega,by omega,by rw[h];simp⟩
theorem al5{r c i k:Nat}{l:List Z2}{q:Z2}(hq:l[i*c+k]? =some q)(hi:i≤1000)(hc:c≤1000)(hk:k≤1000):
  ah prog 304 [.agg (acG r c l),.v (.int .i64 (i:Int)),.v (.int .i64 (k:Int))] (.agg (z2A q)):=by
 have hb:=Nat.mul_le_mul hi hc;have hlt:=u7 hq;refine ah.fnF func304 results304 ntmps304 rfl rfl rfl (by simp[AV.ids,AV0.ids,Atom.ids]) rfl (fun w0 T B E0 hB=>?_)
 refine SX.goM ?_;exact kR (ak.iV rfl rfl rfl) rfl
theorem aol{r c i:Nat}{l:List Z2}(h:i < r):ah prog 303 [.agg (acG r c l),.v (.int .i64 (i:Int))] (.v (.bool true)):=by
 refine ah.fnF func303 results303 ntmps303 rfl rfl rfl (by simp[AV.ids,AV0.ids,Atom.ids]) rfl (fun w0 T B E0 hB=>?_)
 refine SX.goM ?_;refine aP ?_;exact decide_eq_true (by omega)
theorem aha{q:Z2}{z:Int}{K:Nat}(h:ZQ q z K)(hK:K≤1000000):ah prog 50 [.it (.one (.c (.sat q.2))),.v (.bool q.1)] (.agg (zN z)):=by
 obtain⟨n,k,h1,h2,h3⟩:=h.h;rw[h1];exact abQ (h:=h2) q.1 |>.h (by omega)
theorem ahU{r c i k:Nat}{l:List Z2}{zs:List Int}{K:Nat}(hM:MZ l zs K)(hl:l.length=r*c)(hr:r≤64)(hc:c≤64)(hi:i < r)(hk:k < c)(hK:K≤1000000):
  ah prog 202 [.agg (acG r c l),.v (.int .i64 (i:Int)),.v (.int .i64 (k:Int))] (.agg (zN (zat zs c i k))):=by
 obtain⟨q,hq,hz⟩:=hM.at hl hi hk;have cg:=al5 (r:=r) hq (by omega) (by omega) (by omega)
 have ch:=aol (c:=c) (l:=l) hi;have cF:=ag4 (cells:=l.flatMap z2C) (iO.nat hr hc hl);have cR:=aha hz hK;refine ah.fnF func202 results202 ntmps202 rfl rfl rfl (by simp[AV.ids,AV0.ids,Atom.ids]) rfl (fun w0 T B E0 hB=>?_)
 refine SX.goM ?_;exact kR (ak.iV rfl rfl rfl) rfl
def kV(c:Nat)(val:Nat→Nat→Int)(i:Nat):List Int:=(List.range i).flatMap fun i=>(List.range c).map (val i)
theorem ajt{c:Nat}{val:Nat→Nat→Int}:kV c val 0=[]:=rfl
theorem abS{c i:Nat}{val:Nat→Nat→Int}:kV c val (i+1)=kV c val i++(List.range c).map (val i):=by
 unfold kV;rw[List.range_succ,List.flatMap_append];simp
theorem uQ{c:Nat}{val:Nat→Nat→Int}:∀i,(kV c val i).length=i*c
 |0=>by simp[ajt]
 |i+1=>by rw[abS,List.length_append,uQ i];simp[Nat.succ_mul]
theorem apL{c r K:Nat}{val:Nat→Nat→Int}(h:∀i k,i < r→k < c→(val i k).natAbs < WB ^ K):∀v∈kV c val r,v.natAbs < WB ^ K:=by
 intro v hv;unfold kV at hv;obtain⟨i,hi,hv⟩:=List.mem_flatMap.1 hv;obtain⟨k,hk,rfl⟩:=List.mem_map.1 hv;exact h i k (List.mem_range.1 hi) (List.mem_range.1 hk)
def aaV(val:Nat→Nat→Int)(i k:Nat):List Int:=(List.range k).map (val i)
theorem akw{val:Nat→Nat→Int}{i k:Nat}:aaV val i (k+1)=aaV val i k++[val i k]:=by
 unfold aaV;rw[List.range_succ,List.map_append];rfl
theorem aj5(r c:Nat)(x:CA)(L:Nat→Nat→Z2)(val:Nat→Nat→Int)(K:Nat)(hr:r≤100)(hc:c≤100)(hK:K≤1000000)
  (hx:∀i k,i < r→k < c→FnV prog x [.v (.int .i64 (i:Int)),.v (.int .i64 (k:Int))] (.agg (z2A (L i k)))) (hL:∀i k,i < r→k < c→ZQ (L i k) (val i k) K) (hx1:x.dL=true):
  ah prog 121 [.v (.int .i64 (r:Int)),.v (.int .i64 (c:Int)),.it (.one (.c x))] (.agg (sD r c (kV c val r))):=by
 refine ah.fnF func121 results121 ntmps121 rfl rfl rfl (by simp[AV.ids,AV0.ids,Atom.ids]) rfl (fun w0 T B E0 hB=>?_)
 refine SX.goM ?_;refine W.loop (fun i=>i≤r) (fun i=>[(1,.v (.int .i64 (c:Int))),(2,.it (.one (.c x))),(6,.ptr 6 0),(7,.ptr 7 0),(14,.v (.int .i64 (r:Int))),(15,.v (.int .i64 (i:Int)))]) (fun i=>[(6,.box 51 [.c (.val (.int .i64 0)),.c (.val (.int .i64 0)),.c (.val (.slice none 0 0))]),(7,.box 51 [.c (.val (.int .i64 (r:Int))),.c (.val (.int .i64 (c:Int))),.own 100]),(100,.row 31 2 (i*c) ((kV c val i).flatMap zC))]) (fun i=>r - i) 0 (Nat.zero_le _) (fun i hi=>?_)
  (by
   refine SX.St.aZ [(100,none)] (by intro b h;cases h) ?_ ?_ rfl
   ·repeat(first|exact trivial|refine⟨⟨_,rfl,SX.aG.same rfl⟩,?_⟩)
   ·exact⟨SX.ay.same rfl rfl,SX.ay.mo rfl rfl ⟨aB.same rfl,aB.same rfl,aB.nil rfl,trivial⟩,by rw[Nat.zero_mul];exact SX.ay.dF rfl,trivial⟩)
 by_cases h:i < r
 ·refine SX.goM ?_;refine W.loop (fun k=>k≤c) (fun k=>[(1,.v (.int .i64 (c:Int))),(2,.it (.one (.c x))),(6,.ptr 6 0),(7,.ptr 7 0),(8,.v (.int .i64 (i:Int))),(14,.v (.int .i64 (r:Int))),(15,.v (.int .i64 (i:Int))),(18,.v (.int .i64 (c:Int))),(19,.v (.int .i64 (k:Int)))]) (fun k=>[(6,.box 51 [.c (.val (.int .i64 0)),.c (.val (.int .i64 0)),.c (.val (.slice none 0 0))]),(7,.box 51 [.c (.val (.int .i64 (r:Int))),.c (.val (.int .i64 (c:Int))),.own 100]),(100,.row 31 2 (i*c+k) ((kV c val i++aaV val i k).flatMap zC))]) (fun k=>c - k) 0 (Nat.zero_le _) (fun k hk=>?_)
   (by
    have e:Ent.row 31 2 (i*c) ((kV c val i).flatMap zC)=Ent.row 31 2 (i*c+0) ((kV c val i++aaV val i 0).flatMap zC):=by simp[aaV]
    refine SX.St.aZ [] (by intro b h;cases h) ?_ ?_ rfl
    ·repeat(first|exact trivial|refine⟨⟨_,rfl,SX.aG.same rfl⟩,?_⟩)
    ·exact⟨SX.ay.same rfl rfl,SX.ay.same rfl rfl,SX.ay.eq rfl e rfl,trivial⟩)
  by_cases h2:k < c
  ·have hf:=hx i k h h2;have cR:=aha (hL i k h h2) hK;have hlen:i*c+k≤20000:=by
    have:=Nat.mul_le_mul (show i≤100 by omega) hc
    omega
   refine SX.goM ?_;refine W.next (k+1) h2 (by omega) (by
    have e2:(kV c val i++aaV val i k).flatMap zC++zC (val i k)=(kV c val i++aaV val i (k+1)).flatMap zC:=by
     rw[akw,←List.append_assoc,List.flatMap_append (xs:=kV c val i++aaV val i k)];simp
    refine SX.St.aZ [(100,some 34)] (by intro b h;cases h) ?_ ?_ rfl
    ·repeat(first|exact trivial|refine⟨⟨_,rfl,SX.aG.same rfl⟩,?_⟩)
    ·exact⟨SX.ay.same rfl rfl,SX.ay.mo rfl rfl ⟨aB.same rfl,aB.same rfl,aB.own rfl,trivial⟩,SX.ay.row rfl rfl (by omega) e2,trivial⟩)
  ·obtain rfl:k=c:=by omega
   refine SX.goM ?_;refine W.next (i+1) h (by omega) (by
    have e2:Ent.row 31 2 (i*k+k) ((kV k val i++aaV val i k).flatMap zC)=Ent.row 31 2 ((i+1)*k) ((kV k val (i+1)).flatMap zC):=by rw[Nat.succ_mul,abS];rfl
    refine SX.St.aZ [] (by intro b h;cases h) ?_ ?_ rfl
    ·repeat(first|exact trivial|refine⟨⟨_,rfl,SX.aG.same rfl⟩,?_⟩)
    ·exact⟨SX.ay.same rfl rfl,SX.ay.same rfl rfl,SX.ay.eq rfl e2 rfl,trivial⟩)
 ·obtain rfl:i=r:=by omega
  refine SX.goM ?_;have hm:sD i c (kV c val i)=[.c (.val (.int .i64 (i:Int))),.c (.val (.int .i64 (c:Int))),.c (.sat (aL 2 (i*c) ((kV c val i).flatMap zC)))]:=by
   show [_,_,Atom.c (.sat (aL 2 (kV c val i).length _))]=_;rw[uQ]
  rw[hm];refine aN.frz 100 ?_;exact kR (ak.aX rfl rfl rfl) rfl
theorem atw{z:Int}(h1: -9223372036854775808≤z)(h2:z≤9223372036854775807):z.natAbs < WB ^ 1:=by
 rw[Nat.pow_one,bV];omega
end
section
open Go.RowKit QM SX LA
section
section
attribute [local irreducible] IntKind.wrap Go1 Reg WP aR aU bR bO aN aF ak aj aY Sat
attribute [local irreducible] bS dn cK dD dh qv bW mf
theorem ajE{r c i k:Nat}{l:List Z2}{zs:List Int}{K:Nat}{d:Z2}(hM:MZ l zs K)(hl:l.length=r*c)(hr:r≤64)(hc:c≤64)(hi:i < r)(hk:k < c)(hK:K≤1000000):
  ah prog 288 [.v (.int .i64 (i:Int)),.v (.int .i64 (k:Int)),.r (bJ [.val (.int .i64 (r:Int)),.val (.int .i64 (c:Int)),.sat (aA 2 z2C l)]),.r (bJ [.val (.bool d.1),.sat d.2])] (.agg (q4A ((z2v (zat zs c i k)).1,(z2v (zat zs c i k)).2,d.1,d.2))):=by
 have cA:=ahU hM hl hr hc hi hk hK;refine ah.fnF func288 results288 ntmps288 rfl rfl rfl (by simp[AV.ids,AV0.ids,Atom.ids]) rfl (fun w0 T B E0 hB=>?_)
 refine SX.goM ?_;exact kR (ak.mZ rfl rfl rfl) rfl
theorem alC{r c:Nat}{l:List Z2}{zs:List Int}{K L:Nat}{d:Z2}{y:Int}(hM:MZ l zs K)(hl:l.length=r*c)(hr:r≤64)(hc:c≤64)(hd:ZQ d y L)(hy:y≠0)(hK:K≤10000)(hL:L≤10000)(hKL:K≤L):
  ah prog 182 [.agg (acG r c l),.agg (z2A d)] (.tup [.agg (pE r c (fV c (fun i k=>qv (zat zs c i k) y) r)),eNo 0]):=by
 have cF:=ag4 (cells:=l.flatMap z2C) (iO.nat hr hc hl)
 haveI:=hd.zi
 have cS:=(qZ (l:=z2A d) (x:=y)).h (by omega)
 have hs:¬bq y=0:=fun e=>hy ((ac4 y).1 e)
 have cM:=nJ r c (.sat (dO 288 [] [.sat (bJ [.val (.int .i64 (r:Int)),.val (.int .i64 (c:Int)),.sat (aA 2 z2C l)]),.sat (bJ [.val (.bool d.1),.sat d.2])])) (fun i k=>((z2v (zat zs c i k)).1,(z2v (zat zs c i k)).2,d.1,d.2)) (fun i k=>qv (zat zs c i k) y) (max K L) (by omega) (by omega) (by omega)
  (fun i k hi hk=>FnV.clo (ajE hM hl hr hc hi hk (by omega)))
  (fun i k hi hk=>by
   obtain⟨q,_,hz⟩:=hM.at hl hi hk;exact(ZQ.made hz.b).ra hd) rfl
 refine ah.fnF func182 results182 ntmps182 rfl rfl rfl (by simp[AV.ids,AV0.ids,Atom.ids]) rfl (fun w0 T B E0 hB=>?_)
 refine SX.goM ?_;refine SX.WP.fP 2 hB rfl rfl ?_;refine SX.WP.fP 3 hB rfl rfl ?_;refine SX.WP.aD ?_;refine SX.goM ?_;exact .ok (aF.mk2 (ak.aX rfl rfl rfl) (ak.tmp rfl))
theorem zq1:ZQ (z2v 1) 1 1:=ZQ.made (by rw[Nat.pow_one,bV];decide)
theorem aon{r c:Nat}{l:List Z2}{zs:List Int}{K:Nat}(hM:MZ l zs K)(hl:l.length=r*c)(hr:r≤64)(hc:c≤64)(hK:K≤10000)(hK1:1≤K):
  ah prog 94 [.agg (acG r c l)] (.tup [.agg (pE r c (fV c (fun i k=>qv (zat zs c i k) 1) r)),eNo 0]):=by
 have o1:=of_1;have cO:=alC hM hl hr hc (zq1.mono hK1) (by decide) hK hK (Nat.le_refl _)
 refine ah.fnF func94 results94 ntmps94 rfl rfl rfl (by simp[AV.ids,AV0.ids,Atom.ids]) rfl (fun w0 T B E0 hB=>?_)
 refine SX.goM ?_;exact .ok (aF.mk2 (ak.aX rfl rfl rfl) (ak.tmp rfl))
end
end
section
def awV:List Rat:=fV 2 (fun i k=>qv (zat (kV 2 (zat [1,2,3,4] 2) 2) 2 i k) 1) 2
section
attribute [local irreducible] IntKind.wrap Go1 Reg WP aR aU bR bO aN aF ak aj aY Sat
attribute [local irreducible] bS dn cK dD dh qv bW mf awV
end
end
end
end Go.Proofs.YtjnhnbgpifohjaaGreatDoor