import Derived.Test.YtegehclknhmkgaaGreatDoorS11
import Derived.Test.YtegehclknhmkgaaGreatDoorS6
set_option linter.unusedVariables false
set_option linter.unusedSimpArgs false
open Go.Proofs.Tryz
namespace Go.Proofs.YtegehclknhmkgaaGreatDoor
open Go.RowKit QM SX LA
section
def fA(p x y:Nat):Nat:=(x % p+y % p) % p
def fS(p x y:Nat):Nat:=(x % p+p - y % p) % p
def fM(p x y:Nat):Nat:=(x % p*(y % p)) % p
def nY(c:Nat)(val:Nat→Nat→Nat)(i:Nat):List Nat:=(List.range i).flatMap fun i=>(List.range c).map (val i)
theorem tabW_zero{c:Nat}{val:Nat→Nat→Nat}:nY c val 0=[]:=rfl
theorem wh{c i:Nat}{val:Nat→Nat→Nat}:nY c val (i+1)=nY c val i++(List.range c).map (val i):=by
 unfold nY;rw[List.range_succ,List.flatMap_append];simp
theorem nH{c:Nat}{val:Nat→Nat→Nat}:∀i,(nY c val i).length=i*c
 |0=>by simp[tabW_zero]
 |i+1=>by rw[wh,List.length_append,nH i];simp[Nat.succ_mul]
def rX(val:Nat→Nat→Nat)(i k:Nat):List Nat:=(List.range k).map (val i)
theorem agW{val:Nat→Nat→Nat}{i k:Nat}:rX val i (k+1)=rX val i k++[val i k]:=by
 unfold rX;rw[List.range_succ,List.map_append];rfl
abbrev ptrP(p:Nat):AV:= .r (bJ [.val (.int .u64 (p:Int))])
attribute [local irreducible] IntKind.wrap Go1 Reg WP aS aT bR bO aQ aC ak aj aX Sat
attribute [local irreducible] bT bX bY dw bZ qv dR mf PrP qOk zOk vP dQ lz vF cq rqv eY bW dL dh gD fA fS fM
theorem alB{p:Nat}(hp:PrP p)(r c:Nat)(x:CA)(val:Nat→Nat→Nat)(hr:r≤100)(hc:c≤100)
  (hx:∀i k,i < r→k < c→FnV prog x [.v (.int .i64 (i:Int)),.v (.int .i64 (k:Int))] (.v (.int .u64 (val i k:Int)))) (hL:∀i k,i < r→k < c→val i k < p) (hx1:x.dK=true):
  ah prog 354 [.agg (gfA p),.v (.int .i64 (r:Int)),.v (.int .i64 (c:Int)),.it (.one (.c x))] (.agg (fmA r c (nY c val r))):=by
 have hpl:=hp.lt;refine ah.fnF func354 results354 ntmps354 rfl rfl rfl (by simp[AV.ids,AV0.ids,Atom.ids]) rfl (fun w0 T B E0 hB=>?_)
 refine SX.goM ?_;refine W.loop (fun i=>i≤r) (fun i=>[(2,.v (.int .i64 (c:Int))),(3,.it (.one (.c x))),(4,.ptr 4 0),(8,.ptr 8 0),(9,.ptr 9 0),(15,.v (.int .i64 (r:Int))),(16,.v (.int .i64 (i:Int)))]) (fun i=>[(4,.box 117 (gfA p)),(8,.box 46 [.c (.val (.int .i64 0)),.c (.val (.int .i64 0)),.c (.val (.slice none 0 0))]),(9,.box 46 [.c (.val (.int .i64 (r:Int))),.c (.val (.int .i64 (c:Int))),.own 100]),(100,.row 44 1 (i*c) ((nY c val i).flatMap wdC))]) (fun i=>r - i) 0 (Nat.zero_le _) (fun i hi=>?_)
  (by
   refine SX.St.aY [(100,none)] (by intro b h;cases h) ?_ ?_ rfl
   ·repeat(first|exact trivial|refine⟨⟨_,rfl,SX.aG.same rfl⟩,?_⟩)
   ·exact⟨SX.ay.same rfl rfl,SX.ay.same rfl rfl,SX.ay.mh rfl rfl ⟨aD.same rfl,aD.same rfl,aD.nil rfl,trivial⟩,by rw[Nat.zero_mul];exact SX.ay.bV rfl,trivial⟩)
 by_cases h:i < r
 ·refine SX.goM ?_;refine W.loop (fun k=>k≤c) (fun k=>[(2,.v (.int .i64 (c:Int))),(3,.it (.one (.c x))),(4,.ptr 4 0),(8,.ptr 8 0),(9,.ptr 9 0),(10,.v (.int .i64 (i:Int))),(15,.v (.int .i64 (r:Int))),(16,.v (.int .i64 (i:Int))),(19,.v (.int .i64 (c:Int))),(20,.v (.int .i64 (k:Int)))]) (fun k=>[(4,.box 117 (gfA p)),(8,.box 46 [.c (.val (.int .i64 0)),.c (.val (.int .i64 0)),.c (.val (.slice none 0 0))]),(9,.box 46 [.c (.val (.int .i64 (r:Int))),.c (.val (.int .i64 (c:Int))),.own 100]),(100,.row 44 1 (i*c+k) ((nY c val i++rX val i k).flatMap wdC))]) (fun k=>c - k) 0 (Nat.zero_le _) (fun k hk=>?_)
   (by
    have e:Ent.row 44 1 (i*c) ((nY c val i).flatMap wdC)=Ent.row 44 1 (i*c+0) ((nY c val i++rX val i 0).flatMap wdC):=by simp[rX]
    refine SX.St.aY [] (by intro b h;cases h) ?_ ?_ rfl
    ·repeat(first|exact trivial|refine⟨⟨_,rfl,SX.aG.same rfl⟩,?_⟩)
    ·exact⟨SX.ay.same rfl rfl,SX.ay.same rfl rfl,SX.ay.same rfl rfl,SX.ay.eq rfl e rfl,trivial⟩)
  by_cases h2:k < c
  ·have hf:=hx i k h h2;have hl:=hL i k h h2;have cR:=lJ hp (val i k) (by omega)
   rw[Nat.mod_eq_of_lt hl]at cR;have hlen:i*c+k≤20000:=by
    have:=Nat.mul_le_mul (show i≤100 by omega) hc
    omega
   refine SX.goM ?_;refine W.next (k+1) h2 (by omega) (by
    have e2:(nY c val i++rX val i k).flatMap wdC++wdC (val i k)=(nY c val i++rX val i (k+1)).flatMap wdC:=by
     rw[agW,←List.append_assoc,List.flatMap_append (xs:=nY c val i++rX val i k)];simp
    refine SX.St.aY [(100,some 32)] (by intro b h;cases h) ?_ ?_ rfl
    ·repeat(first|exact trivial|refine⟨⟨_,rfl,SX.aG.same rfl⟩,?_⟩)
    ·exact⟨SX.ay.same rfl rfl,SX.ay.same rfl rfl,SX.ay.mh rfl rfl ⟨aD.same rfl,aD.same rfl,aD.own rfl,trivial⟩,SX.ay.row rfl rfl (by omega) e2,trivial⟩)
  ·obtain rfl:k=c:=by omega
   refine SX.goM ?_;refine W.next (i+1) h (by omega) (by
    have e2:Ent.row 44 1 (i*k+k) ((nY k val i++rX val i k).flatMap wdC)=Ent.row 44 1 ((i+1)*k) ((nY k val (i+1)).flatMap wdC):=by rw[Nat.succ_mul,wh];rfl
    refine SX.St.aY [] (by intro b h;cases h) ?_ ?_ rfl
    ·repeat(first|exact trivial|refine⟨⟨_,rfl,SX.aG.same rfl⟩,?_⟩)
    ·exact⟨SX.ay.same rfl rfl,SX.ay.same rfl rfl,SX.ay.same rfl rfl,SX.ay.eq rfl e2 rfl,trivial⟩)
 ·obtain rfl:i=r:=by omega
  refine SX.goM ?_;have hm:fmA i c (nY c val i)=[.c (.val (.int .i64 (i:Int))),.c (.val (.int .i64 (c:Int))),.c (.sat (aM 1 (i*c) ((nY c val i).flatMap wdC)))]:=by
   show [_,_,Atom.c (.sat (aM 1 (nY c val i).length _))]=_;rw[nH]
  rw[hm];refine aQ.frz 100 ?_;exact mE (ak.aZ rfl rfl rfl) rfl
section
variable{p r c:Nat}(hp:PrP p){l l':List Nat}(hl:l.length=r*c)(hr:r≤64)(hc:c≤64)(hb:∀x∈l,x < 18446744073709551616)
include hp hl hr hc hb
end
end
section
def wl(zs:List Nat):Nat→Nat
 |0=>0
 |k+1=>if zs.getD k 0=0 then wl zs k else k+1
def adA(zs:List Nat):Nat:=wl zs zs.length
def rT(zs:List Nat):List Nat:=zs.take (adA zs)
def gN(zs:List Nat):Prop:=zs.length=0∨zs.getD (zs.length - 1) 0≠0
theorem as1(zs:List Nat):∀k,wl zs k≤k
 |0=>Nat.le_refl _
 |k+1=>by unfold wl;split;exact Nat.le_succ_of_le (as1 zs k);exact Nat.le_refl _
theorem aoz(zs:List Nat):∀k,wl zs k=0∨zs.getD (wl zs k - 1) 0≠0
 |0=> .inl rfl
 |k+1=>by
  unfold wl;split
  ·exact aoz zs k
  ·next h=>exact .inr h
theorem aiE(zs:List Nat):∀(k j:Nat),wl zs k≤j→j < k→zs.getD j 0=0
 |0,j,_,h=>absurd h (Nat.not_lt_zero _)
 |k+1,j,h1,h2=>by
  unfold wl at h1
  split at h1
  ·next h=>
   by_cases hj:j=k
   ·subst hj;exact h
   ·exact aiE zs k j h1 (by omega)
  ·omega
theorem ajx(zs:List Nat):adA zs≤zs.length:=as1 zs _
theorem wR(zs:List Nat):(rT zs).length=adA zs:=by unfold rT;rw[List.length_take];exact Nat.min_eq_left (ajx zs)
theorem aas{zs:List Nat}{j:Nat}(h:zs.length≤j):zs.getD j 0=0:=by rw[zq3,List.getElem?_eq_none h];rfl
theorem afH(zs:List Nat)(j:Nat):(rT zs).getD j 0=zs.getD j 0:=by
 by_cases h:j < adA zs
 ·unfold rT;rw[zq3,List.getElem?_take,if_pos h,←zq3]
 ·rw[aas (by rw[wR];omega)]
  by_cases h2:j < zs.length
  ·exact(aiE zs _ j (by unfold adA at h;omega) h2).symm
  ·exact(aas (by omega)).symm
theorem amj(zs:List Nat):gN (rT zs):=by
 rcases aoz zs zs.length with h|h
 ·exact .inl (by rw[wR];exact h)
 ·exact .inr (by rw[wR,afH];exact h)
theorem atz{a b:List Nat}(ha:gN a)(hb:gN b)(h:∀j,a.getD j 0=b.getD j 0):a=b:=by
 have key:∀{a b:List Nat},gN a→(∀j,a.getD j 0=b.getD j 0)→a.length≤b.length:=fun {a b} ha h=>by
  rcases ha with h0|h0
  ·omega
  ·rcases Nat.lt_or_ge b.length a.length with h1|h1
   ·rw[h,aas (by omega)]at h0;exact absurd rfl h0
   ·exact h1
 have hl:a.length=b.length:=Nat.le_antisymm (key ha h) (key hb fun j=>(h j).symm)
 apply List.ext_getElem?;intro j
 by_cases hj:j < a.length
 ·have:=h j;rw[zq3,zq3,zq2 hj,zq2 (by omega)]at this
  rw[zq2 hj,zq2 (by omega)]
  exact congrArg some this
 ·rw[List.getElem?_eq_none (by omega),List.getElem?_eq_none (by omega)]
theorem ahF{zs:List Nat}(h:gN zs):rT zs=zs:=atz (amj zs) h (afH zs)
def abv(n:Nat)(f:Nat→Nat):List Nat:=(List.range n).map f
theorem kK(n:Nat)(f:Nat→Nat):(abv n f).length=n:=by unfold abv;rw[zq5,List.length_range]
theorem pR{n:Nat}{f:Nat→Nat}{k:Nat}(h:k < n):(abv n f)[k]? =some (f k):=by
 unfold abv;rw[List.getElem?_map,List.getElem?_range h];rfl
theorem amZ{n:Nat}{f g:Nat→Nat}{k:Nat}{x:Nat}(h:∀m,(if m=k then x else f m)=g m):(abv n f).set k x=abv n g:=by
 apply List.ext_getElem?
 intro j;rw[List.getElem?_set]
 by_cases hj:k=j
 ·subst hj;rw[if_pos rfl,kK];by_cases hk:k < n
  ·rw[if_pos hk,pR hk,←h k,if_pos rfl]
  ·rw[if_neg hk,List.getElem?_eq_none (by rw[kK];omega)]
 ·rw[if_neg hj];by_cases hk:j < n
  ·rw[pR hk,pR hk,←h j,if_neg (fun e=>hj e.symm)]
  ·rw[List.getElem?_eq_none (by rw[kK];omega),List.getElem?_eq_none (by rw[kK];omega)]
theorem ak0{n:Nat}{f:Nat→Nat}(h:∀m,f m=0):List.replicate n (CA.val (.int .u64 0))=(abv n f).flatMap wdC:=by
 have:abv n f=List.replicate n 0:=by
  apply List.ext_getElem?;intro j
  rw[List.getElem?_replicate]
  by_cases hj:j < n
  ·rw[pR hj,if_pos hj,h]
  ·rw[if_neg hj,List.getElem?_eq_none (by rw[kK];omega)]
 rw[this];clear this h
 induction n with
 |zero=>rfl
 |succ n ih=>rw[List.replicate_succ,List.replicate_succ,List.flatMap_cons,←ih];rfl
theorem apy(l:List Nat):l.flatMap wdC=l.map fun x:Nat=>CA.val (.int .u64 (x:Int)):=by
 induction l with
 |nil=>rfl
 |cons a l ih=>rw[List.flatMap_cons,ih];rfl
theorem auy{l:List Nat}{i x:Nat}(h:i < l.length):spl (l.flatMap wdC) (i*1) [CA.val (.int .u64 (x:Int))]=(l.set i x).flatMap wdC:=by
 rw[apy,apy,Nat.mul_one];exact ade (fun x:Nat=>CA.val (.int .u64 (x:Int))) l i x h
def nI(p:Nat)(l:List Nat):List Nat:=l.map (· % p)
theorem ajX(p:Nat)(l:List Nat):(nI p l).length=l.length:=zq5 _
theorem ae2(p:Nat)(l:List Nat)(k:Nat):(nI p l).getD k 0=l.getD k 0 % p:=by
 unfold nI;rw[zq3,zq3,List.getElem?_map]
 by_cases hk:k < l.length
 ·rw[zq2 hk];rfl
 ·rw[List.getElem?_eq_none (by omega)];exact(Nat.zero_mod p).symm
theorem agL{p:Nat}{l:List Nat}(h:∀x∈l,x < p):nI p l=l:=by
 unfold nI;have h2:l.map (· % p)=l.map id:=List.map_congr_left fun x hx=>Nat.mod_eq_of_lt (h x hx)
 rw[h2,List.map_id]
def p8(p:Nat)(l:List Nat):List Nat:=rT (nI p l)
theorem apz{n:Nat}{l:List Nat}(h:l.length=n):aA 1 wdC l=aM 1 n (l.flatMap wdC):=by subst h;rfl
attribute [local irreducible] IntKind.wrap Go1 Reg WP aS aT bR bO aQ aC ak aj aX Sat
attribute [local irreducible] bT bX bY dw bZ qv dR mf PrP qOk zOk vP dQ lz vF cq rqv eY bW dL dh gD fA fS fM adA rT nI
set_option maxRecDepth 20000 in
set_option maxHeartbeats 2000000 in
theorem al2{p:Nat}(hp:PrP p){l:List Nat}(hl:l.length≤100000)(hb:∀x∈l,x < 18446744073709551616):ah prog 420 [.agg (gfA p),.r (aA 1 wdC l)] (.r (aA 1 wdC (p8 p l))):=by
 have hlen:=ajX p l;have hle:=ajx (nI p l);have hpl:=hp.lt;refine ah.fnF func420 results420 ntmps420 rfl rfl rfl (by simp[AV.ids,AV0.ids,Atom.ids]) rfl (fun w0 T B E0 hB=>?_)
 refine SX.goM ?_;refine W.loop (fun k=>k≤l.length∧wl (nI p l) k=adA (nI p l)) (fun k=>[(1,.r (aA 1 wdC l)),(2,.ptr 2 0),(5,.v (.int .i64 (k:Int)))]) (fun _=>[(2,.box 117 (gfA p))]) (fun k=>k) l.length ⟨Nat.le_refl _,by rw[←hlen];unfold adA;rfl⟩ (fun k ⟨hk,he⟩=>?_)
 by_cases h0:0 < k
 ·obtain⟨m,rfl⟩:∃m,k=m+1:=⟨k - 1,by omega⟩
  obtain⟨q,hq⟩:∃q,l[m+1 - 1]? =some q:=⟨_,zq2 (by omega)⟩
  have hq':l[m]? =some q:=hq;have hg:(nI p l).getD m 0=q % p:=by rw[ae2,zq3,hq'];rfl
  have cS:=lJ hp q (hb q (zq4 hq'));unfold wl at he;rw[hg]at he;by_cases hz0:q % p=0
  ·rw[if_pos hz0]at he;rw[hz0]at cS;refine SX.goM ?_;exact W.next m ⟨by omega,he⟩ (by omega)
  ·rw[if_neg hz0]at he;have h1:¬((q % p:Nat):Int)=0:=by omega
   rw[←he]at hle;refine SX.goM ?_;refine W.loop (fun j=>j≤m+1) (fun j=>[(1,.r (aA 1 wdC l)),(2,.ptr 2 0),(6,.own 100),(29,.v (.int .i64 ((m+1:Nat):Int))),(30,.v (.int .i64 (j:Int)))]) (fun j=>[(2,.box 117 (gfA p)),(100,.row 44 1 (m+1) ((abv (m+1) fun i=>if i < j then l.getD i 0 % p else 0).flatMap wdC))]) (fun j=>m+1 - j) 0 (Nat.zero_le _) (fun j hj=>?_)
    (by
     refine SX.St.aY [(100,some 27)] (by intro b h;cases h) ?_ ?_ rfl
     ·repeat(first|exact trivial|refine⟨⟨_,rfl,SX.aG.same rfl⟩,?_⟩|refine⟨⟨_,rfl,SX.aG.own rfl⟩,?_⟩)
     ·exact⟨SX.ay.same rfl rfl,SX.ay.row rfl rfl rfl (ak0 fun m=>by rw[if_neg (Nat.not_lt_zero m)]),trivial⟩)
   by_cases h2:j < m+1
   ·obtain⟨q2,hq2⟩:∃q2,l[j]? =some q2:=⟨_,zq2 (by omega)⟩
    have cF:=lJ hp q2 (hb q2 (zq4 hq2));have g2:l.getD j 0=q2:=by rw[zq3,hq2];rfl
    have hln:=kK (m+1) fun i=>if i < j then l.getD i 0 % p else 0
    have hst:=amZ (n:=m+1) (f:=fun i=>if i < j then l.getD i 0 % p else 0) (g:=fun i=>if i < j+1 then l.getD i 0 % p else 0) (k:=j) (x:=q2 % p) (fun i=>by
     by_cases hi:i=j
     ·subst hi;rw[if_pos rfl,if_pos (by omega),g2]
     ·rw[if_neg hi];by_cases hi2:i < j
      ·rw[if_pos hi2,if_pos (by omega)]
      ·rw[if_neg hi2,if_neg (by omega)])
    refine SX.goM ?_;refine W.next (j+1) h2 (by omega) (by
     refine SX.St.aY [(100,some 100)] (by intro b h;cases h) ?_ ?_ rfl
     ·repeat(first|exact trivial|refine⟨⟨_,rfl,SX.aG.same rfl⟩,?_⟩|refine⟨⟨_,rfl,SX.aG.own rfl⟩,?_⟩)
     ·exact⟨SX.ay.same rfl rfl,SX.ay.row rfl rfl rfl ((auy (by rw[hln];exact h2)).trans (by rw[hst])),trivial⟩)
   ·obtain rfl:j=m+1:=by omega
    refine SX.goM ?_;refine aQ.frz 100 ?_;refine aoy ?_;have e9:(abv (m+1) fun i=>if i < m+1 then l.getD i 0 % p else 0)=p8 p l:=by
     unfold p8 rT;rw[←he];apply List.ext_getElem?;intro i
     by_cases hi:i < m+1
     ·rw[pR hi,if_pos hi,List.getElem?_take,if_pos hi]
      have h7:=ae2 p l i;have hi3:i < (nI p l).length:=by omega
      rw[zq3,zq2 hi3]at h7
      rw[zq2 hi3,←h7];rfl
     ·rw[List.getElem?_eq_none (by rw[kK];omega),List.getElem?_eq_none (by rw[List.length_take];omega)]
    rw[e9];have e8:(p8 p l).length=m+1:=by rw[←e9,kK]
    rw[apz e8];rfl
 ·obtain rfl:k=0:=by omega
  have he':adA (nI p l)=0:=he.symm;refine SX.goM ?_;refine acG ?_;unfold p8 rT;rw[he'];exact fun E S w v h=>(aI.nil (α:=Nat) (enc:=wdC) (size:=1)) E S w v h
end
end Go.Proofs.YtegehclknhmkgaaGreatDoor
set_option linter.unusedSectionVars false
namespace Go.Proofs.YtegehclknhmkgaaGreatDoor
open Go.RowKit QM SX LA
section
def cvR(a b:List Int):Nat→Nat→Int
 |0,_=>0
 |i+1,m=>cvR a b i m+(if i≤m then a.getD i 0*b.getD (m - i) 0 else 0)
def cvP(a b:List Int)(i k m:Nat):Int:=cvR a b i m+(if i≤m∧m < i+k then a.getD i 0*b.getD (m - i) 0 else 0)
def pMul(a b:List Int):List Int:=if a.length=0∨b.length=0 then []else bW (adz (a.length+b.length - 1) (cvR a b a.length))
attribute [local irreducible] IntKind.wrap Go1 Reg WP aS aT bR bO aQ aC ak aj aX Sat
attribute [local irreducible] bT bX bY dw bZ qv dR mf PrP qOk zOk vP dQ lz vF cq rqv eY bW dL dh gD cvR cvP pMul
theorem aqd{l:List Z2}{zs:List Int}{K:Nat}(hM:MZ l zs K)(hK:K≤1000000)(hl:l.length≤100000)(hn:pN zs):ah prog 204 [.r (aA 2 z2C l)] (.r (aA 2 z2C (zs.map z2v))):=by
 have c:=ac4 hM hK hl
 rwa [ah2 hn]at c
end
section
theorem xE{α β:Type}{enc:β→List CA}{f:α→β}{l:List α}{k:Nat}{x:α}(hx:l[k]? =some x):((l.take k).map f).flatMap enc++enc (f x)=((l.take (k+1)).map f).flatMap enc:=by
 rw[jV hx];simp
attribute [local irreducible] IntKind.wrap Go1 Reg WP aS aT bR bO aQ aC ak aj aX Sat
attribute [local irreducible] bT bX bY dw bZ qv dR mf PrP qOk zOk vP dQ lz vF cq rqv eY bW dL dh gD jn sq aO qS zS tS tbS
end
end Go.Proofs.YtegehclknhmkgaaGreatDoor
set_option linter.unusedSectionVars false
namespace Go.Proofs.YtegehclknhmkgaaGreatDoor
open Go.RowKit QM SX LA
def ahR(zs:List Int)(n:Nat):List Int:=List.replicate n 0++zs
def exF(b:List Int):Nat→List Int→(Nat→Int)→Option ((Nat→Int)×List Int)
 |0,a,f=>some (f,a)
 |n+1,a,f=>if nN (a.getD (n+b.length - 1) 0) (b.getD (b.length - 1) 0)then exF b n (aby a (ahR (dh b (gu (a.getD (n+b.length - 1) 0) (b.getD (b.length - 1) 0))) n)) (fun i=>if i=n then gu (a.getD (n+b.length - 1) 0) (b.getD (b.length - 1) 0)else f i)else none
def exR(zs b:List Int):Option (List Int):=if b.length=0 then none else match exF b (zs.length+1 - b.length) zs (fun _=>0)with
 |none=>none
 |some (f,a)=>if a.length=0 then some (bW (adz (zs.length+1 - b.length) f))else none
attribute [local irreducible] IntKind.wrap Go1 Reg WP aS aT bR bO aQ aC ak aj aX Sat
attribute [local irreducible] bT bX bY dw bZ qv dR mf PrP qOk zOk vP dQ lz vF cq rqv eY bW dL dh gD cvR cvP pMul ahR gu nN exF
structure DvK(S L K K':Nat)(n:Nat)(a:List Int)(f:Nat→Int):Prop where
 le:n≤S
 p:pN a
 l:a.length≤L
 b:∀z∈a,z.natAbs < WB ^ (K+(S - n)*(K'+1))
 f:∀i,(f i).natAbs < WB ^ (K+S*(K'+1))
end Go.Proofs.YtegehclknhmkgaaGreatDoor
set_option linter.unusedSectionVars false
namespace Go.Proofs.YtegehclknhmkgaaGreatDoor
open Go.RowKit QM SX LA
attribute [local irreducible] IntKind.wrap Go1 Reg WP aS aT bR bO aQ aC ak aj aX Sat
attribute [local irreducible] bT bX bY dw bZ qv dR mf PrP qOk zOk vP dQ lz vF cq rqv eY bW dL dh gD cvR cvP pMul ahR gu nN exF vW jo
theorem aoc{x y:Rat}{K L:Nat}(hx:RB x K)(hy:RB y L)(hK:K+L≤100000)(h0:y≠0):ah prog 257 [.agg (vlA (fJ x)),.agg (vlA (fJ y))] (.tup [.agg (vlA (fJ (x / y))),eNo 0]):=by
 haveI:=Ra.cq hx
 haveI:=Ra.cq hy
 have c:=(af7 (l:=q4A (rq (cq x))) (l':=q4A (rq (cq y))) (K:=K) (K':=L)).h (by omega)
 rw[decide_eq_true h0]at c;have cN:=aeT (x / y) 3;refine ah.fnF func257 results257 ntmps257 rfl rfl rfl (by simp[AV.ids,AV0.ids,Atom.ids]) rfl (fun w0 T B E0 hB=>?_)
 refine SX.goM ?_;refine .ok (aC.mk2 (ak.gJ rfl rfl rfl) (ak.tmp rfl))
section
variable{a b:List Int}{K L:Nat}(h:∀z∈a,z.natAbs < WB ^ K)(h':∀z∈b,z.natAbs < WB ^ L)(hn:pN a)(hn':pN b)(hl:a.length≤4000)(hl':b.length≤4000)(hK:K+(a.length+1)*(L+1)≤30000)(hL:L≤30000)
include h h' hn hn' hl hl' hK hL
end
section
end
end Go.Proofs.YtegehclknhmkgaaGreatDoor