import Derived.Test.YtmgfiodmdfaclaaGreatDoorA18
import Derived.Test.YtmgfiodmdfaclaaGreatDoorA9
set_option linter.unusedVariables false
set_option linter.unusedSimpArgs false
namespace Go.Proofs.YtmgfiodmdfaclaaGreatDoor
open Go.RowKit QM SX LA
section
def fA(p x y:Nat):Nat:=(x % p+y % p) % p
def fS(p x y:Nat):Nat:=(x % p+p - y % p) % p
def fM(p x y:Nat):Nat:=(x % p*(y % p)) % p
def qg(c:Nat)(val:Nat→Nat→Nat)(i:Nat):List Nat:=(List.range i).flatMap fun i=>(List.range c).map (val i)
theorem tabW_zero{c:Nat}{val:Nat→Nat→Nat}:qg c val 0=[]:=rfl
theorem xV{c i:Nat}{val:Nat→Nat→Nat}:qg c val (i+1)=qg c val i++(List.range c).map (val i):=by
 unfold qg;rw[List.range_succ,List.flatMap_append];simp
theorem oG{c:Nat}{val:Nat→Nat→Nat}:∀i,(qg c val i).length=i*c
 |0=>by simp[tabW_zero]
 |i+1=>by rw[xV,List.length_append,oG i];simp[Nat.succ_mul]
def uf(val:Nat→Nat→Nat)(i k:Nat):List Nat:=(List.range k).map (val i)
theorem ah2{val:Nat→Nat→Nat}{i k:Nat}:uf val i (k+1)=uf val i k++[val i k]:=by
 unfold uf;rw[List.range_succ,List.map_append];rfl
abbrev ptrP(p:Nat):AV:= .r (bK [.val (.int .u64 (p:Int))])
attribute [local irreducible] IntKind.wrap Go1 Reg WP aQ aR bO bN aN aB aj ah aV Sat
attribute [local irreducible] bS bV bX dx bW qv redS mf PrP qOk zOk vP dL lz vF cq rqv fC dn dI pScale mulV fA fS fM
theorem ajZ{p:Nat}(hp:PrP p)(r c:Nat)(x:CA)(val:Nat→Nat→Nat)(hr:r≤100)(hc:c≤100)
  (hx:∀i k,i < r→k < c→FnV Tryz.prog x [.v (.int .i64 (i:Int)),.v (.int .i64 (k:Int))] (.v (.int .u64 (val i k:Int)))) (hL:∀i k,i < r→k < c→val i k < p) (hx1:x.dO=true):
  PureOK Tryz.prog 359 [.agg (gfA p),.v (.int .i64 (r:Int)),.v (.int .i64 (c:Int)),.it (.one (.c x))] (.agg (fmA r c (qg c val r))):=by
 have hpl:=hp.lt;refine PureOK.fnF Tryz.func359 Tryz.results359 Tryz.ntmps359 rfl rfl rfl (by simp[AV.ids,AV0.ids,Atom.ids]) rfl (fun w0 T B E0 hB=>?_)
 refine SX.goM ?_;refine W.loop (fun i=>i≤r) (fun i=>[(2,.v (.int .i64 (c:Int))),(3,.it (.one (.c x))),(4,.ptr 4 0),(8,.ptr 8 0),(9,.ptr 9 0),(15,.v (.int .i64 (r:Int))),(16,.v (.int .i64 (i:Int)))]) (fun i=>[(4,.box 103 (gfA p)),(8,.box 35 [.c (.val (.int .i64 0)),.c (.val (.int .i64 0)),.c (.val (.slice none 0 0))]),(9,.box 35 [.c (.val (.int .i64 (r:Int))),.c (.val (.int .i64 (c:Int))),.own 100]),(100,.row 33 1 (i*c) ((qg c val i).flatMap wdC))]) (fun i=>r - i) 0 (Nat.zero_le _) (fun i hi=>?_)
  (by
   refine SX.St.aW [(100,none)] (by intro b h;cases h) ?_ ?_ rfl
   ·repeat(first|exact trivial|refine⟨⟨_,rfl,SX.aC.same rfl⟩,?_⟩)
   ·exact⟨SX.ak.same rfl rfl,SX.ak.same rfl rfl,SX.ak.oK rfl rfl ⟨aO.same rfl,aO.same rfl,aO.nil rfl,trivial⟩,by rw[Nat.zero_mul];exact SX.ak.bU rfl,trivial⟩)
 by_cases h:i < r
 ·refine SX.goM ?_;refine W.loop (fun k=>k≤c) (fun k=>[(2,.v (.int .i64 (c:Int))),(3,.it (.one (.c x))),(4,.ptr 4 0),(8,.ptr 8 0),(9,.ptr 9 0),(10,.v (.int .i64 (i:Int))),(15,.v (.int .i64 (r:Int))),(16,.v (.int .i64 (i:Int))),(19,.v (.int .i64 (c:Int))),(20,.v (.int .i64 (k:Int)))]) (fun k=>[(4,.box 103 (gfA p)),(8,.box 35 [.c (.val (.int .i64 0)),.c (.val (.int .i64 0)),.c (.val (.slice none 0 0))]),(9,.box 35 [.c (.val (.int .i64 (r:Int))),.c (.val (.int .i64 (c:Int))),.own 100]),(100,.row 33 1 (i*c+k) ((qg c val i++uf val i k).flatMap wdC))]) (fun k=>c - k) 0 (Nat.zero_le _) (fun k hk=>?_)
   (by
    have e:Ent.row 33 1 (i*c) ((qg c val i).flatMap wdC)=Ent.row 33 1 (i*c+0) ((qg c val i++uf val i 0).flatMap wdC):=by simp[uf]
    refine SX.St.aW [] (by intro b h;cases h) ?_ ?_ rfl
    ·repeat(first|exact trivial|refine⟨⟨_,rfl,SX.aC.same rfl⟩,?_⟩)
    ·exact⟨SX.ak.same rfl rfl,SX.ak.same rfl rfl,SX.ak.same rfl rfl,SX.ak.eq rfl e rfl,trivial⟩)
  by_cases h2:k < c
  ·have hf:=hx i k h h2;have hl:=hL i k h h2;have cR:=mV hp (val i k) (by omega)
   rw[Nat.mod_eq_of_lt hl]at cR;have hlen:i*c+k≤20000:=by
    have:=Nat.mul_le_mul (show i≤100 by omega) hc
    omega
   refine SX.goM ?_;refine W.next (k+1) h2 (by omega) (by
    have e2:(qg c val i++uf val i k).flatMap wdC++wdC (val i k)=(qg c val i++uf val i (k+1)).flatMap wdC:=by
     rw[ah2,←List.append_assoc,List.flatMap_append (xs:=qg c val i++uf val i k)];simp
    refine SX.St.aW [(100,some 32)] (by intro b h;cases h) ?_ ?_ rfl
    ·repeat(first|exact trivial|refine⟨⟨_,rfl,SX.aC.same rfl⟩,?_⟩)
    ·exact⟨SX.ak.same rfl rfl,SX.ak.same rfl rfl,SX.ak.oK rfl rfl ⟨aO.same rfl,aO.same rfl,aO.own rfl,trivial⟩,SX.ak.row rfl rfl (by omega) e2,trivial⟩)
  ·obtain rfl:k=c:=by omega
   refine SX.goM ?_;refine W.next (i+1) h (by omega) (by
    have e2:Ent.row 33 1 (i*k+k) ((qg k val i++uf val i k).flatMap wdC)=Ent.row 33 1 ((i+1)*k) ((qg k val (i+1)).flatMap wdC):=by rw[Nat.succ_mul,xV];rfl
    refine SX.St.aW [] (by intro b h;cases h) ?_ ?_ rfl
    ·repeat(first|exact trivial|refine⟨⟨_,rfl,SX.aC.same rfl⟩,?_⟩)
    ·exact⟨SX.ak.same rfl rfl,SX.ak.same rfl rfl,SX.ak.same rfl rfl,SX.ak.eq rfl e2 rfl,trivial⟩)
 ·obtain rfl:i=r:=by omega
  refine SX.goM ?_;have hm:fmA i c (qg c val i)=[.c (.val (.int .i64 (i:Int))),.c (.val (.int .i64 (c:Int))),.c (.sat (aI 1 (i*c) ((qg c val i).flatMap wdC)))]:=by
   show [_,_,Atom.c (.sat (aI 1 (qg c val i).length _))]=_;rw[oG]
  rw[hm];refine aN.frz 100 ?_;exact nC (aj.aT rfl rfl rfl) rfl
section
variable{p r c:Nat}(hp:PrP p){l l':List Nat}(hl:l.length=r*c)(hr:r≤64)(hc:c≤64)(hb:∀x∈l,x < 18446744073709551616)
include hp hl hr hc hb
end
end
section
def wl(zs:List Nat):Nat→Nat
 |0=>0
 |k+1=>if zs.getD k 0=0 then wl zs k else k+1
def ad3(zs:List Nat):Nat:=wl zs zs.length
def tT(zs:List Nat):List Nat:=zs.take (ad3 zs)
def gN(zs:List Nat):Prop:=zs.length=0∨zs.getD (zs.length - 1) 0≠0
theorem ard(zs:List Nat):∀k,wl zs k≤k
 |0=>Nat.le_refl _
 |k+1=>by unfold wl;split;exact Nat.le_succ_of_le (ard zs k);exact Nat.le_refl _
theorem aol(zs:List Nat):∀k,wl zs k=0∨zs.getD (wl zs k - 1) 0≠0
 |0=> .inl rfl
 |k+1=>by
  unfold wl;split
  ·exact aol zs k
  ·next h=>exact .inr h
theorem aiU(zs:List Nat):∀(k j:Nat),wl zs k≤j→j < k→zs.getD j 0=0
 |0,j,_,h=>absurd h (Nat.not_lt_zero _)
 |k+1,j,h1,h2=>by
  unfold wl at h1
  split at h1
  ·next h=>
   by_cases hj:j=k
   ·subst hj;exact h
   ·exact aiU zs k j h1 (by omega)
  ·omega
theorem aju(zs:List Nat):ad3 zs≤zs.length:=ard zs _
theorem yh(zs:List Nat):(tT zs).length=ad3 zs:=by unfold tT;rw[List.length_take];exact Nat.min_eq_left (aju zs)
theorem abt{zs:List Nat}{j:Nat}(h:zs.length≤j):zs.getD j 0=0:=by rw[List.getD_eq_getElem?_getD,List.getElem?_eq_none h];rfl
theorem aek(zs:List Nat)(j:Nat):(tT zs).getD j 0=zs.getD j 0:=by
 by_cases h:j < ad3 zs
 ·unfold tT;rw[List.getD_eq_getElem?_getD,List.getElem?_take,if_pos h,←List.getD_eq_getElem?_getD]
 ·rw[abt (by rw[yh];omega)]
  by_cases h2:j < zs.length
  ·exact(aiU zs _ j (by unfold ad3 at h;omega) h2).symm
  ·exact(abt (by omega)).symm
theorem anb(zs:List Nat):gN (tT zs):=by
 rcases aol zs zs.length with h|h
 ·exact .inl (by rw[yh];exact h)
 ·exact .inr (by rw[yh,aek];exact h)
theorem asQ{a b:List Nat}(ha:gN a)(hb:gN b)(h:∀j,a.getD j 0=b.getD j 0):a=b:=by
 have key:∀{a b:List Nat},gN a→(∀j,a.getD j 0=b.getD j 0)→a.length≤b.length:=fun {a b} ha h=>by
  rcases ha with h0|h0
  ·omega
  ·rcases Nat.lt_or_ge b.length a.length with h1|h1
   ·rw[h,abt (by omega)]at h0;exact absurd rfl h0
   ·exact h1
 have hl:a.length=b.length:=Nat.le_antisymm (key ha h) (key hb fun j=>(h j).symm)
 apply List.ext_getElem?;intro j
 by_cases hj:j < a.length
 ·have:=h j;rw[List.getD_eq_getElem?_getD,List.getD_eq_getElem?_getD,List.getElem?_eq_getElem hj,List.getElem?_eq_getElem (by omega)]at this
  rw[List.getElem?_eq_getElem hj,List.getElem?_eq_getElem (by omega)]
  exact congrArg some this
 ·rw[List.getElem?_eq_none (by omega),List.getElem?_eq_none (by omega)]
theorem ag5{zs:List Nat}(h:gN zs):tT zs=zs:=asQ (anb zs) h (aek zs)
def abK(n:Nat)(f:Nat→Nat):List Nat:=(List.range n).map f
theorem lu(n:Nat)(f:Nat→Nat):(abK n f).length=n:=by unfold abK;rw[List.length_map,List.length_range]
theorem sH{n:Nat}{f:Nat→Nat}{k:Nat}(h:k < n):(abK n f)[k]? =some (f k):=by
 unfold abK;rw[List.getElem?_map,List.getElem?_range h];rfl
theorem aoE{n:Nat}{f g:Nat→Nat}{k:Nat}{x:Nat}(h:∀m,(if m=k then x else f m)=g m):(abK n f).set k x=abK n g:=by
 apply List.ext_getElem?
 intro j;rw[List.getElem?_set]
 by_cases hj:k=j
 ·subst hj;rw[if_pos rfl,lu];by_cases hk:k < n
  ·rw[if_pos hk,sH hk,←h k,if_pos rfl]
  ·rw[if_neg hk,List.getElem?_eq_none (by rw[lu];omega)]
 ·rw[if_neg hj];by_cases hk:j < n
  ·rw[sH hk,sH hk,←h j,if_neg (fun e=>hj e.symm)]
  ·rw[List.getElem?_eq_none (by rw[lu];omega),List.getElem?_eq_none (by rw[lu];omega)]
theorem ajJ{n:Nat}{f:Nat→Nat}(h:∀m,f m=0):List.replicate n (CA.val (.int .u64 0))=(abK n f).flatMap wdC:=by
 have:abK n f=List.replicate n 0:=by
  apply List.ext_getElem?;intro j
  rw[List.getElem?_replicate]
  by_cases hj:j < n
  ·rw[sH hj,if_pos hj,h]
  ·rw[if_neg hj,List.getElem?_eq_none (by rw[lu];omega)]
 rw[this];clear this h
 induction n with
 |zero=>rfl
 |succ n ih=>rw[List.replicate_succ,List.replicate_succ,List.flatMap_cons,←ih];rfl
theorem amD(l:List Nat):l.flatMap wdC=l.map fun x:Nat=>CA.val (.int .u64 (x:Int)):=by
 induction l with
 |nil=>rfl
 |cons a l ih=>rw[List.flatMap_cons,ih];rfl
theorem ar9{l:List Nat}{i x:Nat}(h:i < l.length):spl (l.flatMap wdC) (i*1) [CA.val (.int .u64 (x:Int))]=(l.set i x).flatMap wdC:=by
 rw[amD,amD,Nat.mul_one];exact aiN (fun x:Nat=>CA.val (.int .u64 (x:Int))) l i x h
def oD(p:Nat)(l:List Nat):List Nat:=l.map (· % p)
theorem akX(p:Nat)(l:List Nat):(oD p l).length=l.length:=List.length_map _
theorem afp(p:Nat)(l:List Nat)(k:Nat):(oD p l).getD k 0=l.getD k 0 % p:=by
 unfold oD;rw[List.getD_eq_getElem?_getD,List.getD_eq_getElem?_getD,List.getElem?_map]
 by_cases hk:k < l.length
 ·rw[List.getElem?_eq_getElem hk];rfl
 ·rw[List.getElem?_eq_none (by omega)];exact(Nat.zero_mod p).symm
theorem ags{p:Nat}{l:List Nat}(h:∀x∈l,x < p):oD p l=l:=by
 unfold oD;have h2:l.map (· % p)=l.map id:=List.map_congr_left fun x hx=>Nat.mod_eq_of_lt (h x hx)
 rw[h2,List.map_id]
def qm(p:Nat)(l:List Nat):List Nat:=tT (oD p l)
theorem aoL{n:Nat}{l:List Nat}(h:l.length=n):ay 1 wdC l=aI 1 n (l.flatMap wdC):=by subst h;rfl
attribute [local irreducible] IntKind.wrap Go1 Reg WP aQ aR bO bN aN aB aj ah aV Sat
attribute [local irreducible] bS bV bX dx bW qv redS mf PrP qOk zOk vP dL lz vF cq rqv fC dn dI pScale mulV fA fS fM ad3 tT oD
set_option maxRecDepth 20000 in
set_option maxHeartbeats 2000000 in
theorem ajU{p:Nat}(hp:PrP p){l:List Nat}(hl:l.length≤100000)(hb:∀x∈l,x < 18446744073709551616):PureOK Tryz.prog 425 [.agg (gfA p),.r (ay 1 wdC l)] (.r (ay 1 wdC (qm p l))):=by
 have hlen:=akX p l;have hle:=aju (oD p l);have hpl:=hp.lt;refine PureOK.fnF Tryz.func425 Tryz.results425 Tryz.ntmps425 rfl rfl rfl (by simp[AV.ids,AV0.ids,Atom.ids]) rfl (fun w0 T B E0 hB=>?_)
 refine SX.goM ?_;refine W.loop (fun k=>k≤l.length∧wl (oD p l) k=ad3 (oD p l)) (fun k=>[(1,.r (ay 1 wdC l)),(2,.ptr 2 0),(5,.v (.int .i64 (k:Int)))]) (fun _=>[(2,.box 103 (gfA p))]) (fun k=>k) l.length ⟨Nat.le_refl _,by rw[←hlen];unfold ad3;rfl⟩ (fun k ⟨hk,he⟩=>?_)
 by_cases h0:0 < k
 ·obtain⟨m,rfl⟩:∃m,k=m+1:=⟨k - 1,by omega⟩
  obtain⟨q,hq⟩:∃q,l[m+1 - 1]? =some q:=⟨_,List.getElem?_eq_getElem (by omega)⟩
  have hq':l[m]? =some q:=hq;have hg:(oD p l).getD m 0=q % p:=by rw[afp,List.getD_eq_getElem?_getD,hq'];rfl
  have cS:=mV hp q (hb q (List.mem_of_getElem? hq'));unfold wl at he;rw[hg]at he;by_cases hz0:q % p=0
  ·rw[if_pos hz0]at he;rw[hz0]at cS;refine SX.goM ?_;exact W.next m ⟨by omega,he⟩ (by omega)
  ·rw[if_neg hz0]at he;have h1:¬((q % p:Nat):Int)=0:=by omega
   rw[←he]at hle;refine SX.goM ?_;refine W.loop (fun j=>j≤m+1) (fun j=>[(1,.r (ay 1 wdC l)),(2,.ptr 2 0),(6,.own 100),(29,.v (.int .i64 ((m+1:Nat):Int))),(30,.v (.int .i64 (j:Int)))]) (fun j=>[(2,.box 103 (gfA p)),(100,.row 33 1 (m+1) ((abK (m+1) fun i=>if i < j then l.getD i 0 % p else 0).flatMap wdC))]) (fun j=>m+1 - j) 0 (Nat.zero_le _) (fun j hj=>?_)
    (by
     refine SX.St.aW [(100,some 27)] (by intro b h;cases h) ?_ ?_ rfl
     ·repeat(first|exact trivial|refine⟨⟨_,rfl,SX.aC.same rfl⟩,?_⟩|refine⟨⟨_,rfl,SX.aC.own rfl⟩,?_⟩)
     ·exact⟨SX.ak.same rfl rfl,SX.ak.row rfl rfl rfl (ajJ fun m=>by rw[if_neg (Nat.not_lt_zero m)]),trivial⟩)
   by_cases h2:j < m+1
   ·obtain⟨q2,hq2⟩:∃q2,l[j]? =some q2:=⟨_,List.getElem?_eq_getElem (by omega)⟩
    have cF:=mV hp q2 (hb q2 (List.mem_of_getElem? hq2));have g2:l.getD j 0=q2:=by rw[List.getD_eq_getElem?_getD,hq2];rfl
    have hln:=lu (m+1) fun i=>if i < j then l.getD i 0 % p else 0
    have hst:=aoE (n:=m+1) (f:=fun i=>if i < j then l.getD i 0 % p else 0) (g:=fun i=>if i < j+1 then l.getD i 0 % p else 0) (k:=j) (x:=q2 % p) (fun i=>by
     by_cases hi:i=j
     ·subst hi;rw[if_pos rfl,if_pos (by omega),g2]
     ·rw[if_neg hi];by_cases hi2:i < j
      ·rw[if_pos hi2,if_pos (by omega)]
      ·rw[if_neg hi2,if_neg (by omega)])
    refine SX.goM ?_;refine W.next (j+1) h2 (by omega) (by
     refine SX.St.aW [(100,some 100)] (by intro b h;cases h) ?_ ?_ rfl
     ·repeat(first|exact trivial|refine⟨⟨_,rfl,SX.aC.same rfl⟩,?_⟩|refine⟨⟨_,rfl,SX.aC.own rfl⟩,?_⟩)
     ·exact⟨SX.ak.same rfl rfl,SX.ak.row rfl rfl rfl ((ar9 (by rw[hln];exact h2)).trans (by rw[hst])),trivial⟩)
   ·obtain rfl:j=m+1:=by omega
    refine SX.goM ?_;refine aN.frz 100 ?_;refine alW ?_;have e9:(abK (m+1) fun i=>if i < m+1 then l.getD i 0 % p else 0)=qm p l:=by
     unfold qm tT;rw[←he];apply List.ext_getElem?;intro i
     by_cases hi:i < m+1
     ·rw[sH hi,if_pos hi,List.getElem?_take,if_pos hi]
      have h7:=afp p l i;have hi3:i < (oD p l).length:=by omega
      rw[List.getD_eq_getElem?_getD,List.getElem?_eq_getElem hi3]at h7
      rw[List.getElem?_eq_getElem hi3,←h7];rfl
     ·rw[List.getElem?_eq_none (by rw[lu];omega),List.getElem?_eq_none (by rw[List.length_take];omega)]
    rw[e9];have e8:(qm p l).length=m+1:=by rw[←e9,lu]
    rw[aoL e8];rfl
 ·obtain rfl:k=0:=by omega
  have he':ad3 (oD p l)=0:=he.symm;refine SX.goM ?_;refine abT ?_;unfold qm tT;rw[he'];exact fun E S w v h=>(aD.nil (α:=Nat) (enc:=wdC) (size:=1)) E S w v h
end
end Go.Proofs.YtmgfiodmdfaclaaGreatDoor
set_option linter.unusedSectionVars false
namespace Go.Proofs.YtmgfiodmdfaclaaGreatDoor
open Go.RowKit QM SX LA
section
def cvR(a b:List Int):Nat→Nat→Int
 |0,_=>0
 |i+1,m=>cvR a b i m+(if i≤m then a.getD i 0*b.getD (m - i) 0 else 0)
def cvP(a b:List Int)(i k m:Nat):Int:=cvR a b i m+(if i≤m∧m < i+k then a.getD i 0*b.getD (m - i) 0 else 0)
def pMul(a b:List Int):List Int:=if a.length=0∨b.length=0 then []else dn (agK (a.length+b.length - 1) (cvR a b a.length))
attribute [local irreducible] IntKind.wrap Go1 Reg WP aQ aR bO bN aN aB aj ah aV Sat
attribute [local irreducible] bS bV bX dx bW qv redS mf PrP qOk zOk vP dL lz vF cq rqv fC dn dI pScale mulV cvR cvP pMul
theorem apy{l:List Z2}{zs:List Int}{K:Nat}(hM:MZ l zs K)(hK:K≤1000000)(hl:l.length≤100000)(hn:pN zs):PureOK Tryz.prog 186 [.r (ay 2 z2C l)] (.r (ay 2 z2C (zs.map z2v))):=by
 have c:=abV hM hK hl
 rwa [ahu hn]at c
end
section
theorem xH{α β:Type}{enc:β→List CA}{f:α→β}{l:List α}{k:Nat}{x:α}(hx:l[k]? =some x):((l.take k).map f).flatMap enc++enc (f x)=((l.take (k+1)).map f).flatMap enc:=by
 rw[gJ hx];simp
attribute [local irreducible] IntKind.wrap Go1 Reg WP aQ aR bO bN aN aB aj ah aV Sat
attribute [local irreducible] bS bV bX dx bW qv redS mf PrP qOk zOk vP dL lz vF cq rqv fC dn dI pScale mulV jn sq aH qS zS tS tbS
end
end Go.Proofs.YtmgfiodmdfaclaaGreatDoor
set_option linter.unusedSectionVars false
namespace Go.Proofs.YtmgfiodmdfaclaaGreatDoor
open Go.RowKit QM SX LA
def pShift(zs:List Int)(n:Nat):List Int:=List.replicate n 0++zs
def exF(b:List Int):Nat→List Int→(Nat→Int)→Option ((Nat→Int)×List Int)
 |0,a,f=>some (f,a)
 |n+1,a,f=>if qy (a.getD (n+b.length - 1) 0) (b.getD (b.length - 1) 0)then exF b n (adH a (pShift (pScale b (iY (a.getD (n+b.length - 1) 0) (b.getD (b.length - 1) 0))) n)) (fun i=>if i=n then iY (a.getD (n+b.length - 1) 0) (b.getD (b.length - 1) 0)else f i)else none
def exR(zs b:List Int):Option (List Int):=if b.length=0 then none else match exF b (zs.length+1 - b.length) zs (fun _=>0)with
 |none=>none
 |some (f,a)=>if a.length=0 then some (dn (agK (zs.length+1 - b.length) f))else none
attribute [local irreducible] IntKind.wrap Go1 Reg WP aQ aR bO bN aN aB aj ah aV Sat
attribute [local irreducible] bS bV bX dx bW qv redS mf PrP qOk zOk vP dL lz vF cq rqv fC dn dI pScale mulV cvR cvP pMul pShift iY qy exF
structure DvK(S L K K':Nat)(n:Nat)(a:List Int)(f:Nat→Int):Prop where
 le:n≤S
 p:pN a
 l:a.length≤L
 b:∀z∈a,z.natAbs < WB ^ (K+(S - n)*(K'+1))
 f:∀i,(f i).natAbs < WB ^ (K+S*(K'+1))
end Go.Proofs.YtmgfiodmdfaclaaGreatDoor
set_option linter.unusedSectionVars false
namespace Go.Proofs.YtmgfiodmdfaclaaGreatDoor
open Go.RowKit QM SX LA
attribute [local irreducible] IntKind.wrap Go1 Reg WP aQ aR bO bN aN aB aj ah aV Sat
attribute [local irreducible] bS bV bX dx bW qv redS mf PrP qOk zOk vP dL lz vF cq rqv fC dn dI pScale mulV cvR cvP pMul pShift iY qy exF vW j6
theorem alm{x y:Rat}{K L:Nat}(hx:RB x K)(hy:RB y L)(hK:K+L≤100000)(h0:y≠0):PureOK Tryz.prog 254 [.agg (vlA (eF x)),.agg (vlA (eF y))] (.tup [.agg (vlA (eF (x / y))),eNo 0]):=by
 haveI:=Ra.cq hx
 haveI:=Ra.cq hy
 have c:=(amJ (l:=q4A (rq (cq x))) (l':=q4A (rq (cq y))) (K:=K) (K':=L)).h (by omega)
 rw[decide_eq_true h0]at c;have cN:=aad (x / y) 3;refine PureOK.fnF Tryz.func254 Tryz.results254 Tryz.ntmps254 rfl rfl rfl (by simp[AV.ids,AV0.ids,Atom.ids]) rfl (fun w0 T B E0 hB=>?_)
 refine SX.goM ?_;refine .ok (aB.mk2 (aj.fD rfl rfl rfl) (aj.tmp rfl))
section
variable{a b:List Int}{K L:Nat}(h:∀z∈a,z.natAbs < WB ^ K)(h':∀z∈b,z.natAbs < WB ^ L)(hn:pN a)(hn':pN b)(hl:a.length≤4000)(hl':b.length≤4000)(hK:K+(a.length+1)*(L+1)≤30000)(hL:L≤30000)
include h h' hn hn' hl hl' hK hL
end
section
end
end Go.Proofs.YtmgfiodmdfaclaaGreatDoor