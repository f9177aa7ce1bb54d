import Derived.Test.YtegehclknhmkgaaGreatDoorS9
import Derived.Test.YtegehclknhmkgaaGreatDoorS6
set_option linter.unusedVariables false
set_option linter.unusedSimpArgs false
open Go.Proofs.Tryz
namespace Go.Proofs.YtegehclknhmkgaaGreatDoor
open Go.RowKit QM SX LA
section
abbrev vlK(v:Vl):List CA:=[.val (.int .i64 v.k),.val (.bool v.q.1),.sat (dN v.q.2.1),.val (.bool v.q.2.2.1),.sat (dN v.q.2.2.2),.val (.int .i64 v.r),.val (.int .i64 v.c),.sat (aA 4 q4C (v.a.map rq)),.sat (aA 2 z2C (v.po.map rz)),.val (.int .u64 (v.p:Int)),.val (.int .i64 v.fr),.val (.int .i64 v.fc),.sat (aA 1 wdC v.fa),.sat (aA 1 wdC v.ri),.sat (aA 15 vlC v.li)]
def dQ(r c:Int)(n:Nat):Bool:=decide (0≤r∧r≤64∧0≤c∧c≤64∧(n:Int)=r*c)
def mOk(r c:Int)(a:List fV):Bool:=a.all qOk&&dQ r c a.length
def lz(po:List kW):Bool:=decide (po.length=0)||decide (rzv (po.getD (po.length - 1) (false,[]))≠0)
def pOk(po:List kW):Bool:=po.all zOk&&lz po
def ltp(p x:Nat):Bool:=decide (x < p)
def fOk(r c:Int)(fa:List Nat)(p:Nat):Bool:=fa.all (ltp p)&&dQ r c fa.length
def lw(ri:List Nat):Bool:=decide (ri.length=0)||decide (ri.getD (ri.length - 1) 0≠0)
def rOk(p:Nat)(ri:List Nat):Bool:=ri.all (ltp p)&&lw ri
def vK(rec:Vl→Bool)(pos:Bool)(v:Vl):Bool:=decide (vP v=0)&&(if v.k=1 then qOk v.q else if v.k=2 then mOk v.r v.c v.a else if v.k=3 then pOk v.po else if v.k=4 then decide (PrP v.p)&&fOk v.fr v.fc v.fa v.p else if v.k=5 then decide (PrP v.p)&&rOk v.p v.ri else if v.k=6 then pos&&v.li.all rec else false)
def vF:Nat→Vl→Bool
 |0,v=>vK (fun _=>false) false v
 |d+1,v=>vK (vF d) true v
def vZ:Nat→Vl→Prop
 |0,v=>vZ0 v∧v.li=[]
 |n+1,v=>vZ0 v∧∀x∈v.li,vZ n x
theorem vZ.z{n:Nat}{v:Vl}(h:vZ n v):vZ0 v:=by cases n <;> exact h.1
theorem vF_P{d:Nat}{v:Vl}(h:vP v≠0):vF d v=false:=by
 cases d <;> (unfold vF vK;rw[decide_eq_false h];rfl)
theorem vF_1{d:Nat}{v:Vl}(h:vP v=0)(hk:v.k=1):vF d v=qOk v.q:=by
 cases d <;> (unfold vF vK;rw[decide_eq_true h,if_pos hk];rfl)
theorem vF_2{d:Nat}{v:Vl}(h:vP v=0)(hk:v.k=2):vF d v=mOk v.r v.c v.a:=by
 cases d <;> (unfold vF vK;rw[decide_eq_true h,if_neg (by omega),if_pos hk];rfl)
theorem vF_3{d:Nat}{v:Vl}(h:vP v=0)(hk:v.k=3):vF d v=pOk v.po:=by
 cases d <;> (unfold vF vK;rw[decide_eq_true h,if_neg (by omega),if_neg (by omega),if_pos hk];rfl)
theorem vF_4{d:Nat}{v:Vl}(h:vP v=0)(hk:v.k=4):vF d v=(decide (PrP v.p)&&fOk v.fr v.fc v.fa v.p):=by
 cases d <;> (unfold vF vK;rw[decide_eq_true h,if_neg (by omega),if_neg (by omega),if_neg (by omega),if_pos hk];rfl)
theorem vF_5{d:Nat}{v:Vl}(h:vP v=0)(hk:v.k=5):vF d v=(decide (PrP v.p)&&rOk v.p v.ri):=by
 cases d <;> (unfold vF vK;rw[decide_eq_true h,if_neg (by omega),if_neg (by omega),if_neg (by omega),if_neg (by omega),if_pos hk];rfl)
theorem amQ{v:Vl}(hk:v.k=6):vF 0 v=false:=by
 unfold vF vK;rw[if_neg (by omega),if_neg (by omega),if_neg (by omega),if_neg (by omega),if_neg (by omega),if_pos hk];cases decide (vP v=0) <;> rfl
theorem vF_6{d:Nat}{v:Vl}(h:vP v=0)(hk:v.k=6):vF (d+1) v=v.li.all (vF d):=by
 unfold vF vK;rw[decide_eq_true h,if_neg (by omega),if_neg (by omega),if_neg (by omega),if_neg (by omega),if_neg (by omega),if_pos hk];rfl
theorem vF_7{d:Nat}{v:Vl}(hk:v.k≠1∧v.k≠2∧v.k≠3∧v.k≠4∧v.k≠5∧v.k≠6):vF d v=false:=by
 cases d <;> (unfold vF vK;rw[if_neg (by omega),if_neg (by omega),if_neg (by omega),if_neg (by omega),if_neg (by omega),if_neg (by omega)];cases decide (vP v=0) <;> rfl)
theorem zx{α:Type}(l:List α)(p:α→Bool):(!l.any fun x=>!p x)=l.all p:=by
 induction l with
 |nil=>rfl
 |cons a l ih=>rw[List.any_cons,List.all_cons,←ih];cases p a <;> simp
theorem wZ{α:Type}{l:List α}{p:α→Bool}{k:Nat}{x:α}(hx:l[k]? =some x)(h:p x=false):l.all p=false:=by
 rw[Bool.eq_false_iff];intro h2;have:=List.all_eq_true.1 h2 x (zq4 hx);rw[h]at this;cases this
theorem vk{α:Type}{l:List α}{p:α→Bool}(h:∀(j:Nat) x,j < l.length→l[j]? =some x→p x=true):l.all p=true:=by
 rw[List.all_eq_true];intro x hx;obtain⟨i,hi⟩:=List.mem_iff_getElem?.1 hx;exact h i x (kI hi) hi
attribute [local irreducible] IntKind.wrap Go1 Reg WP aS aT bR bO aQ aC ak aj aX Sat
attribute [local irreducible] bT bX bY dw bZ qv dR mf PrP qOk zOk vP dQ
theorem ahb(v:Vl)(x:Nat):ah prog 153 [.v (.int .u64 (x:Int)),.r (bJ (vlK v))] (.v (.bool (!ltp v.p x))):=by
 refine ah.fnF func153 results153 ntmps153 rfl rfl rfl (by simp[AV.ids,AV0.ids,Atom.ids]) rfl (fun w0 T B E0 hB=>?_)
 refine SX.goM ?_;refine aJ ?_;unfold ltp;rw[←decide_not,decide_eq_decide];omega
theorem ace(v:Vl)(l:List Nat)(hp:v.p < WB)(hl:l.length≤100000):ah prog 99 [.agg (vlA v),.r (aA 1 wdC l)] (.v (.bool (decide (PrP v.p)&&l.all (ltp v.p)))):=by
 have cP:=aaq v.p (by rw[bB]at hp;exact hp)
 have cA:=aou l (.sat (dP 153 [] [.sat (bJ (vlK v))])) (fun x=>!ltp v.p x) (fun x _=>FnV.clo (ahb v x)) hl rfl
 rw[←zx];refine ah.fnF func99 results99 ntmps99 rfl rfl rfl (by simp[AV.ids,AV0.ids,Atom.ids]) rfl (fun w0 T B E0 hB=>?_)
 refine SX.goM ?_;refine SX.WP.eP 2 hB rfl rfl ?_;refine SX.WP.aF ?_;by_cases h:PrP v.p
 ·rw[decide_eq_true h]at cP ⊢;refine SX.goM ?_;exact aJ rfl
 ·rw[decide_eq_false h]at cP ⊢;refine SX.goM ?_;exact aJ rfl
theorem aea(r c:Int){n:Nat}{cells:List CA}:ah prog 51 [.agg [.c (.val (.int .i64 r)),.c (.val (.int .i64 c)),.c (.sat (aM 1 n cells))]] (.v (.bool (dQ r c n))):=by
 unfold dQ;refine ah.fnF func51 results51 ntmps51 rfl rfl rfl (by simp[AV.ids,AV0.ids,Atom.ids]) rfl (fun w0 T B E0 hB=>?_)
 by_cases h1:r≥0
 ·by_cases h2:r≤64
  ·by_cases h3:c≥0
   ·by_cases h4:c≤64
    ·have hp:0≤r*c:=Int.mul_nonneg h1 h3;have hp2:r*c≤64*64:=Int.mul_le_mul h2 h4 h3 (by decide)
     refine SX.goM ?_;refine aJ ?_;rw[decide_eq_decide];exact⟨fun h=>⟨h1,h2,h3,h4,h⟩,fun h=>h.2.2.2.2⟩
    ·refine SX.goM ?_;refine aJ ?_;exact(decide_eq_false fun h=>h4 h.2.2.2.1).symm
   ·refine SX.goM ?_;refine aJ ?_;exact(decide_eq_false fun h=>h3 h.2.2.1).symm
  ·refine SX.goM ?_;refine aJ ?_;exact(decide_eq_false fun h=>h2 h.2.1).symm
 ·refine SX.goM ?_;refine aJ ?_;exact(decide_eq_false fun h=>h1 h.1).symm
theorem aff(n:Int):ah prog 150 [.v (.int .i64 n)] (.v (.bool (decide (0≤n∧n≤64)))):=by
 refine ah.fnF func150 results150 ntmps150 rfl rfl rfl (by simp[AV.ids,AV0.ids,Atom.ids]) rfl (fun w0 T B E0 hB=>?_)
 by_cases h:n≥0
 ·refine SX.goM ?_;refine aJ ?_;rw[decide_eq_decide];omega
 ·refine SX.goM ?_;refine aJ ?_;exact(decide_eq_false fun h'=>h h'.1).symm
theorem xM(r c:Int){n:Nat}{cells:List CA}:ah prog 98 [.agg [.c (.val (.int .i64 r)),.c (.val (.int .i64 c)),.c (.sat (aM 1 n cells))]] (.v (.bool (dQ r c n))):=by
 unfold dQ;have s1:=aff r;have s2:=aff c;refine ah.fnF func98 results98 ntmps98 rfl rfl rfl (by simp[AV.ids,AV0.ids,Atom.ids]) rfl (fun w0 T B E0 hB=>?_)
 by_cases h1:0≤r∧r≤64
 ·rw[decide_eq_true h1]at s1;by_cases h2:0≤c∧c≤64
  ·rw[decide_eq_true h2]at s2;have hp:0≤r*c:=Int.mul_nonneg h1.1 h2.1;have hp2:r*c≤64*64:=Int.mul_le_mul h1.2 h2.2 h2.1 (by decide)
   refine SX.goM ?_;refine aJ ?_;rw[decide_eq_decide];exact⟨fun h=>⟨h1.1,h1.2,h2.1,h2.2,h⟩,fun h=>h.2.2.2.2⟩
  ·rw[decide_eq_false h2]at s2;refine SX.goM ?_;refine aJ ?_;exact(decide_eq_false fun h=>h2 ⟨h.2.2.1,h.2.2.2.1⟩).symm
 ·rw[decide_eq_false h1]at s1;refine SX.goM ?_;refine aJ ?_;exact(decide_eq_false fun h=>h1 ⟨h.1,h.2.1⟩).symm
theorem ads(r c:Int)(a:List fV)(hl:a.length≤100000)(ha:∀x∈a,(Sm WB x.2.1∧Sm WB x.2.2.2)∧x.2.1.length≤100000∧x.2.2.2.length≤100000):ah prog 28 [.agg (agt r c (a.map rq))] (.v (.bool (mOk r c a))):=by
 have hlen:(a.map rq).length=a.length:=zq5 _;have cF:ah prog 50 [.agg (agt r c (a.map rq))] (.v (.bool (dQ r c (a.map rq).length))):=by
  unfold dQ;exact afF r c
 unfold mOk;refine ah.fnF func28 results28 ntmps28 rfl rfl rfl (by simp[AV.ids,AV0.ids,Atom.ids]) rfl (fun w0 T B E0 hB=>?_)
 refine SX.goM ?_;refine W.loop (fun k=>k≤a.length∧∀(j:Nat) x,j < k→a[j]? =some x→qOk x=true) (fun k=>[(1,.ptr 1 0),(3,.v (.int .i64 (k:Int)))]) (fun k=>[(1,.box 41 (agt r c (a.map rq)))]) (fun k=>a.length - k) 0 ⟨Nat.zero_le _,fun j x h=>by omega⟩ (fun k ⟨hk,he⟩=>?_)
 by_cases h:k < a.length
 ·have h':k < (a.map rq).length:=by omega
  obtain⟨x,hx⟩:∃x,a[k]? =some x:=⟨_,zq2 h⟩
  have hq:(a.map rq)[k]? =some (rq x):=by rw[List.getElem?_map,hx];rfl
  have hax:=ha x (zq4 hx);have cN:=aii x hax.1 (by omega)
  cases ho:qOk x with
  |true=>
   rw[ho]at cN;refine SX.goM ?_;refine W.next (k+1) ⟨h,fun j y hj hy=>?_⟩ (by omega)
   by_cases hjk:j < k
   ·exact he j y hjk hy
   ·obtain rfl:j=k:=by omega
    rw[hx]at hy;rw[←Option.some.inj hy];exact ho
  |false=>
   rw[ho]at cN;refine SX.goM ?_;refine aJ ?_;rw[wZ hx ho];rfl
 ·obtain rfl:k=a.length:=by omega
  have h':¬a.length < (a.map rq).length:=by omega
  rw[vk he,←hlen];refine SX.goM ?_;exact aJ (Bool.true_and _).symm
theorem adI(r c:Int)(l:List Nat)(p:Nat)(hl:l.length≤100000):ah prog 31 [.agg [.c (.val (.int .i64 r)),.c (.val (.int .i64 c)),.c (.sat (aA 1 wdC l))],.v (.int .u64 (p:Int))] (.v (.bool (fOk r c l p))):=by
 have cF:ah prog 51 [.agg [.c (.val (.int .i64 r)),.c (.val (.int .i64 c)),.c (.sat (aA 1 wdC l))]] (.v (.bool (dQ r c l.length))):=aea r c;unfold fOk;refine ah.fnF func31 results31 ntmps31 rfl rfl rfl (by simp[AV.ids,AV0.ids,Atom.ids]) rfl (fun w0 T B E0 hB=>?_)
 refine SX.goM ?_;refine W.loop (fun k=>k≤l.length∧∀(j:Nat) x,j < k→l[j]? =some x→ltp p x=true) (fun k=>[(1,.v (.int .u64 (p:Int))),(2,.ptr 2 0),(5,.v (.int .i64 (k:Int)))]) (fun k=>[(2,.box 46 [.c (.val (.int .i64 r)),.c (.val (.int .i64 c)),.c (.sat (aA 1 wdC l))])]) (fun k=>l.length - k) 0 ⟨Nat.zero_le _,fun j x h=>by omega⟩ (fun k ⟨hk,he⟩=>?_)
 by_cases h:k < l.length
 ·obtain⟨x,hx⟩:∃x,l[k]? =some x:=⟨_,zq2 h⟩
  by_cases ho:x < p
  ·refine SX.goM ?_;refine W.next (k+1) ⟨h,fun j y hj hy=>?_⟩ (by omega)
   by_cases hjk:j < k
   ·exact he j y hjk hy
   ·obtain rfl:j=k:=by omega
    rw[hx]at hy;rw[←Option.some.inj hy];exact decide_eq_true ho
  ·refine SX.goM ?_;refine aJ ?_;rw[wZ hx (decide_eq_false ho)];rfl
 ·obtain rfl:k=l.length:=by omega
  rw[vk he];refine SX.goM ?_;exact aJ (Bool.true_and _).symm
theorem ada(l:List kW)(hl:l.length≤100000)(ha:∀x∈l,Sm WB x.2∧x.2.length≤100000):ah prog 29 [.r (aA 2 z2C (l.map rz))] (.v (.bool (pOk l))):=by
 have hlen:(l.map rz).length=l.length:=zq5 _;unfold pOk;refine ah.fnF func29 results29 ntmps29 rfl rfl rfl (by simp[AV.ids,AV0.ids,Atom.ids]) rfl (fun w0 T B E0 hB=>?_)
 refine SX.goM ?_;refine W.loop (fun k=>k≤l.length∧∀(j:Nat) x,j < k→l[j]? =some x→zOk x=true) (fun k=>[(0,.r (aA 2 z2C (l.map rz))),(3,.v (.int .i64 (k:Int)))]) (fun k=>[]) (fun k=>l.length - k) 0 ⟨Nat.zero_le _,fun j x h=>by omega⟩ (fun k ⟨hk,he⟩=>?_)
 by_cases h:k < l.length
 ·have h':k < (l.map rz).length:=by omega
  obtain⟨x,hx⟩:∃x,l[k]? =some x:=⟨_,zq2 h⟩
  have hq:(l.map rz)[k]? =some (rz x):=by rw[List.getElem?_map,hx];rfl
  have hax:=ha x (zq4 hx);have ho:zOk x=if x.2.length=0 then !x.1 else decide (x.2.getD (x.2.length - 1) 0≠0):=by unfold zOk;rfl
  have nx:zOk x=true→∀(j:Nat) y,j < k+1→l[j]? =some y→zOk y=true:=fun ht j y hj hy=>by
   by_cases hjk:j < k
   ·exact he j y hjk hy
   ·obtain rfl:j=k:=by omega
    rw[hx]at hy;rw[←Option.some.inj hy];exact ht
  by_cases h0:x.2.length=0
  ·rw[if_pos h0]at ho;cases h1:x.1
   ·rw[h1]at ho;refine SX.goM ?_;exact W.next (k+1) ⟨h,nx ho⟩ (by omega)
   ·rw[h1]at ho;refine SX.goM ?_;refine aJ ?_;rw[wZ hx ho];rfl
  ·rw[if_neg h0]at ho;obtain⟨w,hw⟩:∃w,x.2[x.2.length - 1]? =some w:=⟨_,zq2 (by omega)⟩
   have hg:x.2.getD (x.2.length - 1) 0=w:=by rw[zq3,hw];rfl
   rw[hg]at ho;by_cases h1:w=0
   ·rw[decide_eq_false (fun e=>e h1)]at ho
    refine SX.goM ?_;refine aJ ?_;rw[wZ hx ho];rfl
   ·rw[decide_eq_true h1]at ho;refine SX.goM ?_;exact W.next (k+1) ⟨h,nx ho⟩ (by omega)
 ·obtain rfl:k=l.length:=by omega
  have h':¬l.length < (l.map rz).length:=by omega
  rw[vk he];unfold lz;by_cases h0:l.length=0
  ·refine SX.goM ?_;refine aJ ?_;rw[decide_eq_true h0];rfl
  ·obtain⟨x,hx⟩:∃x,l[l.length - 1]? =some x:=⟨_,zq2 (by omega)⟩
   have hq:(l.map rz)[(l.map rz).length - 1]? =some (rz x):=by rw[hlen,List.getElem?_map,hx];rfl
   have hg:l.getD (l.length - 1) (false,[])=x:=by rw[zq3,hx];rfl
   have hax:=ha x (zq4 hx);have cS:=(lC (h:=ZI.raw x.1 x.2)).h (show x.2.length≤1099511627775 by omega)
   have hs0:aV (rzv x)=0↔rzv x=0:=by unfold aV;(repeat' split) <;> omega
   change ah _ _ _ (.v (.int .i64 (aV (rzv x))))at cS
   rw[hg];refine SX.goM ?_;refine aJ ?_;rw[decide_eq_false h0,Bool.true_and,Bool.false_or,decide_eq_decide,Ne,Ne,hs0]
end
section
attribute [local irreducible] IntKind.wrap Go1 Reg WP aS aT bR bO aQ aC ak aj aX Sat
attribute [local irreducible] bT bX bY dw bZ qv dR mf PrP qOk zOk vP dQ lz
theorem ae0(q:fV)(hq:(Sm WB q.2.1∧Sm WB q.2.2.2)∧q.2.1.length≤100000∧q.2.2.2.length≤100000):ah prog 94 [.agg (q4A (rq q))] (.v (.bool (!qOk q))):=by
 have c:=agn q hq.1 (by omega)
 refine ah.fnF func94 results94 ntmps94 rfl rfl rfl (by simp[AV.ids,AV0.ids,Atom.ids]) rfl (fun w0 T B E0 hB=>?_)
 refine SX.goM ?_;exact aJ rfl
theorem af4(z:kW)(hz:Sm WB z.2∧z.2.length≤100000):ah prog 96 [.agg (z2A (rz z))] (.v (.bool (!zOk z))):=by
 have c:=sM z (by omega)
 refine ah.fnF func96 results96 ntmps96 rfl rfl rfl (by simp[AV.ids,AV0.ids,Atom.ids]) rfl (fun w0 T B E0 hB=>?_)
 refine SX.goM ?_;exact aJ rfl
theorem afY(v:Vl)(d:Int)(b:Bool)(hd:0 < d)(hd2:d≤100)(c:ah prog 52 [.agg (vlA v),.v (.int .i64 (d - 1))] (.v (.bool b))):ah prog 101 [.agg (vlA v),.r (bJ [.val (.int .i64 d)])] (.v (.bool (!b))):=by
 refine ah.fnF func101 results101 ntmps101 rfl rfl rfl (by simp[AV.ids,AV0.ids,Atom.ids]) rfl (fun w0 T B E0 hB=>?_)
 refine SX.goM ?_;exact aJ rfl
theorem qmF(r c:Int){n:Nat}{cells:List CA}:ah prog 92 [.agg [.c (.val (.int .i64 r)),.c (.val (.int .i64 c)),.c (.sat (aM 4 n cells))]] (.v (.bool (dQ r c n))):=by
 unfold dQ;exact(aaO r c).h trivial
section
variable(v:Vl)(d:Nat)(hz:vZ0 v)
include hz
theorem mU:ah prog 90 [.agg (vlA v),.r (aM 1 1 [.val (.int .i64 v.k)])] (.v (.bool (decide (vP v=0)))):=akV v hz
theorem xJ(hP:vP v≠0):ah prog 52 [.agg (vlA v),.v (.int .i64 (d:Int))] (.v (.bool (vF d v))):=by
 have c:=mU v hz;rw[decide_eq_false hP]at c;rw[vF_P hP];refine ah.fnF func52 results52 ntmps52 rfl rfl rfl (by simp[AV.ids,AV0.ids,Atom.ids]) rfl (fun w0 T B E0 hB=>?_)
 refine SX.goM ?_;exact aJ rfl
theorem uw(hP:vP v=0)(hk:v.k=1):ah prog 52 [.agg (vlA v),.v (.int .i64 (d:Int))] (.v (.bool (vF d v))):=by
 have c:=mU v hz;rw[decide_eq_true hP]at c;rw[vF_1 hP hk];have cF:=agn v.q hz.q.1 (by have:=hz.q.2;omega)
 refine ah.fnF func52 results52 ntmps52 rfl rfl rfl (by simp[AV.ids,AV0.ids,Atom.ids]) rfl (fun w0 T B E0 hB=>?_)
 refine SX.goM ?_;exact aJ rfl
theorem uq(hP:vP v=0)(hk:v.k=2):ah prog 52 [.agg (vlA v),.v (.int .i64 (d:Int))] (.v (.bool (vF d v))):=by
 have c:=mU v hz;rw[decide_eq_true hP]at c;rw[vF_2 hP hk];have cA:=alA v.a 94 (fun x=>!qOk x) (fun x hx=>ae0 x (hz.a x hx)) hz.al
 have cF:=qmF v.r v.c (n:=(v.a.map rq).length) (cells:=(v.a.map rq).flatMap q4C);have hl:(v.a.map rq).length=v.a.length:=zq5 _;unfold mOk;rw[←hl,←zx];cases h:dQ v.r v.c (v.a.map rq).length
 ·rw[h]at cF;refine ah.fnF func52 results52 ntmps52 rfl rfl rfl (by simp[AV.ids,AV0.ids,Atom.ids]) rfl (fun w0 T B E0 hB=>?_)
  refine SX.goM ?_;refine aJ ?_;rw[Bool.and_false]
 ·rw[h]at cF;refine ah.fnF func52 results52 ntmps52 rfl rfl rfl (by simp[AV.ids,AV0.ids,Atom.ids]) rfl (fun w0 T B E0 hB=>?_)
  refine SX.goM ?_;refine aJ ?_;rw[Bool.and_true]
theorem vw(hP:vP v=0)(hk:v.k=3):ah prog 52 [.agg (vlA v),.v (.int .i64 (d:Int))] (.v (.bool (vF d v))):=by
 have c:=mU v hz;rw[decide_eq_true hP]at c;rw[vF_3 hP hk];have cA:=akF v.po 96 (fun x=>!zOk x) (fun x hx=>af4 x (hz.po x hx)) hz.pol
 have hl:(v.po.map rz).length=v.po.length:=zq5 _;have hb:=hz.pol;unfold pOk lz;rw[←zx];by_cases h0:v.po.length=0
 ·rw[decide_eq_true h0,Bool.true_or,Bool.and_true];refine ah.fnF func52 results52 ntmps52 rfl rfl rfl (by simp[AV.ids,AV0.ids,Atom.ids]) rfl (fun w0 T B E0 hB=>?_)
  refine SX.goM ?_;exact aJ rfl
 ·obtain⟨x,hx⟩:∃x,v.po[v.po.length - 1]? =some x:=⟨_,zq2 (by omega)⟩
  have hq:(v.po.map rz)[(v.po.map rz).length - 1]? =some (rz x):=by rw[hl,List.getElem?_map,hx];rfl
  have hg:v.po.getD (v.po.length - 1) (false,[])=x:=by rw[zq3,hx];rfl
  have hax:=hz.po x (zq4 hx);have cS:=(lC (h:=ZI.raw x.1 x.2)).h (show x.2.length≤1099511627775 by omega)
  have hs0:aV (rzv x)=0↔rzv x=0:=by unfold aV;(repeat' split) <;> omega
  change ah _ _ _ (.v (.int .i64 (aV (rzv x))))at cS
  rw[hg,decide_eq_false h0,Bool.false_or];by_cases h1:rzv x=0
  ·have h2:aV (rzv x)=0:=hs0.2 h1;rw[decide_eq_false (fun e=>e h1),Bool.and_false]
   refine ah.fnF func52 results52 ntmps52 rfl rfl rfl (by simp[AV.ids,AV0.ids,Atom.ids]) rfl (fun w0 T B E0 hB=>?_)
   refine SX.goM ?_;exact aJ rfl
  ·have h2:¬aV (rzv x)=0:=fun e=>h1 (hs0.1 e)
   rw[decide_eq_true h1,Bool.and_true];refine ah.fnF func52 results52 ntmps52 rfl rfl rfl (by simp[AV.ids,AV0.ids,Atom.ids]) rfl (fun w0 T B E0 hB=>?_)
   refine SX.goM ?_;exact aJ rfl
theorem vR(hP:vP v=0)(hk:v.k=4):ah prog 52 [.agg (vlA v),.v (.int .i64 (d:Int))] (.v (.bool (vF d v))):=by
 have c:=mU v hz;rw[decide_eq_true hP]at c;rw[vF_4 hP hk];have cB:=ace v v.fa hz.p hz.fal;have cF:ah prog 98 [.agg [.c (.val (.int .i64 v.fr)),.c (.val (.int .i64 v.fc)),.c (.sat (aA 1 wdC v.fa))]] (.v (.bool (dQ v.fr v.fc v.fa.length))):=xM v.fr v.fc;unfold fOk;cases h:dQ v.fr v.fc v.fa.length
 ·rw[h]at cF;refine ah.fnF func52 results52 ntmps52 rfl rfl rfl (by simp[AV.ids,AV0.ids,Atom.ids]) rfl (fun w0 T B E0 hB=>?_)
  refine SX.goM ?_;refine aJ ?_;rw[Bool.and_false,Bool.and_false]
 ·rw[h]at cF;refine ah.fnF func52 results52 ntmps52 rfl rfl rfl (by simp[AV.ids,AV0.ids,Atom.ids]) rfl (fun w0 T B E0 hB=>?_)
  refine SX.goM ?_;refine aJ ?_;rw[Bool.and_true]
theorem vT(hP:vP v=0)(hk:v.k=5):ah prog 52 [.agg (vlA v),.v (.int .i64 (d:Int))] (.v (.bool (vF d v))):=by
 have c:=mU v hz;rw[decide_eq_true hP]at c;rw[vF_5 hP hk];have cB:=ace v v.ri hz.p hz.ril;have hb:=hz.ril;unfold rOk lw;rw[←Bool.and_assoc];generalize (decide (PrP v.p)&&v.ri.all (ltp v.p))=b at cB ⊢;cases b
 ·refine ah.fnF func52 results52 ntmps52 rfl rfl rfl (by simp[AV.ids,AV0.ids,Atom.ids]) rfl (fun w0 T B E0 hB=>?_)
  refine SX.goM ?_;exact aJ rfl
 ·by_cases h0:v.ri.length=0
  ·rw[decide_eq_true h0];refine ah.fnF func52 results52 ntmps52 rfl rfl rfl (by simp[AV.ids,AV0.ids,Atom.ids]) rfl (fun w0 T B E0 hB=>?_)
   refine SX.goM ?_;exact aJ rfl
  ·obtain⟨x,hx⟩:∃x,v.ri[v.ri.length - 1]? =some x:=⟨_,zq2 (by omega)⟩
   have hg:v.ri.getD (v.ri.length - 1) 0=x:=by rw[zq3,hx];rfl
   rw[hg,decide_eq_false h0,Bool.false_or,Bool.true_and];refine ah.fnF func52 results52 ntmps52 rfl rfl rfl (by simp[AV.ids,AV0.ids,Atom.ids]) rfl (fun w0 T B E0 hB=>?_)
   refine SX.goM ?_;refine aJ ?_;rw[decide_eq_decide];omega
theorem tY(hP:vP v=0)(hk:v.k=6)(hd:d≤20)(hr:∀e,d=e+1→∀x∈v.li,ah prog 52 [.agg (vlA x),.v (.int .i64 (e:Int))] (.v (.bool (vF e x)))):ah prog 52 [.agg (vlA v),.v (.int .i64 (d:Int))] (.v (.bool (vF d v))):=by
 have c:=mU v hz;rw[decide_eq_true hP]at c;cases d with
 |zero=>
  rw[amQ hk];refine ah.fnF func52 results52 ntmps52 rfl rfl rfl (by simp[AV.ids,AV0.ids,Atom.ids]) rfl (fun w0 T B E0 hB=>?_)
  refine SX.goM ?_;refine SX.WP.eP 3 hB rfl rfl ?_;refine SX.WP.aF ?_;refine SX.goM ?_;exact aJ rfl
 |succ e=>
  rw[vF_6 hP hk,←zx];have cA:=an5 v.li (.sat (dP 101 [] [.sat (bJ [.val (.int .i64 ((e+1:Nat):Int))])])) (fun x=>!vF e x) (fun x hx=>FnV.clo (afY x ((e+1:Nat):Int) (vF e x) (by omega) (by omega) (by
   rw[show ((e+1:Nat):Int) - 1=(e:Int)by omega];exact hr e rfl x hx))) hz.lil rfl
  refine ah.fnF func52 results52 ntmps52 rfl rfl rfl (by simp[AV.ids,AV0.ids,Atom.ids]) rfl (fun w0 T B E0 hB=>?_)
  refine SX.goM ?_;refine SX.WP.eP 3 hB rfl rfl ?_;refine SX.WP.aF ?_;refine SX.goM ?_;exact aJ rfl
theorem u7(hP:vP v=0)(hk:v.k≠1∧v.k≠2∧v.k≠3∧v.k≠4∧v.k≠5∧v.k≠6):ah prog 52 [.agg (vlA v),.v (.int .i64 (d:Int))] (.v (.bool (vF d v))):=by
 have c:=mU v hz;rw[decide_eq_true hP]at c;rw[vF_7 hk];refine ah.fnF func52 results52 ntmps52 rfl rfl rfl (by simp[AV.ids,AV0.ids,Atom.ids]) rfl (fun w0 T B E0 hB=>?_)
 refine SX.goM ?_;exact aJ rfl
end
theorem agx:∀(n d:Nat) (v:Vl),vZ n v→d≤20→ah prog 52 [.agg (vlA v),.v (.int .i64 (d:Int))] (.v (.bool (vF d v))):=by
 intro n
 induction n with
 |zero=>
  intro d v hv hd;by_cases hP:vP v=0
  ·have hk:v.k=1∨v.k=2∨v.k=3∨v.k=4∨v.k=5∨v.k=6∨(v.k≠1∧v.k≠2∧v.k≠3∧v.k≠4∧v.k≠5∧v.k≠6):=by omega
   rcases hk with hk|hk|hk|hk|hk|hk|hk
   ·exact uw v d hv.z hP hk
   ·exact uq v d hv.z hP hk
   ·exact vw v d hv.z hP hk
   ·exact vR v d hv.z hP hk
   ·exact vT v d hv.z hP hk
   ·exact tY v d hv.z hP hk hd fun e _ x hx=>by rw[hv.2]at hx;cases hx
   ·exact u7 v d hv.z hP hk
  ·exact xJ v d hv.z hP
 |succ n ih=>
  intro d v hv hd;by_cases hP:vP v=0
  ·have hk:v.k=1∨v.k=2∨v.k=3∨v.k=4∨v.k=5∨v.k=6∨(v.k≠1∧v.k≠2∧v.k≠3∧v.k≠4∧v.k≠5∧v.k≠6):=by omega
   rcases hk with hk|hk|hk|hk|hk|hk|hk
   ·exact uw v d hv.z hP hk
   ·exact uq v d hv.z hP hk
   ·exact vw v d hv.z hP hk
   ·exact vR v d hv.z hP hk
   ·exact vT v d hv.z hP hk
   ·exact tY v d hv.z hP hk hd fun e he x hx=>ih e x (hv.2 x hx) (by omega)
   ·exact u7 v d hv.z hP hk
  ·exact xJ v d hv.z hP
theorem xS{n:Nat}{v:Vl}(hv:vZ n v):ah prog 32 [.agg (vlA v)] (.v (.bool (vF 20 v))):=by
 have c:=agx n 20 v hv (Nat.le_refl _);refine ah.fnF func32 results32 ntmps32 rfl rfl rfl (by simp[AV.ids,AV0.ids,Atom.ids]) rfl (fun w0 T B E0 hB=>?_)
 refine SX.goM ?_;exact aJ rfl
end
section
section
abbrev vlB(v:Vl):List Atom:=[.c (.val (.int .i64 v.k)),.c (.val (.bool v.q.1)),.c (.sat (dN v.q.2.1)),.c (.val (.bool v.q.2.2.1)),.c (.sat (dN v.q.2.2.2)),.c (.val (.int .i64 v.r)),.c (.val (.int .i64 v.c)),.c (.sat (aA 4 q4C (v.a.map rq))),.c (.sat (aA 2 z2C (v.po.map rz))),.c (.val (.int .u64 (v.p:Int))),.c (.val (.int .i64 v.fr)),.c (.val (.int .i64 v.fc)),.c (.sat (aA 1 wdC v.fa)),.c (.sat (aA 1 wdC v.ri)),.c (.sat (aA 15 vlE v.li))]
theorem ac3(v:Vl):vlA v=vlB v:=by unfold vlA vlB;rw[uV]
attribute [local irreducible] IntKind.wrap Go1 Reg WP aS aT bR bO aQ aC ak aj aX Sat
attribute [local irreducible] bT bX bY dw bZ qv dR mf PrP qOk zOk vP dQ lz
section
variable(v:Vl)(d:Nat)(hz:vZ0 v)
include hz
omit hz in
theorem aiQ(hP:vP v≠0):ah prog 11 [.agg (vlA v),.v (.int .i64 (d:Int))] (.v (.bool (vF d v))):=by
 have c:=jl v;rw[vF_P hP];refine ah.fnF func11 results11 ntmps11 rfl rfl rfl (by simp[AV.ids,AV0.ids,Atom.ids]) rfl (fun w0 T B E0 hB=>?_)
 refine SX.goM ?_;exact aJ rfl
theorem aeR(hP:vP v=0)(hk:v.k=1):ah prog 11 [.agg (vlA v),.v (.int .i64 (d:Int))] (.v (.bool (vF d v))):=by
 have c:=jl v;rw[hP]at c;rw[vF_1 hP hk];have cF:=aii v.q hz.q.1 (by have:=hz.q.2;omega)
 refine ah.fnF func11 results11 ntmps11 rfl rfl rfl (by simp[AV.ids,AV0.ids,Atom.ids]) rfl (fun w0 T B E0 hB=>?_)
 refine SX.goM ?_;exact aJ rfl
theorem aeC(hP:vP v=0)(hk:v.k=2):ah prog 11 [.agg (vlA v),.v (.int .i64 (d:Int))] (.v (.bool (vF d v))):=by
 have c:=jl v;rw[hP]at c;rw[vF_2 hP hk];have cF:=ads v.r v.c v.a hz.al hz.a;refine ah.fnF func11 results11 ntmps11 rfl rfl rfl (by simp[AV.ids,AV0.ids,Atom.ids]) rfl (fun w0 T B E0 hB=>?_)
 refine SX.goM ?_;exact aJ rfl
theorem aeE(hP:vP v=0)(hk:v.k=3):ah prog 11 [.agg (vlA v),.v (.int .i64 (d:Int))] (.v (.bool (vF d v))):=by
 have c:=jl v;rw[hP]at c;rw[vF_3 hP hk];have cF:=ada v.po hz.pol hz.po;refine ah.fnF func11 results11 ntmps11 rfl rfl rfl (by simp[AV.ids,AV0.ids,Atom.ids]) rfl (fun w0 T B E0 hB=>?_)
 refine SX.goM ?_;exact aJ rfl
theorem aeY(hP:vP v=0)(hk:v.k=4):ah prog 11 [.agg (vlA v),.v (.int .i64 (d:Int))] (.v (.bool (vF d v))):=by
 have c:=jl v;rw[hP]at c;rw[vF_4 hP hk];have cF:=adI v.fr v.fc v.fa v.p hz.fal;have cP:=abo v.p (by have:=hz.p;rw[bB]at this;exact this)
 by_cases h:PrP v.p
 ·rw[decide_eq_true h]at cP ⊢;refine ah.fnF func11 results11 ntmps11 rfl rfl rfl (by simp[AV.ids,AV0.ids,Atom.ids]) rfl (fun w0 T B E0 hB=>?_)
  refine SX.goM ?_;exact aJ rfl
 ·rw[decide_eq_false h]at cP ⊢;refine ah.fnF func11 results11 ntmps11 rfl rfl rfl (by simp[AV.ids,AV0.ids,Atom.ids]) rfl (fun w0 T B E0 hB=>?_)
  refine SX.goM ?_;exact aJ rfl
theorem aeX(hP:vP v=0)(hk:v.k=5):ah prog 11 [.agg (vlA v),.v (.int .i64 (d:Int))] (.v (.bool (vF d v))):=by
 have c:=jl v;rw[hP]at c;rw[vF_5 hP hk];have cP:=abo v.p (by have:=hz.p;rw[bB]at this;exact this)
 have hb:=hz.ril;unfold rOk;refine ah.fnF func11 results11 ntmps11 rfl rfl rfl (by simp[AV.ids,AV0.ids,Atom.ids]) rfl (fun w0 T B E0 hB=>?_)
 refine SX.goM ?_;refine W.loop (fun k=>k≤v.ri.length∧∀(j:Nat) x,j < k→v.ri[j]? =some x→ltp v.p x=true) (fun k=>[(2,.ptr 2 0),(5,.v (.int .i64 (k:Int)))]) (fun k=>[(2,.box 50 (vlA v))]) (fun k=>v.ri.length - k) 0 ⟨Nat.zero_le _,fun j x h=>by omega⟩ (fun k ⟨hk,he⟩=>?_)
 by_cases h:k < v.ri.length
 ·obtain⟨x,hx⟩:∃x,v.ri[k]? =some x:=⟨_,zq2 h⟩
  by_cases ho:x < v.p
  ·refine SX.goM ?_;refine W.next (k+1) ⟨h,fun j y hj hy=>?_⟩ (by omega)
   by_cases hjk:j < k
   ·exact he j y hjk hy
   ·obtain rfl:j=k:=by omega
    rw[hx]at hy;rw[←Option.some.inj hy];exact decide_eq_true ho
  ·refine SX.goM ?_;refine aJ ?_;rw[wZ hx (decide_eq_false ho),Bool.false_and,Bool.and_false]
 ·obtain rfl:k=v.ri.length:=by omega
  rw[vk he,Bool.true_and];by_cases hp:PrP v.p
  ·rw[decide_eq_true hp]at cP ⊢;unfold lw;by_cases h0:v.ri.length=0
   ·rw[decide_eq_true h0];refine SX.goM ?_;exact aJ rfl
   ·obtain⟨x,hx⟩:∃x,v.ri[v.ri.length - 1]? =some x:=⟨_,zq2 (by omega)⟩
    have hg:v.ri.getD (v.ri.length - 1) 0=x:=by rw[zq3,hx];rfl
    rw[hg,decide_eq_false h0,Bool.false_or,Bool.true_and];refine SX.goM ?_;refine aJ ?_;rw[decide_eq_decide];omega
  ·rw[decide_eq_false hp]at cP ⊢;refine SX.goM ?_;exact aJ rfl
theorem afc(hP:vP v=0)(hk:v.k=6)(hd:d≤20)(hr:∀e,d=e+1→∀x∈v.li,ah prog 11 [.agg (vlA x),.v (.int .i64 (e:Int))] (.v (.bool (vF e x)))):ah prog 11 [.agg (vlA v),.v (.int .i64 (d:Int))] (.v (.bool (vF d v))):=by
 have c:=jl v;rw[hP]at c;have hb:=hz.lil;rw[ac3]at c ⊢;cases d with
 |zero=>
  rw[amQ hk];refine ah.fnF func11 results11 ntmps11 rfl rfl rfl (by simp[AV.ids,AV0.ids,Atom.ids]) rfl (fun w0 T B E0 hB=>?_)
  refine SX.goM ?_;refine W.loop (fun k:Nat=>k=0) (fun k=>[(1,.v (.int .i64 0)),(2,.ptr 2 0),(6,.v (.int .i64 (k:Int)))]) (fun k=>[(2,.box 50 (vlB v))]) (fun k=>k) 0 rfl (fun k hk=>?_)
  subst hk;by_cases h:0 < v.li.length
  ·refine SX.goM ?_;exact aJ rfl
  ·refine SX.goM ?_;exact aJ rfl
 |succ e=>
  rw[vF_6 hP hk];refine ah.fnF func11 results11 ntmps11 rfl rfl rfl (by simp[AV.ids,AV0.ids,Atom.ids]) rfl (fun w0 T B E0 hB=>?_)
  refine SX.goM ?_;refine W.loop (fun k=>k≤v.li.length∧∀(j:Nat) x,j < k→v.li[j]? =some x→vF e x=true) (fun k=>[(1,.v (.int .i64 ((e+1:Nat):Int))),(2,.ptr 2 0),(6,.v (.int .i64 (k:Int)))]) (fun k=>[(2,.box 50 (vlB v))]) (fun k=>v.li.length - k) 0 ⟨Nat.zero_le _,fun j x h=>by omega⟩ (fun k ⟨hk,he⟩=>?_)
  by_cases h:k < v.li.length
  ·obtain⟨x,hx⟩:∃x,v.li[k]? =some x:=⟨_,zq2 h⟩
   have cE:=hr e rfl x (zq4 hx);rw[show (e:Int)=((e+1 - 1:Nat):Int)by omega]at cE
   cases ho:vF e x with
   |true=>
    rw[ho]at cE;refine SX.goM ?_;refine W.next (k+1) ⟨h,fun j y hj hy=>?_⟩ (by omega)
    by_cases hjk:j < k
    ·exact he j y hjk hy
    ·obtain rfl:j=k:=by omega
     rw[hx]at hy;rw[←Option.some.inj hy];exact ho
   |false=>
    rw[ho]at cE;refine SX.goM ?_;refine aJ ?_;rw[wZ hx ho]
  ·obtain rfl:k=v.li.length:=by omega
   rw[vk he];refine SX.goM ?_;refine aJ ?_;exact decide_eq_true (by omega)
omit hz in
theorem afr(hP:vP v=0)(hk:v.k≠1∧v.k≠2∧v.k≠3∧v.k≠4∧v.k≠5∧v.k≠6):ah prog 11 [.agg (vlA v),.v (.int .i64 (d:Int))] (.v (.bool (vF d v))):=by
 have c:=jl v;rw[hP]at c;rw[vF_7 hk];refine ah.fnF func11 results11 ntmps11 rfl rfl rfl (by simp[AV.ids,AV0.ids,Atom.ids]) rfl (fun w0 T B E0 hB=>?_)
 refine SX.goM ?_;exact aJ rfl
end
theorem ab8:∀(n d:Nat) (v:Vl),vZ n v→d≤20→ah prog 11 [.agg (vlA v),.v (.int .i64 (d:Int))] (.v (.bool (vF d v))):=by
 intro n
 induction n with
 |zero=>
  intro d v hv hd;by_cases hP:vP v=0
  ·have hk:v.k=1∨v.k=2∨v.k=3∨v.k=4∨v.k=5∨v.k=6∨(v.k≠1∧v.k≠2∧v.k≠3∧v.k≠4∧v.k≠5∧v.k≠6):=by omega
   rcases hk with hk|hk|hk|hk|hk|hk|hk
   ·exact aeR v d hv.z hP hk
   ·exact aeC v d hv.z hP hk
   ·exact aeE v d hv.z hP hk
   ·exact aeY v d hv.z hP hk
   ·exact aeX v d hv.z hP hk
   ·exact afc v d hv.z hP hk hd fun e _ x hx=>by rw[hv.2]at hx;cases hx
   ·exact afr v d hP hk
  ·exact aiQ v d hP
 |succ n ih=>
  intro d v hv hd;by_cases hP:vP v=0
  ·have hk:v.k=1∨v.k=2∨v.k=3∨v.k=4∨v.k=5∨v.k=6∨(v.k≠1∧v.k≠2∧v.k≠3∧v.k≠4∧v.k≠5∧v.k≠6):=by omega
   rcases hk with hk|hk|hk|hk|hk|hk|hk
   ·exact aeR v d hv.z hP hk
   ·exact aeC v d hv.z hP hk
   ·exact aeE v d hv.z hP hk
   ·exact aeY v d hv.z hP hk
   ·exact aeX v d hv.z hP hk
   ·exact afc v d hv.z hP hk hd fun e he x hx=>ih e x (hv.2 x hx) (by omega)
   ·exact afr v d hP hk
  ·exact aiQ v d hP
end
section
theorem vZ0.num{v:Rat}{K:Nat}(h:RB v K)(hK:K≤100000):vZ0 (fJ v) where
 q:=⟨aip v,Nat.le_trans (lg h.n) hK,Nat.le_trans (lg (by rw[Int.natAbs_natCast];exact h.d)) hK⟩
 a:=by intro x hx;cases hx
 al:=Nat.zero_le _
 po:=by intro x hx;cases hx
 pol:=Nat.zero_le _
 p:=aW
 fa:=by intro x hx;cases hx
 fal:=Nat.zero_le _
 ri:=by intro x hx;cases hx
 ril:=Nat.zero_le _
 lil:=Nat.zero_le _
theorem vZ.num{v:Rat}{K:Nat}(h:RB v K)(hK:K≤100000):vZ 0 (fJ v):=⟨vZ0.num h hK,rfl⟩
theorem asH(v:Rat):vP (fJ v)=0:=(vP0 _).2 ⟨.inl rfl,.inr ⟨rfl,rfl,rfl⟩,.inr rfl,.inr ⟨rfl,rfl,rfl⟩,.inr rfl,.inr (.inr rfl),.inr rfl⟩
theorem ap1(d:Nat)(v:Rat):vF d (fJ v)=true:=by
 rw[vF_1 (asH v) rfl];exact(zy (aip v)).2 (by rw[iU])
theorem amN(p q:Int):rmk p q=((qv p q).num,((qv p q).den:Int)):=by
 have h2:Nat.Coprime (qv p q).num.natAbs (qv p q).den:=(qv p q).reduced;have hd:=(qv p q).den_nz;have:=Rd.uniq (mG p q) (zm p q) (r:=(qv p q).num) (s:=((qv p q).den:Int)) (by omega) (by unfold Int.gcd;rw[Int.natAbs_natCast];exact h2) (by rw[gV,iW])
 exact Prod.ext this.1 this.2
theorem aic(x:Rat):qv (sgn (cq x).1 (nval WB (cq x).2.1)) (sgn (cq x).2.2.1 (nval WB (cq x).2.2.2))=x:=iU x
def qS(v:Rat):List UInt8:=rS (v.num,(v.den:Int))
def qB(v:Rat):Nat:=max (bitLen v.num.natAbs) (bitLen v.den)
attribute [local irreducible] IntKind.wrap Go1 Reg WP aS aT bR bO aQ aC ak aj aX Sat
attribute [local irreducible] bT bX bY dw bZ qv dR mf PrP qOk zOk vP dQ lz vF cq rqv
theorem ahJ{x0 x1 x2 x3:Atom}{p q:Int}{k m:Nat}[h:ZI [x0,x1] p k][h':ZI [x2,x3] q m](hk:k+m≤1000000):ah prog 265 [.agg [x0,x1,x2,x3]] (.v (.int .i64 ((max (bitLen (rmk p q).1.natAbs) (bitLen (rmk p q).2.natAbs):Nat):Int))):=by
 refine q1 ⟨_,func265,rfl,rfl⟩ fun neg n neg2 n2 hz hz2 hn hn2=>?_
 subst hz;subst hz2;refine ah.fnF func265 results265 ntmps265 rfl rfl rfl (by simp[AV.ids,AV0.ids,Atom.ids]) rfl (fun w0 T B E0 hB=>?_)
 refine SX.goM ?_;exact gK rfl
theorem abX{q:fV}(hk:q.2.1.length+q.2.2.2.length≤1000000):ah prog 265 [.agg (q4A (rq q))] (.v (.int .i64 (qB (rqv q):Int))):=by
 have h:=ahJ (h:=ZI.raw q.1 q.2.1) (h':=ZI.raw q.2.2.1 q.2.2.2) hk;rw[amN]at h
 dsimp only at h
 rw[Int.natAbs_natCast]at h;unfold rqv qB;exact h
theorem aeT(v:Rat)(e:Int):ah prog 266 [.agg (qA v),.v (.bool true),.v (.int .i64 e)] (.tup [.agg (vlA (fJ v)),eNo 0]):=by
 refine ah.fnF func266 results266 ntmps266 rfl rfl rfl (by simp[AV.ids,AV0.ids,Atom.ids]) rfl (fun w0 T B E0 hB=>?_)
 refine SX.goM ?_;refine .ok (aC.mk2 ((ak.gJ rfl rfl rfl).imp ?_) (ak.tmp rfl));exact aiy
theorem agD{x y:Rat}{K L:Nat}(hx:RB x K)(hy:RB y L)(hK:K+L≤400000):ah prog 34 [.agg (vlA (fJ x)),.agg (vlA (fJ y))] (.v (.bool (decide (x=y)))):=by
 haveI:=Ra.cq hx
 haveI:=Ra.cq hy
 obtain⟨z,cA,hz,_⟩:=eCmp (q4A (rq (cq x))) (q4A (rq (cq y))) (K:=K) (K':=L) (by omega)
 rw[←decide_eq_decide.2 hz];refine ah.fnF func34 results34 ntmps34 rfl rfl rfl (by simp[AV.ids,AV0.ids,Atom.ids]) rfl (fun w0 T B E0 hB=>?_)
 refine SX.goM ?_;exact aJ rfl
theorem adU{x:Rat}{K:Nat}(hx:RB x K)(hK:K≤100000):ah prog 53 [.agg (q4A (rq (cq x)))] (.v (str (qS x))):=by
 have hl:=(vZ0.num hx hK).q.2
 dsimp only at hl
 have h:=(ahM (h:=ZI.raw (cq x).1 (cq x).2.1) (h':=ZI.raw (cq x).2.2.1 (cq x).2.2.2)).h (by omega)
 rw[amN]at h;rw[aic]at h;exact h
theorem aln{x:Rat}{K:Nat}(hx:RB x K)(hK:K≤100000):ah prog 33 [.agg (vlA (fJ x))] (.v (str (qS x))):=by
 have c:=adU hx hK;refine ah.fnF func33 results33 ntmps33 rfl rfl rfl (by simp[AV.ids,AV0.ids,Atom.ids]) rfl (fun w0 T B E0 hB=>?_)
 refine SX.goM ?_;exact lT rfl
theorem ahj{x:Rat}{K:Nat}(hx:RB x K)(hK:K≤100000):ah prog 12 [.agg (vlA (fJ x))] (.tup [.one (.c (.val (str (qS x)))),eNo 0]):=by
 have c:=aln hx hK;have c1:=xS (vZ.num hx hK);rw[ap1]at c1;refine ah.fnF func12 results12 ntmps12 rfl rfl rfl (by simp[AV.ids,AV0.ids,Atom.ids]) rfl (fun w0 T B E0 hB=>?_)
 refine SX.goM ?_;exact .ok (aC.mk2 (ak.tmp rfl) (ak.tmp rfl))
theorem akB{x:Rat}{K:Nat}(hx:RB x K)(hK:K≤100000):ah prog 238 [.agg (vlA (fJ x))] (.v (.int .i64 (qB x:Int))):=by
 have cO:=ajV 0 (by decide) (by decide)
 have cB:ah prog 35 [.r (bD (0:Int).natAbs)] (.v (.int .i64 0)):=by
  haveI:BdN 0 1:=⟨by rw[bB];decide⟩
  exact(xB (a:= .sat (bD 0))).h (by decide)
 have c:=abX (q:=cq x) (by have:=(vZ0.num hx hK).q.2;dsimp only at this;omega)
 rw[iU]at c;refine ah.fnF func238 results238 ntmps238 rfl rfl rfl (by simp[AV.ids,AV0.ids,Atom.ids]) rfl (fun w0 T B E0 hB=>?_)
 refine SX.goM ?_;exact gK rfl
end
section
theorem arC{vs:List Rat}{K:Nat}(h:∀v∈vs,RB v K)(hK:K≤100000):∀x∈vs.map cq,(Sm WB x.2.1∧Sm WB x.2.2.2)∧x.2.1.length≤100000∧x.2.2.2.length≤100000:=fun x hx=>by
 obtain⟨v,hv,rfl⟩:=List.mem_map.1 hx;exact(vZ0.num (h v hv) hK).q
theorem vZ0.mat{r c:Nat}{vs:List Rat}{K:Nat}(h:∀v∈vs,RB v K)(hK:K≤100000)(hl:vs.length≤100000):vZ0 (eF r c vs) where
 q:=⟨⟨Sm.nil,Sm.nil⟩,Nat.zero_le _,Nat.zero_le _⟩
 a:=arC h hK
 al:=by rw[zq5];exact hl
 po:=by intro x hx;cases hx
 pol:=Nat.zero_le _
 p:=aW
 fa:=by intro x hx;cases hx
 fal:=Nat.zero_le _
 ri:=by intro x hx;cases hx
 ril:=Nat.zero_le _
 lil:=Nat.zero_le _
theorem asR(r c:Nat)(vs:List Rat):vP (eF r c vs)=0:=(vP0 _).2 ⟨.inr ⟨rfl,rfl,rfl,rfl⟩,.inl rfl,.inr rfl,.inr ⟨rfl,rfl,rfl⟩,.inr rfl,.inr (.inr rfl),.inr rfl⟩
theorem atV(v:Rat):qOk (cq v)=true:=(zy (aip v)).2 (by rw[iU])
theorem aag{r c n:Nat}(hr:r≤64)(hc:c≤64)(hl:n=r*c):dQ (r:Int) (c:Int) n=true:=decide_eq_true ⟨by omega,by omega,by omega,by omega,by rw[hl];simp⟩
theorem atI(d:Nat){r c:Nat}{vs:List Rat}(hl:vs.length=r*c)(hr:r≤64)(hc:c≤64):vF d (eF r c vs)=true:=by
 rw[vF_2 (asR r c vs) rfl];unfold mOk;rw[Bool.and_eq_true];refine⟨List.all_eq_true.2 fun x hx=>?_,aag hr hc (by rw[zq5];exact hl)⟩
 obtain⟨v,_,rfl⟩:=List.mem_map.1 hx;exact atV v
theorem Ra.rawq{q:fV}(hs:Sm WB q.2.1∧Sm WB q.2.2.2){K:Nat}(h:q.2.1.length≤K∧q.2.2.2.length≤K):Ra (q4A (rq q)) (rqv q) K:=
 Ra.raw ⟨xR hs.1 (Nat.le_refl _)⟩ ⟨xR hs.2 (Nat.le_refl _)⟩ h.1 h.2
attribute [local irreducible] IntKind.wrap Go1 Reg WP aS aT bR bO aQ aC ak aj aX Sat
attribute [local irreducible] bT bX bY dw bZ qv dR mf PrP qOk zOk vP dQ lz vF cq rqv
end
end
section
open Go.ChangeShapes Go.WideShapes Go.ChangeAt Go.Joins
mutual
def rW:Vl→Prop
 |⟨k,q,r,c,a,po,p,fr,fc,fa,ri,li⟩=>(Sm WB q.2.1∧Sm WB q.2.2.2)∧RSm a∧(∀x∈po,Sm WB x.2)∧p < WB∧(∀x∈fa,x < WB)∧(∀x∈ri,x < WB)∧rWL li
def rWL:List Vl→Prop
 |[]=>True
 |v::l=>rW v∧rWL l
end
theorem aiL:∀l:List Vl,rWL l↔∀v∈l,rW v
 |[]=>by rw[rWL];simp
 |v::l=>by rw[rWL,aiL l];simp
theorem aaC(v:Vl):rW v↔(Sm WB v.q.2.1∧Sm WB v.q.2.2.2)∧RSm v.a∧(∀x∈v.po,Sm WB x.2)∧v.p < WB∧(∀x∈v.fa,x < WB)∧(∀x∈v.ri,x < WB)∧∀x∈v.li,rW x:=by
 cases v;rw[rW,aiL]
section
variable{H:Type}{enc:TypeId×Value→H}{W:World}{base:Nat}{sp:Nat→Bool}{hd:Bool}
theorem anY(n:Nat):dA enc prog W base sp hd n 44 wdC (fun w=>w < WB):=
 dA.imp (oM underlying44) Int.toNat (fun z hz=>by have:=bounds_u64 hz;rw[bB];omega) (fun z cs hz h=>by
  have:=bounds_u64 hz;show aK _ [CA.val (.int .u64 ((z.toNat:Nat):Int))] cs;rw[show ((z.toNat:Nat):Int)=z by omega];exact h)
theorem auo(n:Nat):dA enc prog W base sp hd n 24 (fun l:List Nat=>[.sat (aA 1 wdC l)]) (fun l=>∀x∈l,x < WB):=
 dA.all (fun n=>(jJ underlying24 (by kernel_rfl) (anY n)).conv id (fun _ h=>h.2) (fun _=>rfl)) n
theorem apS(n:Nat):dA enc prog W base sp hd n 47 (fun l:List Nat=>[.sat (aA 1 wdC l)]) (fun l=>∀x∈l,x < WB):=
 dA.all (fun n=>(jJ underlying47 (by kernel_rfl) (anY n)).conv id (fun _ h=>h.2) (fun _=>rfl)) n
theorem decFM(n:Nat):dA enc prog W base sp hd n 46 (fun p:Int×Int×List Nat=>[.val (.int .i64 p.1),.val (.int .i64 p.2.1),.sat (aA 1 wdC p.2.2)]) (fun p=>∀x∈p.2.2,x < WB):=
 dA.all (fun n=>dA.conv (yh underlying46 rfl (by kernel_rfl) (by kernel_rfl) (by kernel_rfl) (oM underlying3) (oM underlying3) (auo n)) id (fun p h=>h.2.2) (fun p=>rfl)) n
def vzC(p:kW):List CA:=z2C (rz p)
instance:dO vzC 2:=⟨fun _=>rfl⟩
theorem asG(l:List kW):aA 2 vzC l=aA 2 z2C (l.map rz):=by
 show aM 2 l.length (l.flatMap vzC)=aM 2 (l.map rz).length ((l.map rz).flatMap z2C);rw[zq5,List.flatMap_map];rfl
theorem aru(n:Nat):dA enc prog W base sp hd n 43 (fun l:List kW=>[.sat (aA 2 z2C (l.map rz))]) (fun l=>∀x∈l,Sm WB x.2):=
 dA.all (fun n=>(jJ (enc':=vzC) underlying43 (by kernel_rfl) ((alK n).conv (e':=vzC) (ψ:=fun p=>Sm WB p.2) id (fun _ h=>h) (fun _=>rfl))).conv id (fun _ h=>h.2) (fun l=>by
  show [CA.sat (aA 2 z2C (l.map rz))]=[CA.sat (aA 2 vzC l)];rw[asG])) n
theorem ahC:∀n:Nat,dA enc prog W base sp hd n 50 vlC rW∧dA enc prog W base sp hd (n+1) 48 (fun l:List Vl=>[.sat (aA 15 vlC l)]) (fun l=>∀x∈l,rW x)
 |0=>⟨dA.zero,(jJ underlying48 (by kernel_rfl) (dA.zero (e:=vlC) (φ:=rW))).conv id (fun _ h=>h.2) (fun _=>rfl)⟩
 |n+1=>by
  obtain⟨h1,h2⟩:=ahC n;have hs:dA enc prog W base sp hd n 48 (fun l:List Vl=>[.sat (aA 15 vlC l)]) (fun l=>∀x∈l,rW x):=by
   cases n with
   |zero=>exact dA.zero
   |succ m=>exact(ahC m).2
  have hn:dA enc prog W base sp hd (n+1) 50 vlC rW:=
   (afB underlying50 rfl (by kernel_rfl) (by kernel_rfl) (by kernel_rfl) (by kernel_rfl) (by kernel_rfl) (by kernel_rfl) (by kernel_rfl) (by kernel_rfl)
    (oM underlying3) (ahU n) (atO n) (aru n) (anY n) (decFM n) (apS n) hs).conv (fun p=>(⟨p.1,p.2.1,p.2.2.1.1,p.2.2.1.2.1,p.2.2.1.2.2,p.2.2.2.1,p.2.2.2.2.1,p.2.2.2.2.2.1.1,p.2.2.2.2.2.1.2.1,p.2.2.2.2.2.1.2.2,p.2.2.2.2.2.2.1,p.2.2.2.2.2.2.2⟩:Vl))
    (fun p h=>(aaC _).2 ⟨h.2.1,h.2.2.1,h.2.2.2.1,h.2.2.2.2.1,h.2.2.2.2.2.1,h.2.2.2.2.2.2.1,h.2.2.2.2.2.2.2⟩) (fun p=>by rw[acZ];rfl)
  exact⟨hn,(jJ underlying48 (by kernel_rfl) hn).conv id (fun _ h=>h.2) (fun _=>rfl)⟩
theorem decVal(n:Nat):dA enc prog W base sp hd n 50 vlE rW:=(ahC n).1.conv id (fun _ h=>h) (fun v=>(acZ v).symm)
end
def vW1(d:Nat)(v:Vl):Prop:=(v.po.length≤5∧∀x∈v.po,x.2.length≤2)∧v.ri.length≤5∧v.li.length≤4∧(v.li.length=0∨d≠0)∧v.p≤4294967296∧(v.q.2.1.length≤2∧v.q.2.2.2.length≤2)∧aec v.r v.c v.a 4 2∧(v.fr≤4∧v.fc≤4∧v.fa.length≤100)
def vW:Nat→Vl→Prop
 |0,v=>vW1 0 v∧v.li=[]
 |d+1,v=>vW1 (d+1) v∧∀x∈v.li,vW d x
theorem vW.one{d:Nat}{v:Vl}(h:vW d v):vW1 d v:=by cases d <;> exact h.1
theorem vZ.few:∀{d:Nat} {v:Vl},vW d v→rW v→vZ d v:=by
 have key:∀(d:Nat) (v:Vl),vW1 d v→rW v→vZ0 v:=fun d v h hr=>by
  obtain⟨h1,h2,h3,h4,h5,h6,h7,h8⟩:=h;obtain⟨r1,r2,r3,r4,r5,r6,r7⟩:=(aaC v).1 hr;exact⟨⟨r1,by omega,by omega⟩,fun x hx=>⟨r2 x hx,by have:=aec.len (w:=2) h7 x hx;omega⟩,by have:=h7.2.2.2;omega,fun x hx=>⟨r3 x hx,by have:=h1.2 x hx;omega⟩,by omega,r4,r5,by omega,r6,by omega,by omega⟩
 intro d
 induction d with
 |zero=>intro v h hr;exact⟨key 0 v h.1 hr,h.2⟩
 |succ d ih=>intro v h hr;exact⟨key _ v h.1 hr,fun x hx=>ih (h.2 x hx) (((aaC v).1 hr).2.2.2.2.2.2 x hx)⟩
end
section
attribute [local irreducible] IntKind.wrap Go1 Reg WP aS aT bR bO aQ aC ak aj aX Sat
attribute [local irreducible] bT bX bY dw bZ qv dR mf PrP qOk zOk vP dQ lz vF cq rqv
theorem ac6(l:List kW)(goal:Bool)(hl:l.length≤5)(hg:goal=true↔∀x∈l,x.2.length≤2):
  ah prog 22 [.r (aA 2 z2C (l.map rz)),.v (.int .i64 5),.v (.int .i64 2)] (.v (.bool goal)):=by
 have hlen:(l.map rz).length=l.length:=zq5 _;refine ah.fnF func22 results22 ntmps22 rfl rfl rfl (by simp[AV.ids,AV0.ids,Atom.ids]) rfl (fun w0 T B E0 hB=>?_)
 refine SX.goM ?_;refine W.loop (fun k=>k≤l.length∧∀(j:Nat) x,j < k→l[j]? =some x→x.2.length≤2) (fun k=>[(0,.r (aA 2 z2C (l.map rz))),(1,.v (.int .i64 5)),(2,.v (.int .i64 2)),(7,.v (.int .i64 (k:Int)))]) (fun _=>[]) (fun k=>l.length - k) 0 ⟨Nat.zero_le _,fun j x h=>absurd h (Nat.not_lt_zero _)⟩ (fun k ⟨hk,he⟩=>?_)
 by_cases h:k < l.length
 ·have h':k < (l.map rz).length:=by omega
  obtain⟨x,hx⟩:∃x,l[k]? =some x:=⟨_,zq2 h⟩
  have hq:(l.map rz)[k]? =some (rz x):=by rw[List.getElem?_map,hx];rfl
  by_cases h3:x.2.length≤2
  ·refine SX.goM ?_;refine W.next (k+1) ⟨h,fun j b hj hb=>?_⟩ (by omega)
   by_cases hjk:j < k
   ·exact he j b hjk hb
   ·obtain rfl:j=k:=by omega
    rw[hx]at hb;rw[←Option.some.inj hb];exact h3
  ·refine SX.goM ?_;refine aJ ?_;exact(Bool.eq_false_iff.2 fun ht=>h3 (hg.1 ht x (zq4 hx))).symm
 ·obtain rfl:k=l.length:=by omega
  have h':¬l.length < (l.map rz).length:=by omega
  have ht:goal=true:=hg.2 fun x hx=>by
   obtain⟨i,hi⟩:=List.mem_iff_getElem?.1 hx;exact he i x (kI hi) hi
  subst ht;refine SX.goM ?_;refine aJ ?_;exact decide_eq_true (by omega)
theorem akj(r c:Int)(l:List Nat):ah prog 25 [.agg [.c (.val (.int .i64 r)),.c (.val (.int .i64 c)),.c (.sat (aA 1 wdC l))],.v (.int .i64 4)] (.v (.bool (decide (r≤4∧c≤4∧l.length≤100)))):=by
 refine ah.fnF func25 results25 ntmps25 rfl rfl rfl (by simp[AV.ids,AV0.ids,Atom.ids]) rfl (fun w0 T B E0 hB=>?_)
 by_cases h1:r≤4
 ·by_cases h2:c≤4
  ·refine SX.goM ?_;refine aJ ?_;rw[decide_eq_decide];omega
  ·refine SX.goM ?_;refine aJ ?_;exact(decide_eq_false fun h=>h2 h.2.1).symm
 ·refine SX.goM ?_;refine aJ ?_;exact(decide_eq_false fun h=>h1 h.1).symm
theorem akU(q:fV):ah prog 23 [.agg (q4A (rq q)),.v (.int .i64 2)] (.v (.bool (decide (q.2.1.length≤2∧q.2.2.2.length≤2)))):=by
 have h:=(aiG q.1 q.2.1 q.2.2.1 q.2.2.2 2).h trivial;rw[show decide ((q.2.1.length:Int)≤2∧(q.2.2.2.length:Int)≤2)=decide (q.2.1.length≤2∧q.2.2.2.length≤2)from decide_eq_decide.2 (by omega)]at h
 exact h
set_option maxRecDepth 20000 in
set_option maxHeartbeats 2000000 in
theorem uI(v:Vl)(d:Nat)(hd:d≤20)(goal:Bool)(b:Vl→Prop)(hr:∀e,d=e+1→∀x∈v.li,(b x→ah prog 10 [.agg (vlA x),.v (.int .i64 (e:Int))] (.v (.bool true)))∧(¬b x→ah prog 10 [.agg (vlA x),.v (.int .i64 (e:Int))] (.v (.bool false))))
  (hg:goal=true↔vW1 d v∧∀x∈v.li,b x):ah prog 10 [.agg (vlA v),.v (.int .i64 (d:Int))] (.v (.bool goal)):=by
 have l2:(v.po.map rz).length=v.po.length:=zq5 _;have cq:=akU v.q;have cm:=aoO v.r v.c v.a 4 2;have cf:=akj v.fr v.fc v.fa;have no:∀{p:Prop},¬p→(vW1 d v∧(∀x∈v.li,b x)→p)→false=goal:=fun hn hp=>(Bool.eq_false_iff.2 fun ht=>hn (hp (hg.1 ht))).symm
 rw[ac3];refine ah.fnF func10 results10 ntmps10 rfl rfl rfl (by simp[AV.ids,AV0.ids,Atom.ids]) rfl (fun w0 T B E0 hB=>?_)
 by_cases h1:v.po.length≤5
 rotate_left
 ·refine SX.goM ?_;refine aJ (no h1 fun h=>?_);exact h.1.1.1
 by_cases h2:∀x∈v.po,x.2.length≤2
 rotate_left
 ·have c1:=ac6 v.po false h1 ⟨fun h=>(by cases h),fun h=>absurd h h2⟩
  refine SX.goM ?_;refine aJ (no h2 fun h=>?_);exact h.1.1.2
 have c1:=ac6 v.po true h1 ⟨fun _=>h2,fun _=>rfl⟩
 by_cases h3:v.ri.length≤5
 rotate_left
 ·refine SX.goM ?_;refine aJ (no h3 fun h=>?_);exact h.1.2.1
 by_cases h4:v.li.length≤4
 rotate_left
 ·refine SX.goM ?_;refine aJ (no h4 fun h=>?_);exact h.1.2.2.1
 by_cases h5:v.li.length=0∨d≠0
 rotate_left
 ·have h6:v.li.length > 0:=by omega
  have h7:d=0:=by omega
  refine SX.goM ?_;refine aJ (no h5 fun h=>?_);exact h.1.2.2.2.1
 by_cases h8:v.p≤4294967296
 rotate_left
 ·by_cases h6:v.li.length > 0
  ·have h7:d≠0:=by omega
   refine SX.goM ?_;refine aJ (no h8 fun h=>?_);exact h.1.2.2.2.2.1
  ·refine SX.goM ?_;refine aJ (no h8 fun h=>?_);exact h.1.2.2.2.2.1
 refine W.meet [(1,.v (.int .i64 (d:Int))),(2,.ptr 2 0)] [(2,.box 50 (vlB v))] ?_ ?_
 ·refine SX.goM ?_;exact W.le
 refine W.meet [(1,.v (.int .i64 (d:Int))),(2,.ptr 2 0)] [(2,.box 50 (vlB v))] ?_ ?_
 ·by_cases h6:v.li.length > 0
  ·have h7:d≠0:=by omega
   refine SX.goM ?_;exact W.le
  ·refine SX.goM ?_;exact W.le
 refine SX.goM ?_;refine W.loop (fun k=>k≤v.li.length∧∀(j:Nat) x,j < k→v.li[j]? =some x→b x) (fun k=>[(1,.v (.int .i64 (d:Int))),(2,.ptr 2 0),(5,.v (.int .i64 (k:Int)))]) (fun k=>[(2,.box 50 (vlB v))]) (fun k=>v.li.length - k) 0 ⟨Nat.zero_le _,fun j x h=>absurd h (Nat.not_lt_zero _)⟩ (fun k ⟨hk,he⟩=>?_)
 by_cases h:k < v.li.length
 ·obtain⟨e,rfl⟩:∃e,d=e+1:=⟨d - 1,by omega⟩
  obtain⟨x,hx⟩:∃x,v.li[k]? =some x:=⟨_,zq2 h⟩
  have hr2:=hr e rfl x (zq4 hx);rw[show (e:Int)=((e+1 - 1:Nat):Int)by omega]at hr2
  by_cases hb:b x
  ·have cE:=hr2.1 hb;refine SX.goM ?_;refine W.next (k+1) ⟨h,fun j y hj hy=>?_⟩ (by omega)
   by_cases hjk:j < k
   ·exact he j y hjk hy
   ·obtain rfl:j=k:=by omega
    rw[hx]at hy;rw[←Option.some.inj hy];exact hb
  ·have cE:=hr2.2 hb;refine SX.goM ?_;refine aJ (no hb fun h=>?_);exact h.2 x (zq4 hx)
 ·obtain rfl:k=v.li.length:=by omega
  have hall:∀x∈v.li,b x:=fun x hx=>by
   obtain⟨i,hi⟩:=List.mem_iff_getElem?.1 hx;exact he i x (kI hi) hi
  by_cases g1:v.q.2.1.length≤2∧v.q.2.2.2.length≤2
  ·rw[decide_eq_true g1]at cq;by_cases g2:aec v.r v.c v.a 4 2
   ·have cm:=cm.1 g2;by_cases g3:v.fr≤4∧v.fc≤4∧v.fa.length≤100
    ·rw[decide_eq_true g3]at cf;have ht:goal=true:=hg.2 ⟨⟨⟨h1,h2⟩,h3,h4,h5,h8,g1,g2,g3⟩,hall⟩;subst ht;refine SX.goM ?_;exact aJ rfl
    ·rw[decide_eq_false g3]at cf;refine SX.goM ?_;refine aJ (no g3 fun h=>?_);exact h.1.2.2.2.2.2.2.2
   ·have cm:=cm.2 g2;refine SX.goM ?_;refine aJ (no g2 fun h=>?_);exact h.1.2.2.2.2.2.2.1
  ·rw[decide_eq_false g1]at cq;refine SX.goM ?_;refine aJ (no g1 fun h=>?_);exact h.1.2.2.2.2.2.1
theorem akn:∀(d:Nat) (v:Vl),d≤20→(vW d v→ah prog 10 [.agg (vlA v),.v (.int .i64 (d:Int))] (.v (.bool true)))∧(¬vW d v→ah prog 10 [.agg (vlA v),.v (.int .i64 (d:Int))] (.v (.bool false))):=by
 intro d
 induction d with
 |zero=>
  intro v hd;have e:vW 0 v↔vW1 0 v∧∀x∈v.li,False:=by
   constructor
   ·intro h;exact⟨h.1,fun x hx=>by rw[h.2]at hx;cases hx⟩
   ·intro h;refine⟨h.1,?_⟩;cases hl:v.li with
    |nil=>rfl
    |cons x l=>exact(h.2 x (by rw[hl];exact List.mem_cons_self ..)).elim
  exact⟨fun h=>uI v 0 hd true (fun _=>False) (fun e he=>by omega) ⟨fun _=>e.1 h,fun _=>rfl⟩,fun h=>uI v 0 hd false (fun _=>False) (fun e he=>by omega) ⟨fun h2=>(by cases h2),fun h2=>absurd (e.2 h2) h⟩⟩
 |succ d ih=>
  intro v hd;have hr:∀e,d+1=e+1→∀x∈v.li,(vW d x→ah prog 10 [.agg (vlA x),.v (.int .i64 (e:Int))] (.v (.bool true)))∧(¬vW d x→ah prog 10 [.agg (vlA x),.v (.int .i64 (e:Int))] (.v (.bool false))):=fun e he x _=>by
   obtain rfl:d=e:=by omega
   exact ih x (by omega)
  exact⟨fun h=>uI v (d+1) hd true (vW d) hr ⟨fun _=>h,fun _=>rfl⟩,fun h=>uI v (d+1) hd false (vW d) hr ⟨fun h2=>(by cases h2),fun h2=>absurd h2 h⟩⟩
end
section
section
instance zeroZ:ahQ [.bool false,.slice none 0 0] (z2C (z2v 0)):=⟨fun S w=>⟨rfl,bD.zero,trivial⟩⟩
def pl(zs:List Int):Nat→Nat
 |0=>0
 |k+1=>if zs.getD k 0=0 then pl zs k else k+1
def eY(zs:List Int):Nat:=pl zs zs.length
def bW(zs:List Int):List Int:=zs.take (eY zs)
def pN(zs:List Int):Prop:=zs.length=0∨zs.getD (zs.length - 1) 0≠0
theorem asu(zs:List Int):∀k,pl zs k≤k
 |0=>Nat.le_refl _
 |k+1=>by unfold pl;split;exact Nat.le_succ_of_le (asu zs k);exact Nat.le_refl _
theorem amM(zs:List Int):∀k,pl zs k=0∨zs.getD (pl zs k - 1) 0≠0
 |0=> .inl rfl
 |k+1=>by
  unfold pl;split
  ·exact amM zs k
  ·next h=>exact .inr h
theorem aju(zs:List Int):∀(k j:Nat),pl zs k≤j→j < k→zs.getD j 0=0
 |0,j,_,h=>absurd h (Nat.not_lt_zero _)
 |k+1,j,h1,h2=>by
  unfold pl at h1
  split at h1
  ·next h=>
   by_cases hj:j=k
   ·subst hj;exact h
   ·exact aju zs k j h1 (by omega)
  ·omega
theorem aia(zs:List Int):eY zs≤zs.length:=asu zs _
theorem xG(zs:List Int):(bW zs).length=eY zs:=by unfold bW;rw[List.length_take];exact Nat.min_eq_left (aia zs)
theorem nW{zs:List Int}{j:Nat}(h:zs.length≤j):zs.getD j 0=0:=by rw[zq3,List.getElem?_eq_none h];rfl
theorem aan(zs:List Int)(j:Nat):(bW zs).getD j 0=zs.getD j 0:=by
 by_cases h:j < eY zs
 ·unfold bW;rw[zq3,List.getElem?_take,if_pos h,←zq3]
 ·rw[nW (by rw[xG];omega)]
  by_cases h2:j < zs.length
  ·exact(aju zs _ j (by unfold eY at h;omega) h2).symm
  ·exact(nW (by omega)).symm
theorem afM(zs:List Int):pN (bW zs):=by
 rcases amM zs zs.length with h|h
 ·exact .inl (by rw[xG];exact h)
 ·exact .inr (by rw[xG,aan];exact h)
theorem agP{a b:List Int}(ha:pN a)(hb:pN b)(h:∀j,a.getD j 0=b.getD j 0):a=b:=by
 have key:∀{a b:List Int},pN a→(∀j,a.getD j 0=b.getD j 0)→a.length≤b.length:=fun {a b} ha h=>by
  rcases ha with h0|h0
  ·omega
  ·rcases Nat.lt_or_ge b.length a.length with h1|h1
   ·rw[h,nW (by omega)]at h0;exact absurd rfl h0
   ·exact h1
 have hl:a.length=b.length:=Nat.le_antisymm (key ha h) (key hb fun j=>(h j).symm)
 apply List.ext_getElem?;intro j
 by_cases hj:j < a.length
 ·have:=h j;rw[zq3,zq3,zq2 hj,zq2 (by omega)]at this
  rw[zq2 hj,zq2 (by omega)]
  exact congrArg some this
 ·rw[List.getElem?_eq_none (by omega),List.getElem?_eq_none (by omega)]
theorem ah2{zs:List Int}(h:pN zs):bW zs=zs:=agP (afM zs) h (aan zs)
def adz(n:Nat)(f:Nat→Int):List Int:=(List.range n).map f
theorem ae3(n:Nat)(f:Nat→Int):(adz n f).length=n:=by unfold adz;rw[zq5,List.length_range]
theorem arH{n:Nat}{f:Nat→Int}{j:Nat}(h:j < n):(adz n f).getD j 0=f j:=by
 unfold adz;rw[zq3,List.getElem?_map,List.getElem?_range h];rfl
def dL(op:Int→Int→Int)(a b:List Int):List Int:=bW (adz (max a.length b.length) fun i=>op (a.getD i 0) (b.getD i 0))
theorem ane{op:Int→Int→Int}(h0:op 0 0=0)(a b:List Int)(j:Nat):(dL op a b).getD j 0=op (a.getD j 0) (b.getD j 0):=by
 unfold dL;rw[aan];by_cases h:j < max a.length b.length
 ·exact arH h
 ·rw[nW (by rw[ae3];omega),nW (zs:=a) (by omega),nW (zs:=b) (by omega),h0]
def ak6(l:List Z2)(i:Nat):Z2:=l.getD i (z2v 0)
theorem ZQ.zero(K:Nat):ZQ (z2v 0) 0 K:=ZQ.made (z:=0) (by rw[show (0:Int).natAbs=0 from rfl];exact fE K)
theorem MZ.pat{l:List Z2}{zs:List Int}{K:Nat}(h:MZ l zs K)(i:Nat):ZQ (ak6 l i) (zs.getD i 0) K:=by
 unfold ak6;rw[zq3,zq3]
 have hl:=h.len;by_cases hi:i < l.length
 ·rw[zq2 hi,zq2 (by omega)]
  exact h.z i _ _ (zq2 hi) (zq2 (by omega))
 ·rw[List.getElem?_eq_none (by omega),List.getElem?_eq_none (by omega)]
  exact ZQ.zero K
theorem aqP{f:Nat→Z2}{z:Z2}{n k:Nat}(hk:k < n):((List.range n).map fun i=>if i < k then f i else z).set k (f k)=(List.range n).map fun i=>if i < k+1 then f i else z:=by
 apply List.ext_getElem?
 intro j;rw[List.getElem?_set]
 by_cases hj:k=j
 ·subst hj;rw[if_pos rfl,if_pos (by rw[zq5,List.length_range];exact hk),List.getElem?_map,List.getElem?_range hk]
  simp
 ·rw[if_neg hj,List.getElem?_map,List.getElem?_map]
  by_cases hjn:j < n
  ·rw[List.getElem?_range hjn]
   simp only[Option.map_some];by_cases h1:j < k
   ·rw[if_pos h1,if_pos (by omega)]
   ·rw[if_neg h1,if_neg (by omega)]
  ·rw[List.getElem?_eq_none (by rw[List.length_range];omega)];rfl
theorem aqe{f:Nat→Z2}{z:Z2}{n:Nat}:((List.range n).map fun i=>if i < n then f i else z)=(List.range n).map f:=by
 refine List.map_congr_left fun i hi=>?_
 rw[if_pos (List.mem_range.1 hi)]
theorem apK{f:Nat→Z2}{z:Z2}{n:Nat}:(List.replicate n (z2C z)).flatten=((List.range n).map fun i=>if i < 0 then f i else z).flatMap z2C:=by
 have:((List.range n).map fun i=>if i < 0 then f i else z)=List.replicate n z:=by
  apply List.ext_getElem?;intro j
  rw[List.getElem?_map,List.getElem?_replicate]
  by_cases hj:j < n
  ·rw[List.getElem?_range hj,if_pos hj];simp
  ·rw[List.getElem?_eq_none (by rw[List.length_range];omega),if_neg hj];rfl
 rw[this,List.flatMap,List.map_replicate]
attribute [local irreducible] IntKind.wrap Go1 Reg WP aS aT bR bO aQ aC ak aj aX Sat
attribute [local irreducible] bT bX bY dw bZ qv dR mf PrP qOk zOk vP dQ lz vF cq rqv eY
theorem aib(l:List Z2)(i:Nat)(hl:l.length≤1000000):ah prog 203 [.r (aA 2 z2C l),.v (.int .i64 (i:Int))] (.agg (z2A (ak6 l i))):=by
 unfold ak6;rw[zq3]
 refine ah.fnF func203 results203 ntmps203 rfl rfl rfl (by simp[AV.ids,AV0.ids,Atom.ids]) rfl (fun w0 T B E0 hB=>?_)
 by_cases h:i < l.length
 ·obtain⟨q,hq⟩:∃q,l[i]? =some q:=⟨_,zq2 h⟩
  rw[hq];refine SX.goM ?_;exact mE (ak.fC rfl rfl rfl) rfl
 ·rw[List.getElem?_eq_none (by omega)]
  refine SX.goM ?_;refine xY (ak.fC rfl rfl rfl) ?_;exact tX
theorem ac4{l:List Z2}{zs:List Int}{K:Nat}(hM:MZ l zs K)(hK:K≤1000000)(hl:l.length≤100000):ah prog 204 [.r (aA 2 z2C l)] (.r (aA 2 z2C ((bW zs).map z2v))):=by
 have hlen:=hM.len;have hle:=aia zs;refine ah.fnF func204 results204 ntmps204 rfl rfl rfl (by simp[AV.ids,AV0.ids,Atom.ids]) rfl (fun w0 T B E0 hB=>?_)
 refine SX.goM ?_;refine W.loop (fun k=>k≤l.length∧pl zs k=eY zs) (fun k=>[(0,.r (aA 2 z2C l)),(3,.v (.int .i64 (k:Int)))]) (fun _=>[]) (fun k=>k) l.length ⟨Nat.le_refl _,by rw[hlen];unfold eY;rfl⟩ (fun k ⟨hk,he⟩=>?_)
 by_cases h0:0 < k
 ·obtain⟨m,rfl⟩:∃m,k=m+1:=⟨k - 1,by omega⟩
  obtain⟨q,hq⟩:∃q,l[m+1 - 1]? =some q:=⟨_,zq2 (by omega)⟩
  have hq':l[m]? =some q:=hq;obtain⟨z,hz⟩:∃z,zs[m]? =some z:=⟨_,zq2 (by omega)⟩
  have hg:zs.getD m 0=z:=by rw[zq3,hz];rfl
  have zq:=hM.z m q z hq' hz;have cS:=(lC (h:=zq.zi)).h (by omega)
  have hs0:aV z=0↔z=0:=by unfold aV;(repeat' split) <;> omega
  unfold pl at he;rw[hg]at he;by_cases hz0:z=0
  ·rw[if_pos hz0]at he;have h1:=hs0.2 hz0;refine SX.goM ?_;exact W.next m ⟨by omega,he⟩ (by omega)
  ·rw[if_neg hz0]at he;have h1:¬aV z=0:=fun e=>hz0 (hs0.1 e)
   rw[←he]at hle;have e3:(l.take (m+1)).length=m+1:=by rw[List.length_take];omega
   refine SX.goM ?_;refine W.loop (fun j=>j≤m+1) (fun j=>[(4,.own 100),(24,.r (aA 2 z2C (l.take (m+1)))),(25,.v (.int .i64 ((m+1:Nat):Int))),(26,.v (.int .i64 (j:Int)))]) (fun j=>[(100,.row 27 2 j (((zs.take j).map z2v).flatMap z2C))]) (fun j=>m+1 - j) 0 (Nat.zero_le _) (fun j hj=>?_)
    (by
     refine SX.St.aY [(100,none)] (by intro b h;cases h) ?_ ?_ rfl
     ·repeat(first|exact trivial|refine⟨⟨_,rfl,SX.aG.same rfl⟩,?_⟩|refine⟨⟨_,rfl,SX.aG.nil rfl⟩,?_⟩|refine⟨⟨_,rfl,SX.aG.int (by rw[e3])⟩,?_⟩)
     ·exact⟨SX.ay.bV rfl,trivial⟩)
   by_cases h2:j < m+1
   ·obtain⟨q2,hq2⟩:∃q2,l[j]? =some q2:=⟨_,zq2 (by omega)⟩
    have hq3:(l.take (m+1))[j]? =some q2:=by rw[List.getElem?_take,if_pos h2];exact hq2
    have h3:j < (l.take (m+1)).length:=by omega
    obtain⟨z2,hz2⟩:∃z2,zs[j]? =some z2:=⟨_,zq2 (by omega)⟩
    have cF:=agJ (hM.z j q2 z2 hq2 hz2) hK;have e2:((zs.take j).map z2v).flatMap z2C++z2C (z2v z2)=((zs.take (j+1)).map z2v).flatMap z2C:=by rw[List.take_add_one,hz2];simp
    refine SX.goM ?_;refine W.next (j+1) h2 (by omega) (by
     refine SX.St.aY [(100,some 37)] (by intro b h;cases h) ?_ ?_ rfl
     ·repeat(first|exact trivial|refine⟨⟨_,rfl,SX.aG.same rfl⟩,?_⟩|refine⟨⟨_,rfl,SX.aG.own rfl⟩,?_⟩)
     ·exact⟨SX.ay.row rfl rfl rfl e2,trivial⟩)
   ·obtain rfl:j=m+1:=by omega
    refine SX.goM ?_;refine aQ.frz 100 ?_;refine aoy ?_;unfold bW;rw[←he];show AV0.one (.c (.sat (aM 2 (m+1) _)))= .one (.c (.sat (aM 2 ((zs.take (m+1)).map z2v).length _)));rw[zq5,List.length_take,Nat.min_eq_left (by omega)]
 ·obtain rfl:k=0:=by omega
  have he':eY zs=0:=he.symm;refine SX.goM ?_;refine W.loop (fun j:Nat=>j=0) (fun j=>[(4,.v (.slice none 0 0)),(25,.v (.int .i64 0)),(26,.v (.int .i64 (j:Int)))]) (fun _=>[]) (fun j=>j) 0 rfl (fun j hj=>?_)
  subst hj;refine SX.goM ?_;refine acG ?_;unfold bW;rw[he'];exact fun E S w v h=>(aI.nil (α:=Z2) (enc:=z2C) (size:=2)) E S w v h
end
section
theorem auv{n K:Nat}{f:Nat→Int}(h:∀i,i < n→(f i).natAbs < WB ^ K):MZ ((List.range n).map fun i=>z2v (f i)) (adz n f) K:=by
 refine⟨by rw[zq5,List.length_range,ae3],fun i q z hq hz=>?_⟩
 have hi:i < n:=by have:=kI hq;rwa [zq5,List.length_range]at this
 rw[List.getElem?_map,List.getElem?_range hi]at hq
 unfold adz at hz;rw[List.getElem?_map,List.getElem?_range hi]at hz
 cases hq;cases hz;exact ZQ.made (h i hi)
theorem aqA{n:Nat}{l:List Z2}(h:l.length=n):aA 2 z2C l=aM 2 n (l.flatMap z2C):=by subst h;rfl
attribute [local irreducible] IntKind.wrap Go1 Reg WP aS aT bR bO aQ aC ak aj aX Sat
attribute [local irreducible] bT bX bY dw bZ qv dR mf PrP qOk zOk vP dQ lz vF cq rqv eY bW
theorem apo{l l':List Z2}{zs zs':List Int}{K K' L:Nat}(op:Int→Int→Int)(x:CA)(hx1:x.dK=true)(hM:MZ l zs K)(hM':MZ l' zs' K')(hl:l.length≤10000)(hl':l'.length≤10000)
  (hx:∀i,FnV prog x [.agg (z2A (ak6 l i)),.agg (z2A (ak6 l' i))] (.agg (zN (op (zs.getD i 0) (zs'.getD i 0))))) (hb:∀i,(op (zs.getD i 0) (zs'.getD i 0)).natAbs < WB ^ L) (hL:L≤1000000):
  ah prog 160 [.r (aA 2 z2C l),.r (aA 2 z2C l'),.it (.one (.c x))] (.r (aA 2 z2C ((dL op zs zs').map z2v))):=by
 have cN:ah prog 204 [.r (aM 2 (max l.length l'.length) (((List.range (max l.length l'.length)).map fun i=>z2v (op (zs.getD i 0) (zs'.getD i 0))).flatMap z2C))] (.r (aA 2 z2C ((dL op zs zs').map z2v))):=by
  have h:=ac4 (auv (n:=max l.length l'.length) (f:=fun i=>op (zs.getD i 0) (zs'.getD i 0)) fun i _=>hb i) hL (by rw[zq5,List.length_range];omega)
  rw[aqA (n:=max l.length l'.length) (by rw[zq5,List.length_range])]at h
  unfold dL;rw[←hM.len,←hM'.len];exact h
 have hm:max l.length l'.length≤10000:=by omega
 refine ah.fnF func160 results160 ntmps160 rfl rfl rfl (by simp[AV.ids,AV0.ids,Atom.ids]) rfl (fun w0 T B E0 hB=>?_)
 refine SX.goM ?_;refine W.loop (fun k=>k≤max l.length l'.length) (fun k=>[(0,.r (aA 2 z2C l)),(1,.r (aA 2 z2C l')),(2,.it (.one (.c x))),(7,.own 100),(16,.v (.int .i64 ((max l.length l'.length:Nat):Int))),(17,.v (.int .i64 (k:Int)))]) (fun k=>[(100,.row 27 2 (max l.length l'.length) (((List.range (max l.length l'.length)).map fun i=>if i < k then z2v (op (zs.getD i 0) (zs'.getD i 0))else z2v 0).flatMap z2C))]) (fun k=>max l.length l'.length - k) 0 (Nat.zero_le _) (fun k hk=>?_)
  (by
   refine SX.St.aY [(100,some 14)] (by intro b h;cases h) ?_ ?_ rfl
   ·repeat(first|exact trivial|refine⟨⟨_,rfl,SX.aG.same rfl⟩,?_⟩|refine⟨⟨_,rfl,SX.aG.own rfl⟩,?_⟩)
   ·exact⟨SX.ay.row rfl rfl rfl (apK (f:=fun i=>z2v (op (zs.getD i 0) (zs'.getD i 0)))),trivial⟩)
 by_cases h:k < max l.length l'.length
 ·have c1:=aib l k (by omega)
  have c2:=aib l' k (by omega)
  have c3:=hx k;have e2:((List.range (max l.length l'.length)).map fun i=>if i < k then z2v (op (zs.getD i 0) (zs'.getD i 0))else z2v 0).length=max l.length l'.length:=by rw[zq5,List.length_range]
  have e3:=aqP (f:=fun i=>z2v (op (zs.getD i 0) (zs'.getD i 0))) (z:=z2v 0) h
  refine SX.goM ?_;refine SX.G.zT (a:=z2v (op (zs.getD k 0) (zs'.getD k 0))) ?_;rw[e3];refine SX.goM ?_;exact W.next (k+1) h (by omega)
 ·obtain rfl:k=max l.length l'.length:=by omega
  rw[aqe];refine SX.WP.freeze 100 hB rfl ?_;refine SX.goM ?_;exact aoy rfl
theorem yR{P:Program}{f g:FuncId}{a b r:AV}(h:ah P f [a,b,.it (.one (.c (.sat (dP g [] []))))] r):ah P f [a,b,.it (.one (.clo g []))] r:=
 weakArgs h fun E S w vs hv=>by
  match vs,hv with
  |[u1,u2,u3],⟨h1,h2,h3,_⟩=>exact⟨h1,h2,anp h3,trivial⟩
abbrev aby:=dL (· - ·)
theorem amE{l l':List Z2}{zs zs':List Int}{K K':Nat}(hM:MZ l zs K)(hM':MZ l' zs' K')(hl:l.length≤10000)(hl':l'.length≤10000)(hK:K+K'≤100000):
  ah prog 110 [.r (aA 2 z2C l),.r (aA 2 z2C l')] (.r (aA 2 z2C ((aby zs zs').map z2v))):=by
 have c:=yR (apo (· - ·) (.sat (dP 161 [] [])) rfl hM hM' hl hl' (fun i=>FnV.const ((aok (h:=(hM.pat i).zi) (h':=(hM'.pat i).zi)).h (by omega))) (L:=K+K'+1) (fun i=>by
  have h2:(-(zs'.getD i 0)).natAbs < WB ^ K':=by rw[Int.natAbs_neg];exact(hM'.pat i).b
  have:=adB (hM.pat i).b h2
  rwa [←Int.sub_eq_add_neg]at this) (by omega))
 refine ah.fnF func110 results110 ntmps110 rfl rfl rfl (by simp[AV.ids,AV0.ids,Atom.ids]) rfl (fun w0 T B E0 hB=>?_)
 refine SX.goM ?_;exact aoy rfl
theorem ajJ(a b:List Int)(j:Nat):(aby a b).getD j 0=a.getD j 0 - b.getD j 0:=ane (op:=(· - ·)) rfl a b j
theorem aoI(op:Int→Int→Int)(a b:List Int):pN (dL op a b):=by unfold dL;exact afM _
theorem anu{a b:List Int}(ha:pN a)(hb:pN b):(aby a b).length=0↔a=b:=by
 constructor
 ·intro h;refine agP ha hb fun j=>?_
  have h2:=ajJ a b j;have h3:(aby a b).getD j 0=0:=nW (by omega)
  omega
 ·rintro rfl;have h2:∀j,(aby a a).getD j 0=([]:List Int).getD j 0:=fun j=>by
   rw[ajJ];show a.getD j 0 - a.getD j 0=0;omega
  have h3:aby a a=[]:=agP (aoI _ a a) (.inl rfl) h2;rw[h3];rfl
theorem akd{l l':List Z2}{zs zs':List Int}{K K':Nat}(hM:MZ l zs K)(hM':MZ l' zs' K')(hl:l.length≤10000)(hl':l'.length≤10000)(hK:K+K'≤100000)(hn:pN zs)(hn':pN zs'):
  ah prog 65 [.r (aA 2 z2C l),.r (aA 2 z2C l')] (.v (.bool (decide (zs=zs')))):=by
 have c:=amE hM hM' hl hl' hK;have hlen:((aby zs zs').map z2v).length=(aby zs zs').length:=zq5 _;rw[show decide (zs=zs')=decide ((aby zs zs').length=0)from decide_eq_decide.2 (anu hn hn').symm]
 refine ah.fnF func65 results65 ntmps65 rfl rfl rfl (by simp[AV.ids,AV0.ids,Atom.ids]) rfl (fun w0 T B E0 hB=>?_)
 refine SX.goM ?_;refine aJ ?_;rw[decide_eq_decide];omega
def dh(zs:List Int)(d:Int):List Int:=bW (zs.map (· *d))
end
section
theorem PrP.lt{p:Nat}(h:PrP p):2≤p∧p < 2147483648:=⟨h.1,h.2.1⟩
abbrev gfA(p:Nat):List Atom:=[.c (.val (.int .u64 (p:Int)))]
def eqL{α:Type}(p:α→α→Bool):List α→List α→Bool
 |[],[]=>true
 |a::l,b::l'=>p a b&&eqL p l l'
 |_,_=>false
theorem uP{α:Type}{p:α→α→Bool}:∀{l l':List α},l.length≠l'.length→eqL p l l'=false
 |[],[],h=>absurd rfl h
 |[],_::_,_=>rfl
 |_::_,[],_=>rfl
 |a::l,b::l',h=>by rw[eqL,uP (l:=l) (l':=l') (fun e=>h (by rw[List.length_cons,List.length_cons,e])),Bool.and_false]
theorem uT{α:Type}{p:α→α→Bool}{l l':List α}{k:Nat}{a b:α}(h:l[k]? =some a)(h':l'[k]? =some b):eqL p (l.drop k) (l'.drop k)=(p a b&&eqL p (l.drop (k+1)) (l'.drop (k+1))):=by
 obtain⟨h1,rfl⟩:=List.getElem?_eq_some_iff.1 h
 obtain⟨h2,rfl⟩:=List.getElem?_eq_some_iff.1 h'
 rw[List.drop_eq_getElem_cons h1,List.drop_eq_getElem_cons h2,eqL]
theorem uY{α:Type}{p:α→α→Bool}:∀{l l':List α},(∀a∈l,∀b∈l',p a b=true↔a=b)→(eqL p l l'=true↔l=l')
 |[],[],_=>by simp[eqL]
 |[],_::_,_=>by simp[eqL]
 |_::_,[],_=>by simp[eqL]
 |a::l,b::l',h=>by
  rw[eqL,Bool.and_eq_true,h a (List.mem_cons_self ..) b (List.mem_cons_self ..),uY (l:=l) (l':=l') fun x hx y hy=>h x (List.mem_cons_of_mem _ hx) y (List.mem_cons_of_mem _ hy)]
  simp
attribute [local irreducible] IntKind.wrap Go1 Reg WP aS aT bR bO aQ aC ak aj aX Sat
attribute [local irreducible] bT bX bY dw bZ qv dR mf PrP qOk zOk vP dQ lz vF cq rqv eY bW
theorem abE{p:Nat}(h:PrP p):ah prog 115 [.v (.int .u64 (p:Int))] (.tup [.agg (gfA p),.one (.c (.val (.bool true)))]):=by
 have hp:=h.lt;have c:=aaq p (by omega)
 rw[decide_eq_true h]at c;refine ah.fnF func115 results115 ntmps115 rfl rfl rfl (by simp[AV.ids,AV0.ids,Atom.ids]) rfl (fun w0 T B E0 hB=>?_)
 refine SX.goM ?_;exact .ok (aC.mk2 (ak.agg1 rfl rfl rfl) (ak.tmp rfl))
theorem zA{p:Nat}(h:PrP p):ah prog 162 [.agg (gfA p)] (.v (.int .u64 (p:Int))):=by
 have hp:=h.lt;refine ah.fnF func162 results162 ntmps162 rfl rfl rfl (by simp[AV.ids,AV0.ids,Atom.ids]) rfl (fun w0 T B E0 hB=>?_)
 refine SX.goM ?_;exact gK rfl
theorem lJ{p:Nat}(h:PrP p)(x:Nat)(hx:x < 18446744073709551616):ah prog 114 [.agg (gfA p),.v (.int .u64 (x:Int))] (.v (.int .u64 ((x % p:Nat):Int))):=by
 have hp:=h.lt;have c:=zA h;have hr:IntKind.u64.wrap ((x:Int).tmod (p:Int))=((x % p:Nat):Int):=by rw[tZ];exact wrapN (Nat.lt_of_le_of_lt (Nat.mod_le x p) hx)
 refine ah.fnF func114 results114 ntmps114 rfl rfl rfl (by simp[AV.ids,AV0.ids,Atom.ids]) rfl (fun w0 T B E0 hB=>?_)
 refine SX.goM ?_;exact gK rfl
theorem akm(v:Vl)(h:PrP v.p):ah prog 67 [.agg (vlA v)] (.agg (gfA v.p)):=by
 have c:=abE h;refine ah.fnF func67 results67 ntmps67 rfl rfl rfl (by simp[AV.ids,AV0.ids,Atom.ids]) rfl (fun w0 T B E0 hB=>?_)
 refine SX.goM ?_;exact mE (ak.agg1 rfl rfl rfl) rfl
abbrev fmA(r c:Nat)(l:List Nat):List Atom:=[.c (.val (.int .i64 (r:Int))),.c (.val (.int .i64 (c:Int))),.c (.sat (aA 1 wdC l))]
theorem alO{r c:Nat}{l:List Nat}(hl:l.length=r*c)(hr:r≤64)(hc:c≤64):ah prog 98 [.agg (fmA r c l)] (.v (.bool true)):=by
 have h:ah prog 98 [.agg (fmA r c l)] (.v (.bool (dQ r c l.length))):=xM r c;rw[aag hr hc hl]at h;exact h
theorem agC{r c r' c':Nat}{l l':List Nat}(hl:l.length=r*c)(hl':l'.length=r'*c')(hr:r≤64)(hc:c≤64)(hr':r'≤64)(hc':c'≤64):
  ah prog 111 [.agg (fmA r c l),.agg (fmA r' c' l')] (.v (.bool (decide (r=r'∧c=c')))):=by
 have cF:=alO hl hr hc;have cF':=alO hl' hr' hc';refine ah.fnF func111 results111 ntmps111 rfl rfl rfl (by simp[AV.ids,AV0.ids,Atom.ids]) rfl (fun w0 T B E0 hB=>?_)
 by_cases h1:(r:Int)=(r':Int)
 ·refine SX.goM ?_;refine aJ ?_;rw[decide_eq_decide];omega
 ·refine SX.goM ?_;refine aJ ?_;exact(decide_eq_false fun h=>h1 (by omega)).symm
theorem aoB(l l':List fV)(x:CA)(p:fV→fV→Bool)(hx:∀v∈l,∀u∈l',FnV prog x [.agg (q4A (rq v)),.agg (q4A (rq u))] (.v (.bool (p v u))))(hl:l.length≤100000)(hl':l'.length≤100000)(hx1:x.dK=true):
  ah prog 108 [.r (aA 4 q4C (l.map rq)),.r (aA 4 q4C (l'.map rq)),.it (.one (.c x))] (.v (.bool (eqL p l l'))):=by
 have e1:(l.map rq).length=l.length:=zq5 _;have e2:(l'.map rq).length=l'.length:=zq5 _;refine ah.fnF func108 results108 ntmps108 rfl rfl rfl (by simp[AV.ids,AV0.ids,Atom.ids]) rfl (fun w0 T B E0 hB=>?_)
 by_cases hne:l.length=l'.length
 rotate_left
 ·rw[uP hne];refine SX.goM ?_;exact aJ rfl
 refine SX.goM ?_;refine W.loop (fun k=>k≤l.length∧eqL p (l.drop k) (l'.drop k)=eqL p l l') (fun k=>[(1,.r (aA 4 q4C (l'.map rq))),(2,.it (.one (.c x))),(15,.r (aA 4 q4C (l.map rq))),(16,.v (.int .i64 ((l.map rq).length:Int))),(17,.v (.int .i64 (k:Int)))]) (fun _=>[]) (fun k=>l.length - k) 0 ⟨Nat.zero_le _,rfl⟩ (fun k ⟨hk,he⟩=>?_)
 by_cases h:k < l.length
 ·obtain⟨a,ha⟩:∃a,l[k]? =some a:=⟨_,zq2 h⟩
  obtain⟨b,hb⟩:∃b,l'[k]? =some b:=⟨_,zq2 (by omega)⟩
  have hf:=hx a (zq4 ha) b (zq4 hb);have hq:(l.map rq)[k]? =some (rq a):=by rw[List.getElem?_map,ha];rfl
  have hq':(l'.map rq)[k]? =some (rq b):=by rw[List.getElem?_map,hb];rfl
  have h1:k < (l.map rq).length:=by rw[zq5];exact h
  have h2:k < (l'.map rq).length:=by rw[zq5];omega
  rw[uT ha hb]at he;cases hp:p a b with
  |false=>
   rw[hp]at hf he;refine SX.goM ?_;refine aJ ?_;rw[←he];rfl
  |true=>
   rw[hp]at hf he;refine SX.goM ?_;exact W.next (k+1) ⟨h,he⟩ (by omega)
 ·obtain rfl:k=l.length:=by omega
  rw[List.drop_length,hne,List.drop_length]at he;refine SX.goM ?_;refine aJ ?_;rw[←he];rfl
theorem ajY(l l':List fV)(f:FuncId)(p:fV→fV→Bool)(hx:∀v∈l,∀u∈l',ah prog f [.agg (q4A (rq v)),.agg (q4A (rq u))] (.v (.bool (p v u))))(hl:l.length≤100000)(hl':l'.length≤100000):
  ah prog 108 [.r (aA 4 q4C (l.map rq)),.r (aA 4 q4C (l'.map rq)),.it (.one (.clo f []))] (.v (.bool (eqL p l l'))):=
 yR (aoB l l' (.sat (dP f [] [])) p (fun v h u h'=>FnV.const (hx v h u h')) hl hl' rfl)
theorem aoq(l l':List Nat)(x:CA)(p:Nat→Nat→Bool)(hx:∀v∈l,∀u∈l',FnV prog x [.v (.int .u64 (v:Int)),.v (.int .u64 (u:Int))] (.v (.bool (p v u))))(hl:l.length≤100000)(hl':l'.length≤100000)(hx1:x.dK=true):
  ah prog 112 [.r (aA 1 wdC l),.r (aA 1 wdC l'),.it (.one (.c x))] (.v (.bool (eqL p l l'))):=by
 refine ah.fnF func112 results112 ntmps112 rfl rfl rfl (by simp[AV.ids,AV0.ids,Atom.ids]) rfl (fun w0 T B E0 hB=>?_)
 by_cases hne:l.length=l'.length
 rotate_left
 ·rw[uP hne];refine SX.goM ?_;exact aJ rfl
 refine SX.goM ?_;refine W.loop (fun k=>k≤l.length∧eqL p (l.drop k) (l'.drop k)=eqL p l l') (fun k=>[(1,.r (aA 1 wdC l')),(2,.it (.one (.c x))),(15,.r (aA 1 wdC l)),(16,.v (.int .i64 (l.length:Int))),(17,.v (.int .i64 (k:Int)))]) (fun _=>[]) (fun k=>l.length - k) 0 ⟨Nat.zero_le _,rfl⟩ (fun k ⟨hk,he⟩=>?_)
 by_cases h:k < l.length
 ·obtain⟨a,ha⟩:∃a,l[k]? =some a:=⟨_,zq2 h⟩
  obtain⟨b,hb⟩:∃b,l'[k]? =some b:=⟨_,zq2 (by omega)⟩
  have hf:=hx a (zq4 ha) b (zq4 hb);rw[uT ha hb]at he;cases hp:p a b with
  |false=>
   rw[hp]at hf he;refine SX.goM ?_;refine aJ ?_;rw[←he];rfl
  |true=>
   rw[hp]at hf he;refine SX.goM ?_;exact W.next (k+1) ⟨h,he⟩ (by omega)
 ·obtain rfl:k=l.length:=by omega
  rw[List.drop_length,hne,List.drop_length]at he;refine SX.goM ?_;refine aJ ?_;rw[←he];rfl
theorem aoY(l l':List Vl)(x:CA)(p:Vl→Vl→Bool)(hx:∀v∈l,∀u∈l',FnV prog x [.agg (vlA v),.agg (vlA u)] (.v (.bool (p v u))))(hl:l.length≤100000)(hl':l'.length≤100000)(hx1:x.dK=true):
  ah prog 69 [.r (aA 15 vlC l),.r (aA 15 vlC l'),.it (.one (.c x))] (.v (.bool (eqL p l l'))):=by
 rw[uV,uV];refine ah.fnF func69 results69 ntmps69 rfl rfl rfl (by simp[AV.ids,AV0.ids,Atom.ids]) rfl (fun w0 T B E0 hB=>?_)
 by_cases hne:l.length=l'.length
 rotate_left
 ·rw[uP hne];refine SX.goM ?_;exact aJ rfl
 refine SX.goM ?_;refine W.loop (fun k=>k≤l.length∧eqL p (l.drop k) (l'.drop k)=eqL p l l') (fun k=>[(1,.r (aA 15 vlE l')),(2,.it (.one (.c x))),(15,.r (aA 15 vlE l)),(16,.v (.int .i64 (l.length:Int))),(17,.v (.int .i64 (k:Int)))]) (fun _=>[]) (fun k=>l.length - k) 0 ⟨Nat.zero_le _,rfl⟩ (fun k ⟨hk,he⟩=>?_)
 by_cases h:k < l.length
 ·obtain⟨a,ha⟩:∃a,l[k]? =some a:=⟨_,zq2 h⟩
  obtain⟨b,hb⟩:∃b,l'[k]? =some b:=⟨_,zq2 (by omega)⟩
  have hf:=hx a (zq4 ha) b (zq4 hb);rw[uT ha hb]at he;cases hp:p a b with
  |false=>
   rw[hp]at hf he;refine SX.goM ?_;refine aJ ?_;rw[←he];rfl
  |true=>
   rw[hp]at hf he;refine SX.goM ?_;exact W.next (k+1) ⟨h,he⟩ (by omega)
 ·obtain rfl:k=l.length:=by omega
  rw[List.drop_length,hne,List.drop_length]at he;refine SX.goM ?_;refine aJ ?_;rw[←he];rfl
theorem alc(l l':List Vl)(f:FuncId)(p:Vl→Vl→Bool)(hx:∀v∈l,∀u∈l',ah prog f [.agg (vlA v),.agg (vlA u)] (.v (.bool (p v u))))(hl:l.length≤100000)(hl':l'.length≤100000):
  ah prog 69 [.r (aA 15 vlC l),.r (aA 15 vlC l'),.it (.one (.clo f []))] (.v (.bool (eqL p l l'))):=
 yR (aoY l l' (.sat (dP f [] [])) p (fun v h u h'=>FnV.const (hx v h u h')) hl hl' rfl)
theorem ahN(l l':List Nat)(hl:l.length≤100000)(hl':l'.length≤100000):ah prog 68 [.r (aA 1 wdC l),.r (aA 1 wdC l')] (.v (.bool (decide (l=l')))):=by
 have e:decide (l=l')=eqL (fun a b=>decide (a=b)) l l':=by
  rw[Bool.eq_iff_iff,decide_eq_true_iff];exact(uY fun a _ b _=>by rw[decide_eq_true_iff]).symm
 rw[e];refine ah.fnF func68 results68 ntmps68 rfl rfl rfl (by simp[AV.ids,AV0.ids,Atom.ids]) rfl (fun w0 T B E0 hB=>?_)
 by_cases hne:l.length=l'.length
 rotate_left
 ·rw[uP hne];refine SX.goM ?_;exact aJ rfl
 refine SX.goM ?_;refine W.loop (fun k=>k≤l.length∧eqL (fun a b=>decide (a=b)) (l.drop k) (l'.drop k)=eqL (fun a b=>decide (a=b)) l l') (fun k=>[(0,.r (aA 1 wdC l)),(1,.r (aA 1 wdC l')),(12,.v (.int .i64 (l.length:Int))),(13,.v (.int .i64 (k:Int)))]) (fun _=>[]) (fun k=>l.length - k) 0 ⟨Nat.zero_le _,rfl⟩ (fun k ⟨hk,he⟩=>?_)
 by_cases h:k < l.length
 ·obtain⟨a,ha⟩:∃a,l[k]? =some a:=⟨_,zq2 h⟩
  obtain⟨b,hb⟩:∃b,l'[k]? =some b:=⟨_,zq2 (by omega)⟩
  rw[uT ha hb]at he;by_cases hab:a=b
  ·have hab':(a:Int)=(b:Int):=by omega
   rw[decide_eq_true hab]at he;refine SX.goM ?_;exact W.next (k+1) ⟨h,he⟩ (by omega)
  ·have hab':¬(a:Int)=(b:Int):=by omega
   rw[decide_eq_false hab]at he;refine SX.goM ?_;refine aJ ?_;rw[←he];rfl
 ·obtain rfl:k=l.length:=by omega
  rw[List.drop_length,hne,List.drop_length]at he;refine SX.goM ?_;refine aJ ?_;rw[←he];rfl
theorem ahL{p:Nat}(h:PrP p)(x y:Nat)(hx:x < p)(hy:y < p):ah prog 113 [.v (.int .u64 (x:Int)),.v (.int .u64 (y:Int)),.r (bJ [.val (.int .u64 (p:Int))])] (.v (.bool (decide (x=y)))):=by
 have hp:=h.lt;have c1:=lJ h x (by omega)
 have c2:=lJ h y (by omega)
 rw[Nat.mod_eq_of_lt hx]at c1;rw[Nat.mod_eq_of_lt hy]at c2;refine ah.fnF func113 results113 ntmps113 rfl rfl rfl (by simp[AV.ids,AV0.ids,Atom.ids]) rfl (fun w0 T B E0 hB=>?_)
 refine SX.goM ?_;refine aJ ?_;rw[decide_eq_decide];omega
theorem ala{p r c r' c':Nat}{l l':List Nat}(h:PrP p)(hl:l.length=r*c)(hl':l'.length=r'*c')(hr:r≤64)(hc:c≤64)(hr':r'≤64)(hc':c'≤64)(hb:∀x∈l,x < p)(hb':∀x∈l',x < p):
  ah prog 66 [.agg (gfA p),.agg (fmA r c l),.agg (fmA r' c' l')] (.v (.bool (decide (r=r'∧c=c'∧l=l')))):=by
 have cA:=agC hl hl' hr hc hr' hc';have m1:=Nat.mul_le_mul hr hc;have m2:=Nat.mul_le_mul hr' hc';have cE:=aoq l l' (.sat (dP 113 [] [.sat (bJ [.val (.int .u64 (p:Int))])])) (fun x y=>decide (x=y)) (fun x hx y hy=>FnV.clo (ahL h x y (hb x hx) (hb' y hy))) (by omega) (by omega) rfl
 rw[show eqL (fun x y=>decide (x=y)) l l'=decide (l=l')by
  rw[Bool.eq_iff_iff,decide_eq_true_iff];exact uY fun a _ b _=>by rw[decide_eq_true_iff]]at cE
 refine ah.fnF func66 results66 ntmps66 rfl rfl rfl (by simp[AV.ids,AV0.ids,Atom.ids]) rfl (fun w0 T B E0 hB=>?_)
 refine SX.goM ?_;refine SX.WP.eP 3 hB rfl rfl ?_;refine SX.WP.aF ?_;by_cases h1:r=r'∧c=c'
 ·rw[decide_eq_true h1]at cA;refine SX.goM ?_;refine aJ ?_;rw[decide_eq_decide];exact⟨fun h=>⟨h1.1,h1.2,h⟩,fun h=>h.2.2⟩
 ·rw[decide_eq_false h1]at cA;refine SX.goM ?_;refine aJ ?_;exact(decide_eq_false fun h=>h1 ⟨h.1,h.2.1⟩).symm
end
section
def wN(l:List Nat):Prop:=l.length=0∨l.getD (l.length - 1) 0≠0
inductive Sh(K:Nat):Vl→Prop
 |num (x:Rat) (h:RB x K):Sh K (fJ x)
 |mat (r c:Nat) (vs:List Rat) (hl:vs.length=r*c) (hr:r≤64) (hc:c≤64) (h:∀v∈vs,RB v K):Sh K (eF r c vs)
 |pol (zs:List Int) (hl:zs.length≤10000) (hn:pN zs) (h:∀z∈zs,z.natAbs < WB ^ K):Sh K (iO zs)
 |fld (p r c:Nat) (l:List Nat) (hp:PrP p) (hl:l.length=r*c) (hr:r≤64) (hc:c≤64) (h:∀x∈l,x < p):Sh K (kS p r c l)
 |rng (p:Nat) (l:List Nat) (hp:PrP p) (hl:l.length≤10000) (hn:wN l) (h:∀x∈l,x < p):Sh K (lu p l)
inductive Cv(K:Nat):Nat→Vl→Prop
 |one {n:Nat} {v:Vl} (h:Sh K v):Cv K n v
 |lst {n:Nat} (l:List Vl) (hl:l.length≤10000) (h:∀x∈l,Cv K n x):Cv K (n+1) (kG l)
noncomputable def jo(u v:Vl):Bool:= @decide (u=v) (Classical.propDecidable _)
theorem nJ{u v:Vl}:jo u v=true↔u=v:=by unfold jo;exact @decide_eq_true_iff _ (Classical.propDecidable _)
theorem aoL{u v:Vl}(h:u≠v):jo u v=false:=Bool.eq_false_iff.2 fun e=>h (nJ.1 e)
theorem ahB(u:Vl):jo u u=true:=nJ.2 rfl
theorem qE{u v:Vl}{p:Prop}[Decidable p](h:u=v↔p):jo u v=decide p:=by
 rw[Bool.eq_iff_iff,nJ,decide_eq_true_iff];exact h
theorem adX{x y:Rat}(h:cq x=cq y):x=y:=by rw[←iU x,h,iU]
theorem auu{x y:Int}(h:cz x=cz y):x=y:=by rw[←mX x,h,mX]
theorem map_inj{α β:Type}{f:α→β}(hf:∀{x y},f x=f y→x=y):∀{l l':List α},l.map f=l'.map f→l=l'
 |[],[],_=>rfl
 |a::l,b::l',h=>by
  rw[List.map_cons,List.map_cons]at h
  injection h with h1 h2
  rw[hf h1,map_inj hf h2]
theorem amB{x y:Rat}:fJ x=fJ y↔x=y:=⟨fun h=>by injection h with _ h;exact adX h,fun h=>by rw[h]⟩
theorem am0{r c r' c':Nat}{vs vs':List Rat}:eF r c vs=eF r' c' vs'↔r=r'∧c=c'∧vs=vs':=by
 constructor
 ·intro h
  injection h with _ _ h1 h2 h3
  exact⟨by omega,by omega,map_inj adX h3⟩
 ·rintro⟨rfl,rfl,rfl⟩;rfl
theorem ao2{a b:List Int}:iO a=iO b↔a=b:=⟨fun h=>by injection h with _ _ _ _ _ h;exact map_inj auu h,fun h=>by rw[h]⟩
theorem apc{p r c p' r' c':Nat}{l l':List Nat}:kS p r c l=kS p' r' c' l'↔p=p'∧r=r'∧c=c'∧l=l':=by
 constructor
 ·intro h
  injection h with _ _ _ _ _ _ h1 h2 h3 h4
  exact⟨h1,by omega,by omega,h4⟩
 ·rintro⟨rfl,rfl,rfl,rfl⟩;rfl
theorem alU{p p':Nat}{l l':List Nat}:lu p l=lu p' l'↔p=p'∧l=l':=by
 constructor
 ·intro h
  injection h with _ _ _ _ _ _ h1 _ _ _ h2
  exact⟨h1,h2⟩
 ·rintro⟨rfl,rfl⟩;rfl
theorem apd{l l':List Vl}:kG l=kG l'↔l=l':=⟨fun h=>by injection h,fun h=>by rw[h]⟩
theorem MZ.ofz{zs:List Int}{K:Nat}(h:∀z∈zs,z.natAbs < WB ^ K):MZ ((zs.map cz).map rz) zs K:=by
 have:=MZ.raw (l:=zs.map cz) (K:=K) (fun a ha=>by obtain⟨z,_,rfl⟩:=List.mem_map.1 ha;exact aj4 z) (fun a ha=>by obtain⟨z,hz,rfl⟩:=List.mem_map.1 ha;exact lg (h z hz))
 rwa [aqG]at this
attribute [local irreducible] IntKind.wrap Go1 Reg WP aS aT bR bO aQ aC ak aj aX Sat
attribute [local irreducible] bT bX bY dw bZ qv dR mf PrP qOk zOk vP dQ lz vF cq rqv eY bW
theorem aqi{x y:Rat}{K L:Nat}(hx:RB x K)(hy:RB y L)(hK:K+L≤400000):ah prog 109 [.agg (q4A (rq (cq x))),.agg (q4A (rq (cq y)))] (.v (.bool (decide (rqv (cq x)=rqv (cq y))))):=by
 rw[iU,iU]
 haveI:=Ra.cq hx
 haveI:=Ra.cq hy
 obtain⟨z,cA,hz,_⟩:=eCmp (q4A (rq (cq x))) (q4A (rq (cq y))) (K:=K) (K':=L) (by omega)
 rw[←decide_eq_decide.2 hz];refine ah.fnF func109 results109 ntmps109 rfl rfl rfl (by simp[AV.ids,AV0.ids,Atom.ids]) rfl (fun w0 T B E0 hB=>?_)
 refine SX.goM ?_;exact aJ rfl
theorem agj{r c r' c':Nat}{vs vs':List Rat}{K L:Nat}(hv:∀v∈vs,RB v K)(hv':∀v∈vs',RB v L)(hK:K+L≤400000)(hl:vs.length=r*c)(hl':vs'.length=r'*c')(hr:r≤64)(hc:c≤64)(hr':r'≤64)(hc':c'≤64):
  ah prog 64 [.agg (um r c ((vs.map cq).map rq)),.agg (um r' c' ((vs'.map cq).map rq))] (.v (.bool (decide (r=r'∧c=c'∧vs=vs')))):=by
 have m1:=Nat.mul_le_mul hr hc;have m2:=Nat.mul_le_mul hr' hc';have k1:(vs.map cq).length=vs.length:=zq5 _;have k2:(vs'.map cq).length=vs'.length:=zq5 _;have cA:=alu (l:=(vs.map cq).map rq) (l':=(vs'.map cq).map rq) (by rw[zq5,zq5];exact hl) (by rw[zq5,zq5];exact hl') hr hc hr' hc' (decide (r=r'∧c=c')) decide_eq_true_iff
 have cE:=ajY (vs.map cq) (vs'.map cq) 109 (fun a b=>decide (rqv a=rqv b)) (fun a ha b hb=>by
  obtain⟨x,hx,rfl⟩:=List.mem_map.1 ha;obtain⟨y,hy,rfl⟩:=List.mem_map.1 hb;exact aqi (hv x hx) (hv' y hy) hK) (by omega) (by omega)
 have e:eqL (fun a b=>decide (rqv a=rqv b)) (vs.map cq) (vs'.map cq)=decide (vs=vs'):=by
  rw[Bool.eq_iff_iff,decide_eq_true_iff,uY (fun a ha b hb=>by
   obtain⟨x,hx,rfl⟩:=List.mem_map.1 ha;obtain⟨y,hy,rfl⟩:=List.mem_map.1 hb;rw[decide_eq_true_iff,iU,iU];exact⟨fun h=>by rw[h],adX⟩)]
  exact⟨map_inj adX,fun h=>by rw[h]⟩
 rw[e]at cE;refine ah.fnF func64 results64 ntmps64 rfl rfl rfl (by simp[AV.ids,AV0.ids,Atom.ids]) rfl (fun w0 T B E0 hB=>?_)
 by_cases h1:r=r'∧c=c'
 ·rw[decide_eq_true h1]at cA;refine SX.goM ?_;refine aJ ?_;rw[decide_eq_decide];exact⟨fun h=>⟨h1.1,h1.2,h⟩,fun h=>h.2.2⟩
 ·rw[decide_eq_false h1]at cA;refine SX.goM ?_;refine aJ ?_;exact(decide_eq_false fun h=>h1 ⟨h.1,h.2.1⟩).symm
theorem rC(u v:Vl)(h:u.k≠v.k∨u.p≠v.p):ah prog 34 [.agg (vlA u),.agg (vlA v)] (.v (.bool (jo u v))):=by
 rw[aoL (by rintro rfl;exact h.elim (fun h=>h rfl) fun h=>h rfl)]
 refine ah.fnF func34 results34 ntmps34 rfl rfl rfl (by simp[AV.ids,AV0.ids,Atom.ids]) rfl (fun w0 T B E0 hB=>?_)
 by_cases h1:u.k=v.k
 ·have h2:¬(u.p:Int)=(v.p:Int):=by omega
  refine SX.goM ?_;exact aJ rfl
 ·refine SX.goM ?_;exact aJ rfl
section
variable{K L:Nat}(hKL:K+L≤100000)
include hKL
theorem akJ{r c r' c':Nat}{vs vs':List Rat}(hv:∀v∈vs,RB v K)(hv':∀v∈vs',RB v L)(hl:vs.length=r*c)(hl':vs'.length=r'*c')(hr:r≤64)(hc:c≤64)(hr':r'≤64)(hc':c'≤64):
  ah prog 34 [.agg (vlA (eF r c vs)),.agg (vlA (eF r' c' vs'))] (.v (.bool (jo (eF r c vs) (eF r' c' vs')))):=by
 have c1:=agj hv hv' (by omega) hl hl' hr hc hr' hc'
 rw[qE am0];refine ah.fnF func34 results34 ntmps34 rfl rfl rfl (by simp[AV.ids,AV0.ids,Atom.ids]) rfl (fun w0 T B E0 hB=>?_)
 refine SX.goM ?_;exact aJ rfl
theorem ajU{a b:List Int}(hl:a.length≤10000)(hn:pN a)(h:∀z∈a,z.natAbs < WB ^ K)(hl':b.length≤10000)(hn':pN b)(h':∀z∈b,z.natAbs < WB ^ L):
  ah prog 34 [.agg (vlA (iO a)),.agg (vlA (iO b))] (.v (.bool (jo (iO a) (iO b)))):=by
 have c1:=akd (MZ.ofz h) (MZ.ofz h') (by rw[zq5,zq5];exact hl) (by rw[zq5,zq5];exact hl') hKL hn hn'
 rw[qE ao2];refine ah.fnF func34 results34 ntmps34 rfl rfl rfl (by simp[AV.ids,AV0.ids,Atom.ids]) rfl (fun w0 T B E0 hB=>?_)
 refine SX.goM ?_;exact aJ rfl
omit hKL in
theorem ak9{p r c r' c':Nat}{l l':List Nat}(hp:PrP p)(hl:l.length=r*c)(hr:r≤64)(hc:c≤64)(h:∀x∈l,x < p)(hl':l'.length=r'*c')(hr':r'≤64)(hc':c'≤64)(h':∀x∈l',x < p):
  ah prog 34 [.agg (vlA (kS p r c l)),.agg (vlA (kS p r' c' l'))] (.v (.bool (jo (kS p r c l) (kS p r' c' l')))):=by
 have cf:=akm (kS p r c l) hp;have c1:=ala hp hl hl' hr hc hr' hc' h h';have e:((kS p r c l).p:Int)=((kS p r' c' l').p:Int):=rfl;rw[qE (p:=r=r'∧c=c'∧l=l') (apc.trans ⟨fun h=>h.2,fun h=>⟨rfl,h⟩⟩)]
 refine ah.fnF func34 results34 ntmps34 rfl rfl rfl (by simp[AV.ids,AV0.ids,Atom.ids]) rfl (fun w0 T B E0 hB=>?_)
 refine SX.goM ?_;exact aJ rfl
omit hKL in
theorem akM{p:Nat}{l l':List Nat}(hl:l.length≤10000)(hl':l'.length≤10000):
  ah prog 34 [.agg (vlA (lu p l)),.agg (vlA (lu p l'))] (.v (.bool (jo (lu p l) (lu p l')))):=by
 have c1:=ahN l l' (by omega) (by omega)
 have e:((lu p l).p:Int)=((lu p l').p:Int):=rfl;rw[qE (p:=l=l') (alU.trans ⟨fun h=>h.2,fun h=>⟨rfl,h⟩⟩)]
 refine ah.fnF func34 results34 ntmps34 rfl rfl rfl (by simp[AV.ids,AV0.ids,Atom.ids]) rfl (fun w0 T B E0 hB=>?_)
 refine SX.goM ?_;exact aJ rfl
omit hKL in
theorem akb{l l':List Vl}(hl:l.length≤10000)(hl':l'.length≤10000)(h:∀x∈l,∀y∈l',ah prog 34 [.agg (vlA x),.agg (vlA y)] (.v (.bool (jo x y)))):
  ah prog 34 [.agg (vlA (kG l)),.agg (vlA (kG l'))] (.v (.bool (jo (kG l) (kG l')))):=by
 have c1:=alc l l' 34 jo h (by omega) (by omega)
 rw[show eqL jo l l'=jo (kG l) (kG l')by
  rw[Bool.eq_iff_iff,nJ,apd];exact uY fun a _ b _=>nJ]at c1
 refine ah.fnF func34 results34 ntmps34 rfl rfl rfl (by simp[AV.ids,AV0.ids,Atom.ids]) rfl (fun w0 T B E0 hB=>?_)
 refine SX.goM ?_;exact aJ rfl
theorem abf{u v:Vl}(hu:Sh K u)(hv:Sh L v):ah prog 34 [.agg (vlA u),.agg (vlA v)] (.v (.bool (jo u v))):=by
 by_cases hk:u.k=v.k∧u.p=v.p
 ·cases hu with
  |num x h=>cases hv with
   |num y h'=>
    rw[qE amB];exact agD h h' (by omega)
   |_=>exact absurd hk.1 (by simp)
  |mat r c vs hl hr hc h=>cases hv with
   |mat r' c' vs' hl' hr' hc' h'=>exact akJ hKL h h' hl hl' hr hc hr' hc'
   |_=>exact absurd hk.1 (by simp)
  |pol zs hl hn h=>cases hv with
   |pol zs' hl' hn' h'=>exact ajU hKL hl hn h hl' hn' h'
   |_=>exact absurd hk.1 (by simp)
  |fld p r c l hp hl hr hc h=>cases hv with
   |fld p' r' c' l' hp' hl' hr' hc' h'=>
    obtain rfl:p=p':=hk.2;exact ak9 hp hl hr hc h hl' hr' hc' h'
   |_=>exact absurd hk.1 (by simp)
  |rng p l hp hl hn h=>cases hv with
   |rng p' l' hp' hl' hn' h'=>
    obtain rfl:p=p':=hk.2;exact akM hl hl'
   |_=>exact absurd hk.1 (by simp)
 ·exact rC u v (by omega)
theorem aoo:∀(n m:Nat) (u v:Vl),Cv K n u→Cv L m v→ah prog 34 [.agg (vlA u),.agg (vlA v)] (.v (.bool (jo u v))):=by
 intro n
 induction n with
 |zero=>
  intro m u v hu hv;cases hu with
  |one hu=>cases hv with
   |one hv=>exact abf hKL hu hv
   |lst l hl h=>exact rC u _ (by cases hu <;> exact .inl (by simp))
 |succ n ih=>
  intro m u v hu hv;cases hu with
  |one hu=>cases hv with
   |one hv=>exact abf hKL hu hv
   |lst l hl h=>exact rC u _ (by cases hu <;> exact .inl (by simp))
  |lst l hl h=>cases hv with
   |one hv=>exact rC _ v (by cases hv <;> exact .inl (by simp))
   |lst l' hl' h'=>exact akb hl hl' fun x hx y hy=>ih _ x y (h x hx) (h' y hy)
end
end
end
end Go.Proofs.YtegehclknhmkgaaGreatDoor