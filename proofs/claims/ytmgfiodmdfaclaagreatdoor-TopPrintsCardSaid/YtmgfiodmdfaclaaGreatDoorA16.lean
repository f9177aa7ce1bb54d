import Derived.Test.YtmgfiodmdfaclaaGreatDoorA15
import Derived.Test.YtmgfiodmdfaclaaGreatDoorA14
import Derived.Test.YtmgfiodmdfaclaaGreatDoorA10
set_option linter.unusedVariables false
set_option linter.unusedSimpArgs false
namespace Go.Proofs.YtmgfiodmdfaclaaGreatDoor
open Go.RowKit QM SX LA
section
abbrev vlK(v:Vl):List CA:=[.val (.int .i64 v.k),.val (.bool v.q.1),.sat (dJ v.q.2.1),.val (.bool v.q.2.2.1),.sat (dJ v.q.2.2.2),.val (.int .i64 v.r),.val (.int .i64 v.c),.sat (ay 4 q4C (v.a.map rq)),.sat (ay 2 z2C (v.po.map rz)),.val (.int .u64 (v.p:Int)),.val (.int .i64 v.fr),.val (.int .i64 v.fc),.sat (ay 1 wdC v.fa),.sat (ay 1 wdC v.ri),.sat (ay 15 vlC v.li)]
def dL(r c:Int)(n:Nat):Bool:=decide (0≤r∧r≤64∧0≤c∧c≤64∧(n:Int)=r*c)
def mOk(r c:Int)(a:List gy):Bool:=a.all qOk&&dL r c a.length
def lz(po:List lY):Bool:=decide (po.length=0)||decide (rzv (po.getD (po.length - 1) (false,[]))≠0)
def pOk(po:List lY):Bool:=po.all zOk&&lz po
def ltp(p x:Nat):Bool:=decide (x < p)
def fOk(r c:Int)(fa:List Nat)(p:Nat):Bool:=fa.all (ltp p)&&dL r c fa.length
def lw(ri:List Nat):Bool:=decide (ri.length=0)||decide (ri.getD (ri.length - 1) 0≠0)
def rOk(p:Nat)(ri:List Nat):Bool:=ri.all (ltp p)&&lw ri
def vK(rec:Vl→Bool)(pos:Bool)(v:Vl):Bool:=decide (vP v=0)&&(if v.k=1 then qOk v.q else if v.k=2 then mOk v.r v.c v.a else if v.k=3 then pOk v.po else if v.k=4 then decide (PrP v.p)&&fOk v.fr v.fc v.fa v.p else if v.k=5 then decide (PrP v.p)&&rOk v.p v.ri else if v.k=6 then pos&&v.li.all rec else false)
def vF:Nat→Vl→Bool
 |0,v=>vK (fun _=>false) false v
 |d+1,v=>vK (vF d) true v
def vZ:Nat→Vl→Prop
 |0,v=>vZ0 v∧v.li=[]
 |n+1,v=>vZ0 v∧∀x∈v.li,vZ n x
theorem vZ.z{n:Nat}{v:Vl}(h:vZ n v):vZ0 v:=by cases n <;> exact h.1
theorem vF_P{d:Nat}{v:Vl}(h:vP v≠0):vF d v=false:=by
 cases d <;> (unfold vF vK;rw[decide_eq_false h];rfl)
theorem vF_1{d:Nat}{v:Vl}(h:vP v=0)(hk:v.k=1):vF d v=qOk v.q:=by
 cases d <;> (unfold vF vK;rw[decide_eq_true h,if_pos hk];rfl)
theorem vF_2{d:Nat}{v:Vl}(h:vP v=0)(hk:v.k=2):vF d v=mOk v.r v.c v.a:=by
 cases d <;> (unfold vF vK;rw[decide_eq_true h,if_neg (by omega),if_pos hk];rfl)
theorem vF_3{d:Nat}{v:Vl}(h:vP v=0)(hk:v.k=3):vF d v=pOk v.po:=by
 cases d <;> (unfold vF vK;rw[decide_eq_true h,if_neg (by omega),if_neg (by omega),if_pos hk];rfl)
theorem vF_4{d:Nat}{v:Vl}(h:vP v=0)(hk:v.k=4):vF d v=(decide (PrP v.p)&&fOk v.fr v.fc v.fa v.p):=by
 cases d <;> (unfold vF vK;rw[decide_eq_true h,if_neg (by omega),if_neg (by omega),if_neg (by omega),if_pos hk];rfl)
theorem vF_5{d:Nat}{v:Vl}(h:vP v=0)(hk:v.k=5):vF d v=(decide (PrP v.p)&&rOk v.p v.ri):=by
 cases d <;> (unfold vF vK;rw[decide_eq_true h,if_neg (by omega),if_neg (by omega),if_neg (by omega),if_neg (by omega),if_pos hk];rfl)
theorem an4{v:Vl}(hk:v.k=6):vF 0 v=false:=by
 unfold vF vK;rw[if_neg (by omega),if_neg (by omega),if_neg (by omega),if_neg (by omega),if_neg (by omega),if_pos hk];cases decide (vP v=0) <;> rfl
theorem vF_6{d:Nat}{v:Vl}(h:vP v=0)(hk:v.k=6):vF (d+1) v=v.li.all (vF d):=by
 unfold vF vK;rw[decide_eq_true h,if_neg (by omega),if_neg (by omega),if_neg (by omega),if_neg (by omega),if_neg (by omega),if_pos hk];rfl
theorem vF_7{d:Nat}{v:Vl}(hk:v.k≠1∧v.k≠2∧v.k≠3∧v.k≠4∧v.k≠5∧v.k≠6):vF d v=false:=by
 cases d <;> (unfold vF vK;rw[if_neg (by omega),if_neg (by omega),if_neg (by omega),if_neg (by omega),if_neg (by omega),if_neg (by omega)];cases decide (vP v=0) <;> rfl)
theorem zD{α:Type}(l:List α)(p:α→Bool):(!l.any fun x=>!p x)=l.all p:=by
 induction l with
 |nil=>rfl
 |cons a l ih=>rw[List.any_cons,List.all_cons,←ih];cases p a <;> simp
theorem xR{α:Type}{l:List α}{p:α→Bool}{k:Nat}{x:α}(hx:l[k]? =some x)(h:p x=false):l.all p=false:=by
 rw[Bool.eq_false_iff];intro h2;have:=List.all_eq_true.1 h2 x (List.mem_of_getElem? hx);rw[h]at this;cases this
theorem wV{α:Type}{l:List α}{p:α→Bool}(h:∀(j:Nat) x,j < l.length→l[j]? =some x→p x=true):l.all p=true:=by
 rw[List.all_eq_true];intro x hx;obtain⟨i,hi⟩:=List.mem_iff_getElem?.1 hx;exact h i x (jZ hi) hi
attribute [local irreducible] IntKind.wrap Go1 Reg WP aQ aR bO bN aN aB aj ah aV Sat
attribute [local irreducible] bS bV bX dx bW qv redS mf PrP qOk zOk vP dL
theorem ahl(v:Vl)(x:Nat):PureOK Tryz.prog 140 [.v (.int .u64 (x:Int)),.r (bK (vlK v))] (.v (.bool (!ltp v.p x))):=by
 refine PureOK.fnF Tryz.func140 Tryz.results140 Tryz.ntmps140 rfl rfl rfl (by simp[AV.ids,AV0.ids,Atom.ids]) rfl (fun w0 T B E0 hB=>?_)
 refine SX.goN ?_;refine aG ?_;unfold ltp;rw[←decide_not,decide_eq_decide];omega
theorem acu(v:Vl)(l:List Nat)(hp:v.p < WB)(hl:l.length≤100000):PureOK Tryz.prog 89 [.agg (vlA v),.r (ay 1 wdC l)] (.v (.bool (decide (PrP v.p)&&l.all (ltp v.p)))):=by
 have cP:=aa5 v.p (by rw[aX]at hp;exact hp)
 have cA:=aod l (.sat (dM 140 [] [.sat (bK (vlK v))])) (fun x=>!ltp v.p x) (fun x _=>FnV.clo (ahl v x)) hl rfl
 rw[←zD];refine PureOK.fnF Tryz.func89 Tryz.results89 Tryz.ntmps89 rfl rfl rfl (by simp[AV.ids,AV0.ids,Atom.ids]) rfl (fun w0 T B E0 hB=>?_)
 refine SX.goN ?_;refine SX.WP.eX 2 hB rfl rfl ?_;refine SX.WP.dh ?_;by_cases h:PrP v.p
 ·rw[decide_eq_true h]at cP ⊢;refine SX.goN ?_;exact aG rfl
 ·rw[decide_eq_false h]at cP ⊢;refine SX.goN ?_;exact aG rfl
theorem ad9(r c:Int){n:Nat}{cells:List CA}:PureOK Tryz.prog 44 [.agg [.c (.val (.int .i64 r)),.c (.val (.int .i64 c)),.c (.sat (aI 1 n cells))]] (.v (.bool (dL r c n))):=by
 unfold dL;refine PureOK.fnF Tryz.func44 Tryz.results44 Tryz.ntmps44 rfl rfl rfl (by simp[AV.ids,AV0.ids,Atom.ids]) rfl (fun w0 T B E0 hB=>?_)
 by_cases h1:r≥0
 ·by_cases h2:r≤64
  ·by_cases h3:c≥0
   ·by_cases h4:c≤64
    ·have hp:0≤r*c:=Int.mul_nonneg h1 h3;have hp2:r*c≤64*64:=Int.mul_le_mul h2 h4 h3 (by decide)
     refine SX.goN ?_;refine aG ?_;rw[decide_eq_decide];exact⟨fun h=>⟨h1,h2,h3,h4,h⟩,fun h=>h.2.2.2.2⟩
    ·refine SX.goN ?_;refine aG ?_;exact(decide_eq_false fun h=>h4 h.2.2.2.1).symm
   ·refine SX.goN ?_;refine aG ?_;exact(decide_eq_false fun h=>h3 h.2.2.1).symm
  ·refine SX.goN ?_;refine aG ?_;exact(decide_eq_false fun h=>h2 h.2.1).symm
 ·refine SX.goN ?_;refine aG ?_;exact(decide_eq_false fun h=>h1 h.1).symm
theorem aeP(n:Int):PureOK Tryz.prog 137 [.v (.int .i64 n)] (.v (.bool (decide (0≤n∧n≤64)))):=by
 refine PureOK.fnF Tryz.func137 Tryz.results137 Tryz.ntmps137 rfl rfl rfl (by simp[AV.ids,AV0.ids,Atom.ids]) rfl (fun w0 T B E0 hB=>?_)
 by_cases h:n≥0
 ·refine SX.goN ?_;refine aG ?_;rw[decide_eq_decide];omega
 ·refine SX.goN ?_;refine aG ?_;exact(decide_eq_false fun h'=>h h'.1).symm
theorem yN(r c:Int){n:Nat}{cells:List CA}:PureOK Tryz.prog 88 [.agg [.c (.val (.int .i64 r)),.c (.val (.int .i64 c)),.c (.sat (aI 1 n cells))]] (.v (.bool (dL r c n))):=by
 unfold dL;have s1:=aeP r;have s2:=aeP c;refine PureOK.fnF Tryz.func88 Tryz.results88 Tryz.ntmps88 rfl rfl rfl (by simp[AV.ids,AV0.ids,Atom.ids]) rfl (fun w0 T B E0 hB=>?_)
 by_cases h1:0≤r∧r≤64
 ·rw[decide_eq_true h1]at s1;by_cases h2:0≤c∧c≤64
  ·rw[decide_eq_true h2]at s2;have hp:0≤r*c:=Int.mul_nonneg h1.1 h2.1;have hp2:r*c≤64*64:=Int.mul_le_mul h1.2 h2.2 h2.1 (by decide)
   refine SX.goN ?_;refine aG ?_;rw[decide_eq_decide];exact⟨fun h=>⟨h1.1,h1.2,h2.1,h2.2,h⟩,fun h=>h.2.2.2.2⟩
  ·rw[decide_eq_false h2]at s2;refine SX.goN ?_;refine aG ?_;exact(decide_eq_false fun h=>h2 ⟨h.2.2.1,h.2.2.2.1⟩).symm
 ·rw[decide_eq_false h1]at s1;refine SX.goN ?_;refine aG ?_;exact(decide_eq_false fun h=>h1 ⟨h.1,h.2.1⟩).symm
theorem adJ(r c:Int)(a:List gy)(hl:a.length≤100000)(ha:∀x∈a,(Sm WB x.2.1∧Sm WB x.2.2.2)∧x.2.1.length≤100000∧x.2.2.2.length≤100000):PureOK Tryz.prog 20 [.agg (ah6 r c (a.map rq))] (.v (.bool (mOk r c a))):=by
 have hlen:(a.map rq).length=a.length:=List.length_map _;have cF:PureOK Tryz.prog 43 [.agg (ah6 r c (a.map rq))] (.v (.bool (dL r c (a.map rq).length))):=by
  unfold dL;exact afK r c
 unfold mOk;refine PureOK.fnF Tryz.func20 Tryz.results20 Tryz.ntmps20 rfl rfl rfl (by simp[AV.ids,AV0.ids,Atom.ids]) rfl (fun w0 T B E0 hB=>?_)
 refine SX.goN ?_;refine W.loop (fun k=>k≤a.length∧∀(j:Nat) x,j < k→a[j]? =some x→qOk x=true) (fun k=>[(1,.ptr 1 0),(3,.v (.int .i64 (k:Int)))]) (fun k=>[(1,.box 30 (ah6 r c (a.map rq)))]) (fun k=>a.length - k) 0 ⟨Nat.zero_le _,fun j x h=>by omega⟩ (fun k ⟨hk,he⟩=>?_)
 by_cases h:k < a.length
 ·have h':k < (a.map rq).length:=by omega
  obtain⟨x,hx⟩:∃x,a[k]? =some x:=⟨_,List.getElem?_eq_getElem h⟩
  have hq:(a.map rq)[k]? =some (rq x):=by rw[List.getElem?_map,hx];rfl
  have hax:=ha x (List.mem_of_getElem? hx);have cN:=aiV x hax.1 (by omega)
  cases ho:qOk x with
  |true=>
   rw[ho]at cN;refine SX.goN ?_;refine W.next (k+1) ⟨h,fun j y hj hy=>?_⟩ (by omega)
   by_cases hjk:j < k
   ·exact he j y hjk hy
   ·obtain rfl:j=k:=by omega
    rw[hx]at hy;rw[←Option.some.inj hy];exact ho
  |false=>
   rw[ho]at cN;refine SX.goN ?_;refine aG ?_;rw[xR hx ho];rfl
 ·obtain rfl:k=a.length:=by omega
  have h':¬a.length < (a.map rq).length:=by omega
  rw[wV he,←hlen];refine SX.goN ?_;exact aG (Bool.true_and _).symm
theorem adG(r c:Int)(l:List Nat)(p:Nat)(hl:l.length≤100000):PureOK Tryz.prog 23 [.agg [.c (.val (.int .i64 r)),.c (.val (.int .i64 c)),.c (.sat (ay 1 wdC l))],.v (.int .u64 (p:Int))] (.v (.bool (fOk r c l p))):=by
 have cF:PureOK Tryz.prog 44 [.agg [.c (.val (.int .i64 r)),.c (.val (.int .i64 c)),.c (.sat (ay 1 wdC l))]] (.v (.bool (dL r c l.length))):=ad9 r c;unfold fOk;refine PureOK.fnF Tryz.func23 Tryz.results23 Tryz.ntmps23 rfl rfl rfl (by simp[AV.ids,AV0.ids,Atom.ids]) rfl (fun w0 T B E0 hB=>?_)
 refine SX.goN ?_;refine W.loop (fun k=>k≤l.length∧∀(j:Nat) x,j < k→l[j]? =some x→ltp p x=true) (fun k=>[(1,.v (.int .u64 (p:Int))),(2,.ptr 2 0),(5,.v (.int .i64 (k:Int)))]) (fun k=>[(2,.box 35 [.c (.val (.int .i64 r)),.c (.val (.int .i64 c)),.c (.sat (ay 1 wdC l))])]) (fun k=>l.length - k) 0 ⟨Nat.zero_le _,fun j x h=>by omega⟩ (fun k ⟨hk,he⟩=>?_)
 by_cases h:k < l.length
 ·obtain⟨x,hx⟩:∃x,l[k]? =some x:=⟨_,List.getElem?_eq_getElem h⟩
  by_cases ho:x < p
  ·refine SX.goN ?_;refine W.next (k+1) ⟨h,fun j y hj hy=>?_⟩ (by omega)
   by_cases hjk:j < k
   ·exact he j y hjk hy
   ·obtain rfl:j=k:=by omega
    rw[hx]at hy;rw[←Option.some.inj hy];exact decide_eq_true ho
  ·refine SX.goN ?_;refine aG ?_;rw[xR hx (decide_eq_false ho)];rfl
 ·obtain rfl:k=l.length:=by omega
  rw[wV he];refine SX.goN ?_;exact aG (Bool.true_and _).symm
theorem ad7(l:List lY)(hl:l.length≤100000)(ha:∀x∈l,Sm WB x.2∧x.2.length≤100000):PureOK Tryz.prog 21 [.r (ay 2 z2C (l.map rz))] (.v (.bool (pOk l))):=by
 have hlen:(l.map rz).length=l.length:=List.length_map _;unfold pOk;refine PureOK.fnF Tryz.func21 Tryz.results21 Tryz.ntmps21 rfl rfl rfl (by simp[AV.ids,AV0.ids,Atom.ids]) rfl (fun w0 T B E0 hB=>?_)
 refine SX.goN ?_;refine W.loop (fun k=>k≤l.length∧∀(j:Nat) x,j < k→l[j]? =some x→zOk x=true) (fun k=>[(0,.r (ay 2 z2C (l.map rz))),(3,.v (.int .i64 (k:Int)))]) (fun k=>[]) (fun k=>l.length - k) 0 ⟨Nat.zero_le _,fun j x h=>by omega⟩ (fun k ⟨hk,he⟩=>?_)
 by_cases h:k < l.length
 ·have h':k < (l.map rz).length:=by omega
  obtain⟨x,hx⟩:∃x,l[k]? =some x:=⟨_,List.getElem?_eq_getElem h⟩
  have hq:(l.map rz)[k]? =some (rz x):=by rw[List.getElem?_map,hx];rfl
  have hax:=ha x (List.mem_of_getElem? hx);have ho:zOk x=if x.2.length=0 then !x.1 else decide (x.2.getD (x.2.length - 1) 0≠0):=by unfold zOk;rfl
  have nx:zOk x=true→∀(j:Nat) y,j < k+1→l[j]? =some y→zOk y=true:=fun ht j y hj hy=>by
   by_cases hjk:j < k
   ·exact he j y hjk hy
   ·obtain rfl:j=k:=by omega
    rw[hx]at hy;rw[←Option.some.inj hy];exact ht
  by_cases h0:x.2.length=0
  ·rw[if_pos h0]at ho;cases h1:x.1
   ·rw[h1]at ho;refine SX.goN ?_;exact W.next (k+1) ⟨h,nx ho⟩ (by omega)
   ·rw[h1]at ho;refine SX.goN ?_;refine aG ?_;rw[xR hx ho];rfl
  ·rw[if_neg h0]at ho;obtain⟨w,hw⟩:∃w,x.2[x.2.length - 1]? =some w:=⟨_,List.getElem?_eq_getElem (by omega)⟩
   have hg:x.2.getD (x.2.length - 1) 0=w:=by rw[List.getD_eq_getElem?_getD,hw];rfl
   rw[hg]at ho;by_cases h1:w=0
   ·rw[decide_eq_false (fun e=>e h1)]at ho
    refine SX.goN ?_;refine aG ?_;rw[xR hx ho];rfl
   ·rw[decide_eq_true h1]at ho;refine SX.goN ?_;exact W.next (k+1) ⟨h,nx ho⟩ (by omega)
 ·obtain rfl:k=l.length:=by omega
  have h':¬l.length < (l.map rz).length:=by omega
  rw[wV he];unfold lz;by_cases h0:l.length=0
  ·refine SX.goN ?_;refine aG ?_;rw[decide_eq_true h0];rfl
  ·obtain⟨x,hx⟩:∃x,l[l.length - 1]? =some x:=⟨_,List.getElem?_eq_getElem (by omega)⟩
   have hq:(l.map rz)[(l.map rz).length - 1]? =some (rz x):=by rw[hlen,List.getElem?_map,hx];rfl
   have hg:l.getD (l.length - 1) (false,[])=x:=by rw[List.getD_eq_getElem?_getD,hx];rfl
   have hax:=ha x (List.mem_of_getElem? hx);have cS:=(mI (h:=ZI.raw x.1 x.2)).h (show x.2.length≤1099511627775 by omega)
   have hs0:aU (rzv x)=0↔rzv x=0:=by unfold aU;(repeat' split) <;> omega
   change PureOK _ _ _ (.v (.int .i64 (aU (rzv x))))at cS
   rw[hg];refine SX.goN ?_;refine aG ?_;rw[decide_eq_false h0,Bool.true_and,Bool.false_or,decide_eq_decide,Ne,Ne,hs0]
end
section
attribute [local irreducible] IntKind.wrap Go1 Reg WP aQ aR bO bN aN aB aj ah aV Sat
attribute [local irreducible] bS bV bX dx bW qv redS mf PrP qOk zOk vP dL lz
theorem afo(q:gy)(hq:(Sm WB q.2.1∧Sm WB q.2.2.2)∧q.2.1.length≤100000∧q.2.2.2.length≤100000):PureOK Tryz.prog 84 [.agg (q4A (rq q))] (.v (.bool (!qOk q))):=by
 have c:=af2 q hq.1 (by omega)
 refine PureOK.fnF Tryz.func84 Tryz.results84 Tryz.ntmps84 rfl rfl rfl (by simp[AV.ids,AV0.ids,Atom.ids]) rfl (fun w0 T B E0 hB=>?_)
 refine SX.goN ?_;exact aG rfl
theorem afx(z:lY)(hz:Sm WB z.2∧z.2.length≤100000):PureOK Tryz.prog 86 [.agg (z2A (rz z))] (.v (.bool (!zOk z))):=by
 have c:=uQ z (by omega)
 refine PureOK.fnF Tryz.func86 Tryz.results86 Tryz.ntmps86 rfl rfl rfl (by simp[AV.ids,AV0.ids,Atom.ids]) rfl (fun w0 T B E0 hB=>?_)
 refine SX.goN ?_;exact aG rfl
theorem aeY(v:Vl)(d:Int)(b:Bool)(hd:0 < d)(hd2:d≤100)(c:PureOK Tryz.prog 50 [.agg (vlA v),.v (.int .i64 (d - 1))] (.v (.bool b))):PureOK Tryz.prog 91 [.agg (vlA v),.r (bK [.val (.int .i64 d)])] (.v (.bool (!b))):=by
 refine PureOK.fnF Tryz.func91 Tryz.results91 Tryz.ntmps91 rfl rfl rfl (by simp[AV.ids,AV0.ids,Atom.ids]) rfl (fun w0 T B E0 hB=>?_)
 refine SX.goN ?_;exact aG rfl
theorem qmF(r c:Int){n:Nat}{cells:List CA}:PureOK Tryz.prog 82 [.agg [.c (.val (.int .i64 r)),.c (.val (.int .i64 c)),.c (.sat (aI 4 n cells))]] (.v (.bool (dL r c n))):=by
 unfold dL;exact(aaK r c).h trivial
section
variable(v:Vl)(d:Nat)(hz:vZ0 v)
include hz
theorem nV:PureOK Tryz.prog 80 [.agg (vlA v),.r (aI 1 1 [.val (.int .i64 v.k)])] (.v (.bool (decide (vP v=0)))):=aku v hz
theorem yH(hP:vP v≠0):PureOK Tryz.prog 50 [.agg (vlA v),.v (.int .i64 (d:Int))] (.v (.bool (vF d v))):=by
 have c:=nV v hz;rw[decide_eq_false hP]at c;rw[vF_P hP];refine PureOK.fnF Tryz.func50 Tryz.results50 Tryz.ntmps50 rfl rfl rfl (by simp[AV.ids,AV0.ids,Atom.ids]) rfl (fun w0 T B E0 hB=>?_)
 refine SX.goN ?_;exact aG rfl
theorem wP(hP:vP v=0)(hk:v.k=1):PureOK Tryz.prog 50 [.agg (vlA v),.v (.int .i64 (d:Int))] (.v (.bool (vF d v))):=by
 have c:=nV v hz;rw[decide_eq_true hP]at c;rw[vF_1 hP hk];have cF:=af2 v.q hz.q.1 (by have:=hz.q.2;omega)
 refine PureOK.fnF Tryz.func50 Tryz.results50 Tryz.ntmps50 rfl rfl rfl (by simp[AV.ids,AV0.ids,Atom.ids]) rfl (fun w0 T B E0 hB=>?_)
 refine SX.goN ?_;exact aG rfl
theorem xq(hP:vP v=0)(hk:v.k=2):PureOK Tryz.prog 50 [.agg (vlA v),.v (.int .i64 (d:Int))] (.v (.bool (vF d v))):=by
 have c:=nV v hz;rw[decide_eq_true hP]at c;rw[vF_2 hP hk];have cA:=aj5 v.a 84 (fun x=>!qOk x) (fun x hx=>afo x (hz.a x hx)) hz.al
 have cF:=qmF v.r v.c (n:=(v.a.map rq).length) (cells:=(v.a.map rq).flatMap q4C);have hl:(v.a.map rq).length=v.a.length:=List.length_map _;unfold mOk;rw[←hl,←zD];cases h:dL v.r v.c (v.a.map rq).length
 ·rw[h]at cF;refine PureOK.fnF Tryz.func50 Tryz.results50 Tryz.ntmps50 rfl rfl rfl (by simp[AV.ids,AV0.ids,Atom.ids]) rfl (fun w0 T B E0 hB=>?_)
  refine SX.goN ?_;refine aG ?_;rw[Bool.and_false]
 ·rw[h]at cF;refine PureOK.fnF Tryz.func50 Tryz.results50 Tryz.ntmps50 rfl rfl rfl (by simp[AV.ids,AV0.ids,Atom.ids]) rfl (fun w0 T B E0 hB=>?_)
  refine SX.goN ?_;refine aG ?_;rw[Bool.and_true]
theorem wU(hP:vP v=0)(hk:v.k=3):PureOK Tryz.prog 50 [.agg (vlA v),.v (.int .i64 (d:Int))] (.v (.bool (vF d v))):=by
 have c:=nV v hz;rw[decide_eq_true hP]at c;rw[vF_3 hP hk];have cA:=ajR v.po 86 (fun x=>!zOk x) (fun x hx=>afx x (hz.po x hx)) hz.pol
 have hl:(v.po.map rz).length=v.po.length:=List.length_map _;have hb:=hz.pol;unfold pOk lz;rw[←zD];by_cases h0:v.po.length=0
 ·rw[decide_eq_true h0,Bool.true_or,Bool.and_true];refine PureOK.fnF Tryz.func50 Tryz.results50 Tryz.ntmps50 rfl rfl rfl (by simp[AV.ids,AV0.ids,Atom.ids]) rfl (fun w0 T B E0 hB=>?_)
  refine SX.goN ?_;exact aG rfl
 ·obtain⟨x,hx⟩:∃x,v.po[v.po.length - 1]? =some x:=⟨_,List.getElem?_eq_getElem (by omega)⟩
  have hq:(v.po.map rz)[(v.po.map rz).length - 1]? =some (rz x):=by rw[hl,List.getElem?_map,hx];rfl
  have hg:v.po.getD (v.po.length - 1) (false,[])=x:=by rw[List.getD_eq_getElem?_getD,hx];rfl
  have hax:=hz.po x (List.mem_of_getElem? hx);have cS:=(mI (h:=ZI.raw x.1 x.2)).h (show x.2.length≤1099511627775 by omega)
  have hs0:aU (rzv x)=0↔rzv x=0:=by unfold aU;(repeat' split) <;> omega
  change PureOK _ _ _ (.v (.int .i64 (aU (rzv x))))at cS
  rw[hg,decide_eq_false h0,Bool.false_or];by_cases h1:rzv x=0
  ·have h2:aU (rzv x)=0:=hs0.2 h1;rw[decide_eq_false (fun e=>e h1),Bool.and_false]
   refine PureOK.fnF Tryz.func50 Tryz.results50 Tryz.ntmps50 rfl rfl rfl (by simp[AV.ids,AV0.ids,Atom.ids]) rfl (fun w0 T B E0 hB=>?_)
   refine SX.goN ?_;exact aG rfl
  ·have h2:¬aU (rzv x)=0:=fun e=>h1 (hs0.1 e)
   rw[decide_eq_true h1,Bool.and_true];refine PureOK.fnF Tryz.func50 Tryz.results50 Tryz.ntmps50 rfl rfl rfl (by simp[AV.ids,AV0.ids,Atom.ids]) rfl (fun w0 T B E0 hB=>?_)
   refine SX.goN ?_;exact aG rfl
theorem xu(hP:vP v=0)(hk:v.k=4):PureOK Tryz.prog 50 [.agg (vlA v),.v (.int .i64 (d:Int))] (.v (.bool (vF d v))):=by
 have c:=nV v hz;rw[decide_eq_true hP]at c;rw[vF_4 hP hk];have cB:=acu v v.fa hz.p hz.fal;have cF:PureOK Tryz.prog 88 [.agg [.c (.val (.int .i64 v.fr)),.c (.val (.int .i64 v.fc)),.c (.sat (ay 1 wdC v.fa))]] (.v (.bool (dL v.fr v.fc v.fa.length))):=yN v.fr v.fc;unfold fOk;cases h:dL v.fr v.fc v.fa.length
 ·rw[h]at cF;refine PureOK.fnF Tryz.func50 Tryz.results50 Tryz.ntmps50 rfl rfl rfl (by simp[AV.ids,AV0.ids,Atom.ids]) rfl (fun w0 T B E0 hB=>?_)
  refine SX.goN ?_;refine aG ?_;rw[Bool.and_false,Bool.and_false]
 ·rw[h]at cF;refine PureOK.fnF Tryz.func50 Tryz.results50 Tryz.ntmps50 rfl rfl rfl (by simp[AV.ids,AV0.ids,Atom.ids]) rfl (fun w0 T B E0 hB=>?_)
  refine SX.goN ?_;refine aG ?_;rw[Bool.and_true]
theorem vQ(hP:vP v=0)(hk:v.k=5):PureOK Tryz.prog 50 [.agg (vlA v),.v (.int .i64 (d:Int))] (.v (.bool (vF d v))):=by
 have c:=nV v hz;rw[decide_eq_true hP]at c;rw[vF_5 hP hk];have cB:=acu v v.ri hz.p hz.ril;have hb:=hz.ril;unfold rOk lw;rw[←Bool.and_assoc];generalize (decide (PrP v.p)&&v.ri.all (ltp v.p))=b at cB ⊢;cases b
 ·refine PureOK.fnF Tryz.func50 Tryz.results50 Tryz.ntmps50 rfl rfl rfl (by simp[AV.ids,AV0.ids,Atom.ids]) rfl (fun w0 T B E0 hB=>?_)
  refine SX.goN ?_;exact aG rfl
 ·by_cases h0:v.ri.length=0
  ·rw[decide_eq_true h0];refine PureOK.fnF Tryz.func50 Tryz.results50 Tryz.ntmps50 rfl rfl rfl (by simp[AV.ids,AV0.ids,Atom.ids]) rfl (fun w0 T B E0 hB=>?_)
   refine SX.goN ?_;exact aG rfl
  ·obtain⟨x,hx⟩:∃x,v.ri[v.ri.length - 1]? =some x:=⟨_,List.getElem?_eq_getElem (by omega)⟩
   have hg:v.ri.getD (v.ri.length - 1) 0=x:=by rw[List.getD_eq_getElem?_getD,hx];rfl
   rw[hg,decide_eq_false h0,Bool.false_or,Bool.true_and];refine PureOK.fnF Tryz.func50 Tryz.results50 Tryz.ntmps50 rfl rfl rfl (by simp[AV.ids,AV0.ids,Atom.ids]) rfl (fun w0 T B E0 hB=>?_)
   refine SX.goN ?_;refine aG ?_;rw[decide_eq_decide];omega
theorem xB(hP:vP v=0)(hk:v.k=6)(hd:d≤20)(hr:∀e,d=e+1→∀x∈v.li,PureOK Tryz.prog 50 [.agg (vlA x),.v (.int .i64 (e:Int))] (.v (.bool (vF e x)))):PureOK Tryz.prog 50 [.agg (vlA v),.v (.int .i64 (d:Int))] (.v (.bool (vF d v))):=by
 have c:=nV v hz;rw[decide_eq_true hP]at c;cases d with
 |zero=>
  rw[an4 hk];refine PureOK.fnF Tryz.func50 Tryz.results50 Tryz.ntmps50 rfl rfl rfl (by simp[AV.ids,AV0.ids,Atom.ids]) rfl (fun w0 T B E0 hB=>?_)
  refine SX.goN ?_;refine SX.WP.eX 3 hB rfl rfl ?_;refine SX.WP.dh ?_;refine SX.goN ?_;exact aG rfl
 |succ e=>
  rw[vF_6 hP hk,←zD];have cA:=anA v.li (.sat (dM 91 [] [.sat (bK [.val (.int .i64 ((e+1:Nat):Int))])])) (fun x=>!vF e x) (fun x hx=>FnV.clo (aeY x ((e+1:Nat):Int) (vF e x) (by omega) (by omega) (by
   rw[show ((e+1:Nat):Int) - 1=(e:Int)by omega];exact hr e rfl x hx))) hz.lil rfl
  refine PureOK.fnF Tryz.func50 Tryz.results50 Tryz.ntmps50 rfl rfl rfl (by simp[AV.ids,AV0.ids,Atom.ids]) rfl (fun w0 T B E0 hB=>?_)
  refine SX.goN ?_;refine SX.WP.eX 3 hB rfl rfl ?_;refine SX.WP.dh ?_;refine SX.goN ?_;exact aG rfl
theorem vE(hP:vP v=0)(hk:v.k≠1∧v.k≠2∧v.k≠3∧v.k≠4∧v.k≠5∧v.k≠6):PureOK Tryz.prog 50 [.agg (vlA v),.v (.int .i64 (d:Int))] (.v (.bool (vF d v))):=by
 have c:=nV v hz;rw[decide_eq_true hP]at c;rw[vF_7 hk];refine PureOK.fnF Tryz.func50 Tryz.results50 Tryz.ntmps50 rfl rfl rfl (by simp[AV.ids,AV0.ids,Atom.ids]) rfl (fun w0 T B E0 hB=>?_)
 refine SX.goN ?_;exact aG rfl
end
theorem ahg:∀(n d:Nat) (v:Vl),vZ n v→d≤20→PureOK Tryz.prog 50 [.agg (vlA v),.v (.int .i64 (d:Int))] (.v (.bool (vF d v))):=by
 intro n
 induction n with
 |zero=>
  intro d v hv hd;by_cases hP:vP v=0
  ·have hk:v.k=1∨v.k=2∨v.k=3∨v.k=4∨v.k=5∨v.k=6∨(v.k≠1∧v.k≠2∧v.k≠3∧v.k≠4∧v.k≠5∧v.k≠6):=by omega
   rcases hk with hk|hk|hk|hk|hk|hk|hk
   ·exact wP v d hv.z hP hk
   ·exact xq v d hv.z hP hk
   ·exact wU v d hv.z hP hk
   ·exact xu v d hv.z hP hk
   ·exact vQ v d hv.z hP hk
   ·exact xB v d hv.z hP hk hd fun e _ x hx=>by rw[hv.2]at hx;cases hx
   ·exact vE v d hv.z hP hk
  ·exact yH v d hv.z hP
 |succ n ih=>
  intro d v hv hd;by_cases hP:vP v=0
  ·have hk:v.k=1∨v.k=2∨v.k=3∨v.k=4∨v.k=5∨v.k=6∨(v.k≠1∧v.k≠2∧v.k≠3∧v.k≠4∧v.k≠5∧v.k≠6):=by omega
   rcases hk with hk|hk|hk|hk|hk|hk|hk
   ·exact wP v d hv.z hP hk
   ·exact xq v d hv.z hP hk
   ·exact wU v d hv.z hP hk
   ·exact xu v d hv.z hP hk
   ·exact vQ v d hv.z hP hk
   ·exact xB v d hv.z hP hk hd fun e he x hx=>ih e x (hv.2 x hx) (by omega)
   ·exact vE v d hv.z hP hk
  ·exact yH v d hv.z hP
theorem nH{n:Nat}{v:Vl}(hv:vZ n v):PureOK Tryz.prog 27 [.agg (vlA v)] (.v (.bool (vF 20 v))):=by
 have c:=ahg n 20 v hv (Nat.le_refl _);refine PureOK.fnF Tryz.func27 Tryz.results27 Tryz.ntmps27 rfl rfl rfl (by simp[AV.ids,AV0.ids,Atom.ids]) rfl (fun w0 T B E0 hB=>?_)
 refine SX.goN ?_;exact aG rfl
end
section
section
abbrev vlB(v:Vl):List Atom:=[.c (.val (.int .i64 v.k)),.c (.val (.bool v.q.1)),.c (.sat (dJ v.q.2.1)),.c (.val (.bool v.q.2.2.1)),.c (.sat (dJ v.q.2.2.2)),.c (.val (.int .i64 v.r)),.c (.val (.int .i64 v.c)),.c (.sat (ay 4 q4C (v.a.map rq))),.c (.sat (ay 2 z2C (v.po.map rz))),.c (.val (.int .u64 (v.p:Int))),.c (.val (.int .i64 v.fr)),.c (.val (.int .i64 v.fc)),.c (.sat (ay 1 wdC v.fa)),.c (.sat (ay 1 wdC v.ri)),.c (.sat (ay 15 vlE v.li))]
theorem ab2(v:Vl):vlA v=vlB v:=by unfold vlA vlB;rw[uV]
attribute [local irreducible] IntKind.wrap Go1 Reg WP aQ aR bO bN aN aB aj ah aV Sat
attribute [local irreducible] bS bV bX dx bW qv redS mf PrP qOk zOk vP dL lz
section
variable(v:Vl)(d:Nat)(hz:vZ0 v)
include hz
omit hz in
theorem ain(hP:vP v≠0):PureOK Tryz.prog 6 [.agg (vlA v),.v (.int .i64 (d:Int))] (.v (.bool (vF d v))):=by
 have c:=jA v;rw[vF_P hP];refine PureOK.fnF Tryz.func6 Tryz.results6 Tryz.ntmps6 rfl rfl rfl (by simp[AV.ids,AV0.ids,Atom.ids]) rfl (fun w0 T B E0 hB=>?_)
 refine SX.goN ?_;exact aG rfl
theorem agb(hP:vP v=0)(hk:v.k=1):PureOK Tryz.prog 6 [.agg (vlA v),.v (.int .i64 (d:Int))] (.v (.bool (vF d v))):=by
 have c:=jA v;rw[hP]at c;rw[vF_1 hP hk];have cF:=aiV v.q hz.q.1 (by have:=hz.q.2;omega)
 refine PureOK.fnF Tryz.func6 Tryz.results6 Tryz.ntmps6 rfl rfl rfl (by simp[AV.ids,AV0.ids,Atom.ids]) rfl (fun w0 T B E0 hB=>?_)
 refine SX.goN ?_;exact aG rfl
theorem afN(hP:vP v=0)(hk:v.k=2):PureOK Tryz.prog 6 [.agg (vlA v),.v (.int .i64 (d:Int))] (.v (.bool (vF d v))):=by
 have c:=jA v;rw[hP]at c;rw[vF_2 hP hk];have cF:=adJ v.r v.c v.a hz.al hz.a;refine PureOK.fnF Tryz.func6 Tryz.results6 Tryz.ntmps6 rfl rfl rfl (by simp[AV.ids,AV0.ids,Atom.ids]) rfl (fun w0 T B E0 hB=>?_)
 refine SX.goN ?_;exact aG rfl
theorem aeZ(hP:vP v=0)(hk:v.k=3):PureOK Tryz.prog 6 [.agg (vlA v),.v (.int .i64 (d:Int))] (.v (.bool (vF d v))):=by
 have c:=jA v;rw[hP]at c;rw[vF_3 hP hk];have cF:=ad7 v.po hz.pol hz.po;refine PureOK.fnF Tryz.func6 Tryz.results6 Tryz.ntmps6 rfl rfl rfl (by simp[AV.ids,AV0.ids,Atom.ids]) rfl (fun w0 T B E0 hB=>?_)
 refine SX.goN ?_;exact aG rfl
theorem aer(hP:vP v=0)(hk:v.k=4):PureOK Tryz.prog 6 [.agg (vlA v),.v (.int .i64 (d:Int))] (.v (.bool (vF d v))):=by
 have c:=jA v;rw[hP]at c;rw[vF_4 hP hk];have cF:=adG v.fr v.fc v.fa v.p hz.fal;have cP:=ab4 v.p (by have:=hz.p;rw[aX]at this;exact this)
 by_cases h:PrP v.p
 ·rw[decide_eq_true h]at cP ⊢;refine PureOK.fnF Tryz.func6 Tryz.results6 Tryz.ntmps6 rfl rfl rfl (by simp[AV.ids,AV0.ids,Atom.ids]) rfl (fun w0 T B E0 hB=>?_)
  refine SX.goN ?_;exact aG rfl
 ·rw[decide_eq_false h]at cP ⊢;refine PureOK.fnF Tryz.func6 Tryz.results6 Tryz.ntmps6 rfl rfl rfl (by simp[AV.ids,AV0.ids,Atom.ids]) rfl (fun w0 T B E0 hB=>?_)
  refine SX.goN ?_;exact aG rfl
theorem aeK(hP:vP v=0)(hk:v.k=5):PureOK Tryz.prog 6 [.agg (vlA v),.v (.int .i64 (d:Int))] (.v (.bool (vF d v))):=by
 have c:=jA v;rw[hP]at c;rw[vF_5 hP hk];have cP:=ab4 v.p (by have:=hz.p;rw[aX]at this;exact this)
 have hb:=hz.ril;unfold rOk;refine PureOK.fnF Tryz.func6 Tryz.results6 Tryz.ntmps6 rfl rfl rfl (by simp[AV.ids,AV0.ids,Atom.ids]) rfl (fun w0 T B E0 hB=>?_)
 refine SX.goN ?_;refine W.loop (fun k=>k≤v.ri.length∧∀(j:Nat) x,j < k→v.ri[j]? =some x→ltp v.p x=true) (fun k=>[(2,.ptr 2 0),(5,.v (.int .i64 (k:Int)))]) (fun k=>[(2,.box 39 (vlA v))]) (fun k=>v.ri.length - k) 0 ⟨Nat.zero_le _,fun j x h=>by omega⟩ (fun k ⟨hk,he⟩=>?_)
 by_cases h:k < v.ri.length
 ·obtain⟨x,hx⟩:∃x,v.ri[k]? =some x:=⟨_,List.getElem?_eq_getElem h⟩
  by_cases ho:x < v.p
  ·refine SX.goN ?_;refine W.next (k+1) ⟨h,fun j y hj hy=>?_⟩ (by omega)
   by_cases hjk:j < k
   ·exact he j y hjk hy
   ·obtain rfl:j=k:=by omega
    rw[hx]at hy;rw[←Option.some.inj hy];exact decide_eq_true ho
  ·refine SX.goN ?_;refine aG ?_;rw[xR hx (decide_eq_false ho),Bool.false_and,Bool.and_false]
 ·obtain rfl:k=v.ri.length:=by omega
  rw[wV he,Bool.true_and];by_cases hp:PrP v.p
  ·rw[decide_eq_true hp]at cP ⊢;unfold lw;by_cases h0:v.ri.length=0
   ·rw[decide_eq_true h0];refine SX.goN ?_;exact aG rfl
   ·obtain⟨x,hx⟩:∃x,v.ri[v.ri.length - 1]? =some x:=⟨_,List.getElem?_eq_getElem (by omega)⟩
    have hg:v.ri.getD (v.ri.length - 1) 0=x:=by rw[List.getD_eq_getElem?_getD,hx];rfl
    rw[hg,decide_eq_false h0,Bool.false_or,Bool.true_and];refine SX.goN ?_;refine aG ?_;rw[decide_eq_decide];omega
  ·rw[decide_eq_false hp]at cP ⊢;refine SX.goN ?_;exact aG rfl
theorem afg(hP:vP v=0)(hk:v.k=6)(hd:d≤20)(hr:∀e,d=e+1→∀x∈v.li,PureOK Tryz.prog 6 [.agg (vlA x),.v (.int .i64 (e:Int))] (.v (.bool (vF e x)))):PureOK Tryz.prog 6 [.agg (vlA v),.v (.int .i64 (d:Int))] (.v (.bool (vF d v))):=by
 have c:=jA v;rw[hP]at c;have hb:=hz.lil;rw[ab2]at c ⊢;cases d with
 |zero=>
  rw[an4 hk];refine PureOK.fnF Tryz.func6 Tryz.results6 Tryz.ntmps6 rfl rfl rfl (by simp[AV.ids,AV0.ids,Atom.ids]) rfl (fun w0 T B E0 hB=>?_)
  refine SX.goN ?_;refine W.loop (fun k:Nat=>k=0) (fun k=>[(1,.v (.int .i64 0)),(2,.ptr 2 0),(6,.v (.int .i64 (k:Int)))]) (fun k=>[(2,.box 39 (vlB v))]) (fun k=>k) 0 rfl (fun k hk=>?_)
  subst hk;by_cases h:0 < v.li.length
  ·refine SX.goN ?_;exact aG rfl
  ·refine SX.goN ?_;exact aG rfl
 |succ e=>
  rw[vF_6 hP hk];refine PureOK.fnF Tryz.func6 Tryz.results6 Tryz.ntmps6 rfl rfl rfl (by simp[AV.ids,AV0.ids,Atom.ids]) rfl (fun w0 T B E0 hB=>?_)
  refine SX.goN ?_;refine W.loop (fun k=>k≤v.li.length∧∀(j:Nat) x,j < k→v.li[j]? =some x→vF e x=true) (fun k=>[(1,.v (.int .i64 ((e+1:Nat):Int))),(2,.ptr 2 0),(6,.v (.int .i64 (k:Int)))]) (fun k=>[(2,.box 39 (vlB v))]) (fun k=>v.li.length - k) 0 ⟨Nat.zero_le _,fun j x h=>by omega⟩ (fun k ⟨hk,he⟩=>?_)
  by_cases h:k < v.li.length
  ·obtain⟨x,hx⟩:∃x,v.li[k]? =some x:=⟨_,List.getElem?_eq_getElem h⟩
   have cE:=hr e rfl x (List.mem_of_getElem? hx);rw[show (e:Int)=((e+1 - 1:Nat):Int)by omega]at cE
   cases ho:vF e x with
   |true=>
    rw[ho]at cE;refine SX.goN ?_;refine W.next (k+1) ⟨h,fun j y hj hy=>?_⟩ (by omega)
    by_cases hjk:j < k
    ·exact he j y hjk hy
    ·obtain rfl:j=k:=by omega
     rw[hx]at hy;rw[←Option.some.inj hy];exact ho
   |false=>
    rw[ho]at cE;refine SX.goN ?_;refine aG ?_;rw[xR hx ho]
  ·obtain rfl:k=v.li.length:=by omega
   rw[wV he];refine SX.goN ?_;refine aG ?_;exact decide_eq_true (by omega)
omit hz in
theorem aeF(hP:vP v=0)(hk:v.k≠1∧v.k≠2∧v.k≠3∧v.k≠4∧v.k≠5∧v.k≠6):PureOK Tryz.prog 6 [.agg (vlA v),.v (.int .i64 (d:Int))] (.v (.bool (vF d v))):=by
 have c:=jA v;rw[hP]at c;rw[vF_7 hk];refine PureOK.fnF Tryz.func6 Tryz.results6 Tryz.ntmps6 rfl rfl rfl (by simp[AV.ids,AV0.ids,Atom.ids]) rfl (fun w0 T B E0 hB=>?_)
 refine SX.goN ?_;exact aG rfl
end
theorem abH:∀(n d:Nat) (v:Vl),vZ n v→d≤20→PureOK Tryz.prog 6 [.agg (vlA v),.v (.int .i64 (d:Int))] (.v (.bool (vF d v))):=by
 intro n
 induction n with
 |zero=>
  intro d v hv hd;by_cases hP:vP v=0
  ·have hk:v.k=1∨v.k=2∨v.k=3∨v.k=4∨v.k=5∨v.k=6∨(v.k≠1∧v.k≠2∧v.k≠3∧v.k≠4∧v.k≠5∧v.k≠6):=by omega
   rcases hk with hk|hk|hk|hk|hk|hk|hk
   ·exact agb v d hv.z hP hk
   ·exact afN v d hv.z hP hk
   ·exact aeZ v d hv.z hP hk
   ·exact aer v d hv.z hP hk
   ·exact aeK v d hv.z hP hk
   ·exact afg v d hv.z hP hk hd fun e _ x hx=>by rw[hv.2]at hx;cases hx
   ·exact aeF v d hP hk
  ·exact ain v d hP
 |succ n ih=>
  intro d v hv hd;by_cases hP:vP v=0
  ·have hk:v.k=1∨v.k=2∨v.k=3∨v.k=4∨v.k=5∨v.k=6∨(v.k≠1∧v.k≠2∧v.k≠3∧v.k≠4∧v.k≠5∧v.k≠6):=by omega
   rcases hk with hk|hk|hk|hk|hk|hk|hk
   ·exact agb v d hv.z hP hk
   ·exact afN v d hv.z hP hk
   ·exact aeZ v d hv.z hP hk
   ·exact aer v d hv.z hP hk
   ·exact aeK v d hv.z hP hk
   ·exact afg v d hv.z hP hk hd fun e he x hx=>ih e x (hv.2 x hx) (by omega)
   ·exact aeF v d hP hk
  ·exact ain v d hP
end
section
theorem vZ0.num{v:Rat}{K:Nat}(h:RB v K)(hK:K≤100000):vZ0 (eF v) where
 q:=⟨ahI v,Nat.le_trans (lZ h.n) hK,Nat.le_trans (lZ (by rw[Int.natAbs_natCast];exact h.d)) hK⟩
 a:=by intro x hx;cases hx
 al:=Nat.zero_le _
 po:=by intro x hx;cases hx
 pol:=Nat.zero_le _
 p:=aY
 fa:=by intro x hx;cases hx
 fal:=Nat.zero_le _
 ri:=by intro x hx;cases hx
 ril:=Nat.zero_le _
 lil:=Nat.zero_le _
theorem vZ.num{v:Rat}{K:Nat}(h:RB v K)(hK:K≤100000):vZ 0 (eF v):=⟨vZ0.num h hK,rfl⟩
theorem ar6(v:Rat):vP (eF v)=0:=(vP0 _).2 ⟨.inl rfl,.inr ⟨rfl,rfl,rfl⟩,.inr rfl,.inr ⟨rfl,rfl,rfl⟩,.inr rfl,.inr (.inr rfl),.inr rfl⟩
theorem ahj(d:Nat)(v:Rat):vF d (eF v)=true:=by
 rw[vF_1 (ar6 v) rfl];exact(zU (ahI v)).2 (by rw[iM])
theorem ao9(p q:Int):rmk p q=((qv p q).num,((qv p q).den:Int)):=by
 have h2:Nat.Coprime (qv p q).num.natAbs (qv p q).den:=(qv p q).reduced;have hd:=(qv p q).den_nz;have:=Rd.uniq (nT p q) (zP p q) (r:=(qv p q).num) (s:=((qv p q).den:Int)) (by omega) (by unfold Int.gcd;rw[Int.natAbs_natCast];exact h2) (by rw[iE,kW])
 exact Prod.ext this.1 this.2
theorem ahS(x:Rat):qv (sgn (cq x).1 (nval WB (cq x).2.1)) (sgn (cq x).2.2.1 (nval WB (cq x).2.2.2))=x:=iM x
def qS(v:Rat):List UInt8:=rS (v.num,(v.den:Int))
def qB(v:Rat):Nat:=max (bitLen v.num.natAbs) (bitLen v.den)
attribute [local irreducible] IntKind.wrap Go1 Reg WP aQ aR bO bN aN aB aj ah aV Sat
attribute [local irreducible] bS bV bX dx bW qv redS mf PrP qOk zOk vP dL lz vF cq rqv
theorem agM{x0 x1 x2 x3:Atom}{p q:Int}{k m:Nat}[h:ZI [x0,x1] p k][h':ZI [x2,x3] q m](hk:k+m≤1000000):PureOK Tryz.prog 270 [.agg [x0,x1,x2,x3]] (.v (.int .i64 ((max (bitLen (rmk p q).1.natAbs) (bitLen (rmk p q).2.natAbs):Nat):Int))):=by
 refine q1 ⟨_,Tryz.func270,rfl,rfl⟩ fun neg n neg2 n2 hz hz2 hn hn2=>?_
 subst hz;subst hz2;refine PureOK.fnF Tryz.func270 Tryz.results270 Tryz.ntmps270 rfl rfl rfl (by simp[AV.ids,AV0.ids,Atom.ids]) rfl (fun w0 T B E0 hB=>?_)
 refine SX.go2 ?_;exact gV rfl
theorem acr{q:gy}(hk:q.2.1.length+q.2.2.2.length≤1000000):PureOK Tryz.prog 270 [.agg (q4A (rq q))] (.v (.int .i64 (qB (rqv q):Int))):=by
 have h:=agM (h:=ZI.raw q.1 q.2.1) (h':=ZI.raw q.2.2.1 q.2.2.2) hk;rw[ao9]at h
 dsimp only at h
 rw[Int.natAbs_natCast]at h;unfold rqv qB;exact h
theorem aad(v:Rat)(e:Int):PureOK Tryz.prog 271 [.agg (qA v),.v (.bool true),.v (.int .i64 e)] (.tup [.agg (vlA (eF v)),eNo 0]):=by
 refine PureOK.fnF Tryz.func271 Tryz.results271 Tryz.ntmps271 rfl rfl rfl (by simp[AV.ids,AV0.ids,Atom.ids]) rfl (fun w0 T B E0 hB=>?_)
 refine SX.goN ?_;refine .ok (aB.mk2 ((aj.fD rfl rfl rfl).imp ?_) (aj.tmp rfl));exact ait
theorem aln{x y:Rat}{K L:Nat}(hx:RB x K)(hy:RB y L)(hK:K+L≤1000000):PureOK Tryz.prog 256 [.agg (vlA (eF x)),.agg (vlA (eF y))] (.tup [.agg (vlA (eF (x+y))),eNo 0]):=by
 haveI:=Ra.cq hx
 haveI:=Ra.cq hy
 obtain⟨X,cA,hX⟩:=eAdd (q4A (rq (cq x))) (q4A (rq (cq y))) (K:=K) (K':=L) (by omega)
 have e:=hX.nf;subst e;have cN:=aad (x+y) 0;refine PureOK.fnF Tryz.func256 Tryz.results256 Tryz.ntmps256 rfl rfl rfl (by simp[AV.ids,AV0.ids,Atom.ids]) rfl (fun w0 T B E0 hB=>?_)
 refine SX.goN ?_;exact .ok (aB.mk2 (aj.fD rfl rfl rfl) (aj.tmp rfl))
theorem ag6{x y:Rat}{K L:Nat}(hx:RB x K)(hy:RB y L)(hK:K+L≤400000):PureOK Tryz.prog 28 [.agg (vlA (eF x)),.agg (vlA (eF y))] (.v (.bool (decide (x=y)))):=by
 haveI:=Ra.cq hx
 haveI:=Ra.cq hy
 obtain⟨z,cA,hz,_⟩:=eCmp (q4A (rq (cq x))) (q4A (rq (cq y))) (K:=K) (K':=L) (by omega)
 rw[←decide_eq_decide.2 hz];refine PureOK.fnF Tryz.func28 Tryz.results28 Tryz.ntmps28 rfl rfl rfl (by simp[AV.ids,AV0.ids,Atom.ids]) rfl (fun w0 T B E0 hB=>?_)
 refine SX.goN ?_;exact aG rfl
theorem ajS{x y:Rat}{K L:Nat}(hx:RB x K)(hy:RB y L)(hK:K+L≤100000):PureOK Tryz.prog 216 [.v (.int .i64 4),.agg (vlA (eF x)),.agg (vlA (eF y))] (.tup [.agg (vlA (eF (x+y))),eNo 0]):=by
 have c:=aln hx hy (by omega)
 have c1:=nH (vZ.num hx (by omega))
 have c2:=nH (vZ.num hy (by omega))
 rw[ahj]at c1 c2;refine PureOK.fnF Tryz.func216 Tryz.results216 Tryz.ntmps216 rfl rfl rfl (by simp[AV.ids,AV0.ids,Atom.ids]) rfl (fun w0 T B E0 hB=>?_)
 refine SX.goN ?_;exact .ok (aB.mk2 (aj.fD rfl rfl rfl) (aj.tmp rfl))
theorem zM{x:Rat}{K:Nat}(hx:RB x K)(hK:K≤100000):PureOK Tryz.prog 29 [.agg (q4A (rq (cq x)))] (.v (str (qS x))):=by
 have hl:=(vZ0.num hx hK).q.2
 dsimp only at hl
 have h:=(agz (h:=ZI.raw (cq x).1 (cq x).2.1) (h':=ZI.raw (cq x).2.2.1 (cq x).2.2.2)).h (by omega)
 rw[ao9]at h;rw[ahS]at h;exact h
theorem akg{x:Rat}{K:Nat}(hx:RB x K)(hK:K≤100000):PureOK Tryz.prog 45 [.agg (vlA (eF x))] (.v (str (qS x))):=by
 have c:=zM hx hK;refine PureOK.fnF Tryz.func45 Tryz.results45 Tryz.ntmps45 rfl rfl rfl (by simp[AV.ids,AV0.ids,Atom.ids]) rfl (fun w0 T B E0 hB=>?_)
 refine SX.goN ?_;exact iN rfl
theorem aaI{x:Rat}{K:Nat}(hx:RB x K)(hK:K≤100000):PureOK Tryz.prog 24 [.agg (vlA (eF x))] (.tup [.one (.c (.val (str (qS x)))),eNo 0]):=by
 have c:=akg hx hK;have c1:=nH (vZ.num hx hK);rw[ahj]at c1;refine PureOK.fnF Tryz.func24 Tryz.results24 Tryz.ntmps24 rfl rfl rfl (by simp[AV.ids,AV0.ids,Atom.ids]) rfl (fun w0 T B E0 hB=>?_)
 refine SX.goN ?_;exact .ok (aB.mk2 (aj.tmp rfl) (aj.tmp rfl))
theorem ak2{x:Rat}{K:Nat}(hx:RB x K)(hK:K≤100000):PureOK Tryz.prog 235 [.agg (vlA (eF x))] (.v (.int .i64 (qB x:Int))):=by
 have cO:=ajY 0 (by decide) (by decide)
 have cB:PureOK Tryz.prog 60 [.r (bB (0:Int).natAbs)] (.v (.int .i64 0)):=by
  haveI:BdN 0 1:=⟨by rw[aX];decide⟩
  exact(yj (a:= .sat (bB 0))).h (by decide)
 have c:=acr (q:=cq x) (by have:=(vZ0.num hx hK).q.2;dsimp only at this;omega)
 rw[iM]at c;refine PureOK.fnF Tryz.func235 Tryz.results235 Tryz.ntmps235 rfl rfl rfl (by simp[AV.ids,AV0.ids,Atom.ids]) rfl (fun w0 T B E0 hB=>?_)
 refine SX.goN ?_;exact gV rfl
end
section
theorem apC{vs:List Rat}{K:Nat}(h:∀v∈vs,RB v K)(hK:K≤100000):∀x∈vs.map cq,(Sm WB x.2.1∧Sm WB x.2.2.2)∧x.2.1.length≤100000∧x.2.2.2.length≤100000:=fun x hx=>by
 obtain⟨v,hv,rfl⟩:=List.mem_map.1 hx;exact(vZ0.num (h v hv) hK).q
theorem vZ0.mat{r c:Nat}{vs:List Rat}{K:Nat}(h:∀v∈vs,RB v K)(hK:K≤100000)(hl:vs.length≤100000):vZ0 (gP r c vs) where
 q:=⟨⟨Sm.nil,Sm.nil⟩,Nat.zero_le _,Nat.zero_le _⟩
 a:=apC h hK
 al:=by rw[List.length_map];exact hl
 po:=by intro x hx;cases hx
 pol:=Nat.zero_le _
 p:=aY
 fa:=by intro x hx;cases hx
 fal:=Nat.zero_le _
 ri:=by intro x hx;cases hx
 ril:=Nat.zero_le _
 lil:=Nat.zero_le _
theorem arZ(r c:Nat)(vs:List Rat):vP (gP r c vs)=0:=(vP0 _).2 ⟨.inr ⟨rfl,rfl,rfl,rfl⟩,.inl rfl,.inr rfl,.inr ⟨rfl,rfl,rfl⟩,.inr rfl,.inr (.inr rfl),.inr rfl⟩
theorem arE(v:Rat):qOk (cq v)=true:=(zU (ahI v)).2 (by rw[iM])
theorem aac{r c n:Nat}(hr:r≤64)(hc:c≤64)(hl:n=r*c):dL (r:Int) (c:Int) n=true:=decide_eq_true ⟨by omega,by omega,by omega,by omega,by rw[hl];simp⟩
theorem asA(d:Nat){r c:Nat}{vs:List Rat}(hl:vs.length=r*c)(hr:r≤64)(hc:c≤64):vF d (gP r c vs)=true:=by
 rw[vF_2 (arZ r c vs) rfl];unfold mOk;rw[Bool.and_eq_true];refine⟨List.all_eq_true.2 fun x hx=>?_,aac hr hc (by rw[List.length_map];exact hl)⟩
 obtain⟨v,_,rfl⟩:=List.mem_map.1 hx;exact arE v
theorem Ra.rawq{q:gy}(hs:Sm WB q.2.1∧Sm WB q.2.2.2){K:Nat}(h:q.2.1.length≤K∧q.2.2.2.length≤K):Ra (q4A (rq q)) (rqv q) K:=
 Ra.raw ⟨yE hs.1 (Nat.le_refl _)⟩ ⟨yE hs.2 (Nat.le_refl _)⟩ h.1 h.2
attribute [local irreducible] IntKind.wrap Go1 Reg WP aQ aR bO bN aN aB aj ah aV Sat
attribute [local irreducible] bS bV bX dx bW qv redS mf PrP qOk zOk vP dL lz vF cq rqv
end
end
section
open Go.ChangeShapes Go.WideShapes Go.ChangeAt Go.Joins
mutual
def rW:Vl→Prop
 |⟨k,q,r,c,a,po,p,fr,fc,fa,ri,li⟩=>(Sm WB q.2.1∧Sm WB q.2.2.2)∧RSm a∧(∀x∈po,Sm WB x.2)∧p < WB∧(∀x∈fa,x < WB)∧(∀x∈ri,x < WB)∧rWL li
def rWL:List Vl→Prop
 |[]=>True
 |v::l=>rW v∧rWL l
end
theorem aiW:∀l:List Vl,rWL l↔∀v∈l,rW v
 |[]=>by rw[rWL];simp
 |v::l=>by rw[rWL,aiW l];simp
theorem aaT(v:Vl):rW v↔(Sm WB v.q.2.1∧Sm WB v.q.2.2.2)∧RSm v.a∧(∀x∈v.po,Sm WB x.2)∧v.p < WB∧(∀x∈v.fa,x < WB)∧(∀x∈v.ri,x < WB)∧∀x∈v.li,rW x:=by
 cases v;rw[rW,aiW]
section
variable{H:Type}{enc:TypeId×Value→H}{W:World}{base:Nat}{sp:Nat→Bool}{hd:Bool}
theorem alv(n:Nat):d9 enc Tryz.prog W base sp hd n 33 wdC (fun w=>w < WB):=
 d9.imp (qc Tryz.underlying33) Int.toNat (fun z hz=>by have:=bounds_u64 hz;rw[aX];omega) (fun z cs hz h=>by
  have:=bounds_u64 hz;show aJ _ [CA.val (.int .u64 ((z.toNat:Nat):Int))] cs;rw[show ((z.toNat:Nat):Int)=z by omega];exact h)
theorem asB(n:Nat):d9 enc Tryz.prog W base sp hd n 22 (fun l:List Nat=>[.sat (ay 1 wdC l)]) (fun l=>∀x∈l,x < WB):=
 d9.all (fun n=>(kL Tryz.underlying22 (by kernel_rfl) (alv n)).conv id (fun _ h=>h.2) (fun _=>rfl)) n
theorem ap8(n:Nat):d9 enc Tryz.prog W base sp hd n 36 (fun l:List Nat=>[.sat (ay 1 wdC l)]) (fun l=>∀x∈l,x < WB):=
 d9.all (fun n=>(kL Tryz.underlying36 (by kernel_rfl) (alv n)).conv id (fun _ h=>h.2) (fun _=>rfl)) n
theorem decFM(n:Nat):d9 enc Tryz.prog W base sp hd n 35 (fun p:Int×Int×List Nat=>[.val (.int .i64 p.1),.val (.int .i64 p.2.1),.sat (ay 1 wdC p.2.2)]) (fun p=>∀x∈p.2.2,x < WB):=
 d9.all (fun n=>d9.conv (yS Tryz.underlying35 rfl (by kernel_rfl) (by kernel_rfl) (by kernel_rfl) (qc Tryz.underlying3) (qc Tryz.underlying3) (asB n)) id (fun p h=>h.2.2) (fun p=>rfl)) n
def vzC(p:lY):List CA:=z2C (rz p)
instance:dU vzC 2:=⟨fun _=>rfl⟩
theorem asa(l:List lY):ay 2 vzC l=ay 2 z2C (l.map rz):=by
 show aI 2 l.length (l.flatMap vzC)=aI 2 (l.map rz).length ((l.map rz).flatMap z2C);rw[List.length_map,List.flatMap_map];rfl
theorem aq7(n:Nat):d9 enc Tryz.prog W base sp hd n 32 (fun l:List lY=>[.sat (ay 2 z2C (l.map rz))]) (fun l=>∀x∈l,Sm WB x.2):=
 d9.all (fun n=>(kL (enc':=vzC) Tryz.underlying32 (by kernel_rfl) ((anu n).conv (e':=vzC) (ψ:=fun p=>Sm WB p.2) id (fun _ h=>h) (fun _=>rfl))).conv id (fun _ h=>h.2) (fun l=>by
  show [CA.sat (ay 2 z2C (l.map rz))]=[CA.sat (ay 2 vzC l)];rw[asa])) n
theorem ah8:∀n:Nat,d9 enc Tryz.prog W base sp hd n 39 vlC rW∧d9 enc Tryz.prog W base sp hd (n+1) 37 (fun l:List Vl=>[.sat (ay 15 vlC l)]) (fun l=>∀x∈l,rW x)
 |0=>⟨d9.zero,(kL Tryz.underlying37 (by kernel_rfl) (d9.zero (e:=vlC) (φ:=rW))).conv id (fun _ h=>h.2) (fun _=>rfl)⟩
 |n+1=>by
  obtain⟨h1,h2⟩:=ah8 n;have hs:d9 enc Tryz.prog W base sp hd n 37 (fun l:List Vl=>[.sat (ay 15 vlC l)]) (fun l=>∀x∈l,rW x):=by
   cases n with
   |zero=>exact d9.zero
   |succ m=>exact(ah8 m).2
  have hn:d9 enc Tryz.prog W base sp hd (n+1) 39 vlC rW:=
   (aeU Tryz.underlying39 rfl (by kernel_rfl) (by kernel_rfl) (by kernel_rfl) (by kernel_rfl) (by kernel_rfl) (by kernel_rfl) (by kernel_rfl) (by kernel_rfl)
    (qc Tryz.underlying3) (ai7 n) (ar8 n) (aq7 n) (alv n) (decFM n) (ap8 n) hs).conv (fun p=>(⟨p.1,p.2.1,p.2.2.1.1,p.2.2.1.2.1,p.2.2.1.2.2,p.2.2.2.1,p.2.2.2.2.1,p.2.2.2.2.2.1.1,p.2.2.2.2.2.1.2.1,p.2.2.2.2.2.1.2.2,p.2.2.2.2.2.2.1,p.2.2.2.2.2.2.2⟩:Vl))
    (fun p h=>(aaT _).2 ⟨h.2.1,h.2.2.1,h.2.2.2.1,h.2.2.2.2.1,h.2.2.2.2.2.1,h.2.2.2.2.2.2.1,h.2.2.2.2.2.2.2⟩) (fun p=>by rw[acX];rfl)
  exact⟨hn,(kL Tryz.underlying37 (by kernel_rfl) hn).conv id (fun _ h=>h.2) (fun _=>rfl)⟩
theorem decVal(n:Nat):d9 enc Tryz.prog W base sp hd n 39 vlE rW:=(ah8 n).1.conv id (fun _ h=>h) (fun v=>(acX v).symm)
end
def vW1(d:Nat)(v:Vl):Prop:=(v.po.length≤5∧∀x∈v.po,x.2.length≤2)∧v.ri.length≤5∧v.li.length≤4∧(v.li.length=0∨d≠0)∧v.p≤4294967296∧(v.q.2.1.length≤2∧v.q.2.2.2.length≤2)∧adS v.r v.c v.a 4 2∧(v.fr≤4∧v.fc≤4∧v.fa.length≤100)
def vW:Nat→Vl→Prop
 |0,v=>vW1 0 v∧v.li=[]
 |d+1,v=>vW1 (d+1) v∧∀x∈v.li,vW d x
theorem vW.one{d:Nat}{v:Vl}(h:vW d v):vW1 d v:=by cases d <;> exact h.1
theorem vZ.few:∀{d:Nat} {v:Vl},vW d v→rW v→vZ d v:=by
 have key:∀(d:Nat) (v:Vl),vW1 d v→rW v→vZ0 v:=fun d v h hr=>by
  obtain⟨h1,h2,h3,h4,h5,h6,h7,h8⟩:=h;obtain⟨r1,r2,r3,r4,r5,r6,r7⟩:=(aaT v).1 hr;exact⟨⟨r1,by omega,by omega⟩,fun x hx=>⟨r2 x hx,by have:=adS.len (w:=2) h7 x hx;omega⟩,by have:=h7.2.2.2;omega,fun x hx=>⟨r3 x hx,by have:=h1.2 x hx;omega⟩,by omega,r4,r5,by omega,r6,by omega,by omega⟩
 intro d
 induction d with
 |zero=>intro v h hr;exact⟨key 0 v h.1 hr,h.2⟩
 |succ d ih=>intro v h hr;exact⟨key _ v h.1 hr,fun x hx=>ih (h.2 x hx) (((aaT v).1 hr).2.2.2.2.2.2 x hx)⟩
end
end Go.Proofs.YtmgfiodmdfaclaaGreatDoor