import Derived.Test.YtmgfiodmdfaclaaGreatDoorA16
import Derived.Test.YtmgfiodmdfaclaaGreatDoorA9
set_option linter.unusedVariables false
set_option linter.unusedSimpArgs false
namespace Go.Proofs.YtmgfiodmdfaclaaGreatDoor
open Go.RowKit QM SX LA
section
attribute [local irreducible] IntKind.wrap Go1 Reg WP aQ aR bO bN aN aB aj ah aV Sat
attribute [local irreducible] bS bV bX dx bW qv redS mf PrP qOk zOk vP dL lz vF cq rqv
theorem acE(l:List lY)(goal:Bool)(hl:l.length≤5)(hg:goal=true↔∀x∈l,x.2.length≤2):
  PureOK Tryz.prog 14 [.r (ay 2 z2C (l.map rz)),.v (.int .i64 5),.v (.int .i64 2)] (.v (.bool goal)):=by
 have hlen:(l.map rz).length=l.length:=List.length_map _;refine PureOK.fnF Tryz.func14 Tryz.results14 Tryz.ntmps14 rfl rfl rfl (by simp[AV.ids,AV0.ids,Atom.ids]) rfl (fun w0 T B E0 hB=>?_)
 refine SX.goN ?_;refine W.loop (fun k=>k≤l.length∧∀(j:Nat) x,j < k→l[j]? =some x→x.2.length≤2) (fun k=>[(0,.r (ay 2 z2C (l.map rz))),(1,.v (.int .i64 5)),(2,.v (.int .i64 2)),(7,.v (.int .i64 (k:Int)))]) (fun _=>[]) (fun k=>l.length - k) 0 ⟨Nat.zero_le _,fun j x h=>absurd h (Nat.not_lt_zero _)⟩ (fun k ⟨hk,he⟩=>?_)
 by_cases h:k < l.length
 ·have h':k < (l.map rz).length:=by omega
  obtain⟨x,hx⟩:∃x,l[k]? =some x:=⟨_,List.getElem?_eq_getElem h⟩
  have hq:(l.map rz)[k]? =some (rz x):=by rw[List.getElem?_map,hx];rfl
  by_cases h3:x.2.length≤2
  ·refine SX.goN ?_;refine W.next (k+1) ⟨h,fun j b hj hb=>?_⟩ (by omega)
   by_cases hjk:j < k
   ·exact he j b hjk hb
   ·obtain rfl:j=k:=by omega
    rw[hx]at hb;rw[←Option.some.inj hb];exact h3
  ·refine SX.goN ?_;refine aG ?_;exact(Bool.eq_false_iff.2 fun ht=>h3 (hg.1 ht x (List.mem_of_getElem? hx))).symm
 ·obtain rfl:k=l.length:=by omega
  have h':¬l.length < (l.map rz).length:=by omega
  have ht:goal=true:=hg.2 fun x hx=>by
   obtain⟨i,hi⟩:=List.mem_iff_getElem?.1 hx;exact he i x (jZ hi) hi
  subst ht;refine SX.goN ?_;refine aG ?_;exact decide_eq_true (by omega)
theorem ak6(r c:Int)(l:List Nat):PureOK Tryz.prog 17 [.agg [.c (.val (.int .i64 r)),.c (.val (.int .i64 c)),.c (.sat (ay 1 wdC l))],.v (.int .i64 4)] (.v (.bool (decide (r≤4∧c≤4∧l.length≤100)))):=by
 refine PureOK.fnF Tryz.func17 Tryz.results17 Tryz.ntmps17 rfl rfl rfl (by simp[AV.ids,AV0.ids,Atom.ids]) rfl (fun w0 T B E0 hB=>?_)
 by_cases h1:r≤4
 ·by_cases h2:c≤4
  ·refine SX.goN ?_;refine aG ?_;rw[decide_eq_decide];omega
  ·refine SX.goN ?_;refine aG ?_;exact(decide_eq_false fun h=>h2 h.2.1).symm
 ·refine SX.goN ?_;refine aG ?_;exact(decide_eq_false fun h=>h1 h.1).symm
theorem aj8(q:gy):PureOK Tryz.prog 15 [.agg (q4A (rq q)),.v (.int .i64 2)] (.v (.bool (decide (q.2.1.length≤2∧q.2.2.2.length≤2)))):=by
 have h:=(ahP q.1 q.2.1 q.2.2.1 q.2.2.2 2).h trivial;rw[show decide ((q.2.1.length:Int)≤2∧(q.2.2.2.length:Int)≤2)=decide (q.2.1.length≤2∧q.2.2.2.length≤2)from decide_eq_decide.2 (by omega)]at h
 exact h
set_option maxRecDepth 20000 in
set_option maxHeartbeats 2000000 in
theorem vT(v:Vl)(d:Nat)(hd:d≤20)(goal:Bool)(b:Vl→Prop)(hr:∀e,d=e+1→∀x∈v.li,(b x→PureOK Tryz.prog 5 [.agg (vlA x),.v (.int .i64 (e:Int))] (.v (.bool true)))∧(¬b x→PureOK Tryz.prog 5 [.agg (vlA x),.v (.int .i64 (e:Int))] (.v (.bool false))))
  (hg:goal=true↔vW1 d v∧∀x∈v.li,b x):PureOK Tryz.prog 5 [.agg (vlA v),.v (.int .i64 (d:Int))] (.v (.bool goal)):=by
 have l2:(v.po.map rz).length=v.po.length:=List.length_map _;have cq:=aj8 v.q;have cm:=anj v.r v.c v.a 4 2;have cf:=ak6 v.fr v.fc v.fa;have no:∀{p:Prop},¬p→(vW1 d v∧(∀x∈v.li,b x)→p)→false=goal:=fun hn hp=>(Bool.eq_false_iff.2 fun ht=>hn (hp (hg.1 ht))).symm
 rw[ab2];refine PureOK.fnF Tryz.func5 Tryz.results5 Tryz.ntmps5 rfl rfl rfl (by simp[AV.ids,AV0.ids,Atom.ids]) rfl (fun w0 T B E0 hB=>?_)
 by_cases h1:v.po.length≤5
 rotate_left
 ·refine SX.goN ?_;refine aG (no h1 fun h=>?_);exact h.1.1.1
 by_cases h2:∀x∈v.po,x.2.length≤2
 rotate_left
 ·have c1:=acE v.po false h1 ⟨fun h=>(by cases h),fun h=>absurd h h2⟩
  refine SX.goN ?_;refine aG (no h2 fun h=>?_);exact h.1.1.2
 have c1:=acE v.po true h1 ⟨fun _=>h2,fun _=>rfl⟩
 by_cases h3:v.ri.length≤5
 rotate_left
 ·refine SX.goN ?_;refine aG (no h3 fun h=>?_);exact h.1.2.1
 by_cases h4:v.li.length≤4
 rotate_left
 ·refine SX.goN ?_;refine aG (no h4 fun h=>?_);exact h.1.2.2.1
 by_cases h5:v.li.length=0∨d≠0
 rotate_left
 ·have h6:v.li.length > 0:=by omega
  have h7:d=0:=by omega
  refine SX.goN ?_;refine aG (no h5 fun h=>?_);exact h.1.2.2.2.1
 by_cases h8:v.p≤4294967296
 rotate_left
 ·by_cases h6:v.li.length > 0
  ·have h7:d≠0:=by omega
   refine SX.goN ?_;refine aG (no h8 fun h=>?_);exact h.1.2.2.2.2.1
  ·refine SX.goN ?_;refine aG (no h8 fun h=>?_);exact h.1.2.2.2.2.1
 refine W.meet [(1,.v (.int .i64 (d:Int))),(2,.ptr 2 0)] [(2,.box 39 (vlB v))] ?_ ?_
 ·refine SX.goN ?_;exact W.le
 refine W.meet [(1,.v (.int .i64 (d:Int))),(2,.ptr 2 0)] [(2,.box 39 (vlB v))] ?_ ?_
 ·by_cases h6:v.li.length > 0
  ·have h7:d≠0:=by omega
   refine SX.goN ?_;exact W.le
  ·refine SX.goN ?_;exact W.le
 refine SX.goN ?_;refine W.loop (fun k=>k≤v.li.length∧∀(j:Nat) x,j < k→v.li[j]? =some x→b x) (fun k=>[(1,.v (.int .i64 (d:Int))),(2,.ptr 2 0),(5,.v (.int .i64 (k:Int)))]) (fun k=>[(2,.box 39 (vlB v))]) (fun k=>v.li.length - k) 0 ⟨Nat.zero_le _,fun j x h=>absurd h (Nat.not_lt_zero _)⟩ (fun k ⟨hk,he⟩=>?_)
 by_cases h:k < v.li.length
 ·obtain⟨e,rfl⟩:∃e,d=e+1:=⟨d - 1,by omega⟩
  obtain⟨x,hx⟩:∃x,v.li[k]? =some x:=⟨_,List.getElem?_eq_getElem h⟩
  have hr2:=hr e rfl x (List.mem_of_getElem? hx);rw[show (e:Int)=((e+1 - 1:Nat):Int)by omega]at hr2
  by_cases hb:b x
  ·have cE:=hr2.1 hb;refine SX.goN ?_;refine W.next (k+1) ⟨h,fun j y hj hy=>?_⟩ (by omega)
   by_cases hjk:j < k
   ·exact he j y hjk hy
   ·obtain rfl:j=k:=by omega
    rw[hx]at hy;rw[←Option.some.inj hy];exact hb
  ·have cE:=hr2.2 hb;refine SX.goN ?_;refine aG (no hb fun h=>?_);exact h.2 x (List.mem_of_getElem? hx)
 ·obtain rfl:k=v.li.length:=by omega
  have hall:∀x∈v.li,b x:=fun x hx=>by
   obtain⟨i,hi⟩:=List.mem_iff_getElem?.1 hx;exact he i x (jZ hi) hi
  by_cases g1:v.q.2.1.length≤2∧v.q.2.2.2.length≤2
  ·rw[decide_eq_true g1]at cq;by_cases g2:adS v.r v.c v.a 4 2
   ·have cm:=cm.1 g2;by_cases g3:v.fr≤4∧v.fc≤4∧v.fa.length≤100
    ·rw[decide_eq_true g3]at cf;have ht:goal=true:=hg.2 ⟨⟨⟨h1,h2⟩,h3,h4,h5,h8,g1,g2,g3⟩,hall⟩;subst ht;refine SX.goN ?_;exact aG rfl
    ·rw[decide_eq_false g3]at cf;refine SX.goN ?_;refine aG (no g3 fun h=>?_);exact h.1.2.2.2.2.2.2.2
   ·have cm:=cm.2 g2;refine SX.goN ?_;refine aG (no g2 fun h=>?_);exact h.1.2.2.2.2.2.2.1
  ·rw[decide_eq_false g1]at cq;refine SX.goN ?_;refine aG (no g1 fun h=>?_);exact h.1.2.2.2.2.2.1
theorem ajy:∀(d:Nat) (v:Vl),d≤20→(vW d v→PureOK Tryz.prog 5 [.agg (vlA v),.v (.int .i64 (d:Int))] (.v (.bool true)))∧(¬vW d v→PureOK Tryz.prog 5 [.agg (vlA v),.v (.int .i64 (d:Int))] (.v (.bool false))):=by
 intro d
 induction d with
 |zero=>
  intro v hd;have e:vW 0 v↔vW1 0 v∧∀x∈v.li,False:=by
   constructor
   ·intro h;exact⟨h.1,fun x hx=>by rw[h.2]at hx;cases hx⟩
   ·intro h;refine⟨h.1,?_⟩;cases hl:v.li with
    |nil=>rfl
    |cons x l=>exact(h.2 x (by rw[hl];exact List.mem_cons_self ..)).elim
  exact⟨fun h=>vT v 0 hd true (fun _=>False) (fun e he=>by omega) ⟨fun _=>e.1 h,fun _=>rfl⟩,fun h=>vT v 0 hd false (fun _=>False) (fun e he=>by omega) ⟨fun h2=>(by cases h2),fun h2=>absurd (e.2 h2) h⟩⟩
 |succ d ih=>
  intro v hd;have hr:∀e,d+1=e+1→∀x∈v.li,(vW d x→PureOK Tryz.prog 5 [.agg (vlA x),.v (.int .i64 (e:Int))] (.v (.bool true)))∧(¬vW d x→PureOK Tryz.prog 5 [.agg (vlA x),.v (.int .i64 (e:Int))] (.v (.bool false))):=fun e he x _=>by
   obtain rfl:d=e:=by omega
   exact ih x (by omega)
  exact⟨fun h=>vT v (d+1) hd true (vW d) hr ⟨fun _=>h,fun _=>rfl⟩,fun h=>vT v (d+1) hd false (vW d) hr ⟨fun h2=>(by cases h2),fun h2=>absurd h2 h⟩⟩
end
section
section
instance zeroZ:agr [.bool false,.slice none 0 0] (z2C (z2v 0)):=⟨fun S w=>⟨rfl,bB.zero,trivial⟩⟩
def pl(zs:List Int):Nat→Nat
 |0=>0
 |k+1=>if zs.getD k 0=0 then pl zs k else k+1
def fC(zs:List Int):Nat:=pl zs zs.length
def dn(zs:List Int):List Int:=zs.take (fC zs)
def pN(zs:List Int):Prop:=zs.length=0∨zs.getD (zs.length - 1) 0≠0
theorem arq(zs:List Int):∀k,pl zs k≤k
 |0=>Nat.le_refl _
 |k+1=>by unfold pl;split;exact Nat.le_succ_of_le (arq zs k);exact Nat.le_refl _
theorem anR(zs:List Int):∀k,pl zs k=0∨zs.getD (pl zs k - 1) 0≠0
 |0=> .inl rfl
 |k+1=>by
  unfold pl;split
  ·exact anR zs k
  ·next h=>exact .inr h
theorem aiO(zs:List Int):∀(k j:Nat),pl zs k≤j→j < k→zs.getD j 0=0
 |0,j,_,h=>absurd h (Nat.not_lt_zero _)
 |k+1,j,h1,h2=>by
  unfold pl at h1
  split at h1
  ·next h=>
   by_cases hj:j=k
   ·subst hj;exact h
   ·exact aiO zs k j h1 (by omega)
  ·omega
theorem aji(zs:List Int):fC zs≤zs.length:=arq zs _
theorem xX(zs:List Int):(dn zs).length=fC zs:=by unfold dn;rw[List.length_take];exact Nat.min_eq_left (aji zs)
theorem oZ{zs:List Int}{j:Nat}(h:zs.length≤j):zs.getD j 0=0:=by rw[List.getD_eq_getElem?_getD,List.getElem?_eq_none h];rfl
theorem abv(zs:List Int)(j:Nat):(dn zs).getD j 0=zs.getD j 0:=by
 by_cases h:j < fC zs
 ·unfold dn;rw[List.getD_eq_getElem?_getD,List.getElem?_take,if_pos h,←List.getD_eq_getElem?_getD]
 ·rw[oZ (by rw[xX];omega)]
  by_cases h2:j < zs.length
  ·exact(aiO zs _ j (by unfold fC at h;omega) h2).symm
  ·exact(oZ (by omega)).symm
theorem aeI(zs:List Int):pN (dn zs):=by
 rcases anR zs zs.length with h|h
 ·exact .inl (by rw[xX];exact h)
 ·exact .inr (by rw[xX,abv];exact h)
theorem ahC{a b:List Int}(ha:pN a)(hb:pN b)(h:∀j,a.getD j 0=b.getD j 0):a=b:=by
 have key:∀{a b:List Int},pN a→(∀j,a.getD j 0=b.getD j 0)→a.length≤b.length:=fun {a b} ha h=>by
  rcases ha with h0|h0
  ·omega
  ·rcases Nat.lt_or_ge b.length a.length with h1|h1
   ·rw[h,oZ (by omega)]at h0;exact absurd rfl h0
   ·exact h1
 have hl:a.length=b.length:=Nat.le_antisymm (key ha h) (key hb fun j=>(h j).symm)
 apply List.ext_getElem?;intro j
 by_cases hj:j < a.length
 ·have:=h j;rw[List.getD_eq_getElem?_getD,List.getD_eq_getElem?_getD,List.getElem?_eq_getElem hj,List.getElem?_eq_getElem (by omega)]at this
  rw[List.getElem?_eq_getElem hj,List.getElem?_eq_getElem (by omega)]
  exact congrArg some this
 ·rw[List.getElem?_eq_none (by omega),List.getElem?_eq_none (by omega)]
theorem ahu{zs:List Int}(h:pN zs):dn zs=zs:=ahC (aeI zs) h (abv zs)
def agK(n:Nat)(f:Nat→Int):List Int:=(List.range n).map f
theorem aeS(n:Nat)(f:Nat→Int):(agK n f).length=n:=by unfold agK;rw[List.length_map,List.length_range]
theorem apk{n:Nat}{f:Nat→Int}{j:Nat}(h:j < n):(agK n f).getD j 0=f j:=by
 unfold agK;rw[List.getD_eq_getElem?_getD,List.getElem?_map,List.getElem?_range h];rfl
def dI(op:Int→Int→Int)(a b:List Int):List Int:=dn (agK (max a.length b.length) fun i=>op (a.getD i 0) (b.getD i 0))
theorem anM{op:Int→Int→Int}(h0:op 0 0=0)(a b:List Int)(j:Nat):(dI op a b).getD j 0=op (a.getD j 0) (b.getD j 0):=by
 unfold dI;rw[abv];by_cases h:j < max a.length b.length
 ·exact apk h
 ·rw[oZ (by rw[aeS];omega),oZ (zs:=a) (by omega),oZ (zs:=b) (by omega),h0]
def ajW(l:List Z2)(i:Nat):Z2:=l.getD i (z2v 0)
theorem ZQ.zero(K:Nat):ZQ (z2v 0) 0 K:=ZQ.made (z:=0) (by rw[show (0:Int).natAbs=0 from rfl];exact iU K)
theorem MZ.pat{l:List Z2}{zs:List Int}{K:Nat}(h:MZ l zs K)(i:Nat):ZQ (ajW l i) (zs.getD i 0) K:=by
 unfold ajW;rw[List.getD_eq_getElem?_getD,List.getD_eq_getElem?_getD]
 have hl:=h.len;by_cases hi:i < l.length
 ·rw[List.getElem?_eq_getElem hi,List.getElem?_eq_getElem (by omega)]
  exact h.z i _ _ (List.getElem?_eq_getElem hi) (List.getElem?_eq_getElem (by omega))
 ·rw[List.getElem?_eq_none (by omega),List.getElem?_eq_none (by omega)]
  exact ZQ.zero K
theorem apT{f:Nat→Z2}{z:Z2}{n k:Nat}(hk:k < n):((List.range n).map fun i=>if i < k then f i else z).set k (f k)=(List.range n).map fun i=>if i < k+1 then f i else z:=by
 apply List.ext_getElem?
 intro j;rw[List.getElem?_set]
 by_cases hj:k=j
 ·subst hj;rw[if_pos rfl,if_pos (by rw[List.length_map,List.length_range];exact hk),List.getElem?_map,List.getElem?_range hk]
  simp
 ·rw[if_neg hj,List.getElem?_map,List.getElem?_map]
  by_cases hjn:j < n
  ·rw[List.getElem?_range hjn]
   simp only[Option.map_some];by_cases h1:j < k
   ·rw[if_pos h1,if_pos (by omega)]
   ·rw[if_neg h1,if_neg (by omega)]
  ·rw[List.getElem?_eq_none (by rw[List.length_range];omega)];rfl
theorem aqm{f:Nat→Z2}{z:Z2}{n:Nat}:((List.range n).map fun i=>if i < n then f i else z)=(List.range n).map f:=by
 refine List.map_congr_left fun i hi=>?_
 rw[if_pos (List.mem_range.1 hi)]
theorem aou{f:Nat→Z2}{z:Z2}{n:Nat}:(List.replicate n (z2C z)).flatten=((List.range n).map fun i=>if i < 0 then f i else z).flatMap z2C:=by
 have:((List.range n).map fun i=>if i < 0 then f i else z)=List.replicate n z:=by
  apply List.ext_getElem?;intro j
  rw[List.getElem?_map,List.getElem?_replicate]
  by_cases hj:j < n
  ·rw[List.getElem?_range hj,if_pos hj];simp
  ·rw[List.getElem?_eq_none (by rw[List.length_range];omega),if_neg hj];rfl
 rw[this,List.flatMap,List.map_replicate]
attribute [local irreducible] IntKind.wrap Go1 Reg WP aQ aR bO bN aN aB aj ah aV Sat
attribute [local irreducible] bS bV bX dx bW qv redS mf PrP qOk zOk vP dL lz vF cq rqv fC
theorem aiK(l:List Z2)(i:Nat)(hl:l.length≤1000000):PureOK Tryz.prog 185 [.r (ay 2 z2C l),.v (.int .i64 (i:Int))] (.agg (z2A (ajW l i))):=by
 unfold ajW;rw[List.getD_eq_getElem?_getD]
 refine PureOK.fnF Tryz.func185 Tryz.results185 Tryz.ntmps185 rfl rfl rfl (by simp[AV.ids,AV0.ids,Atom.ids]) rfl (fun w0 T B E0 hB=>?_)
 by_cases h:i < l.length
 ·obtain⟨q,hq⟩:∃q,l[i]? =some q:=⟨_,List.getElem?_eq_getElem h⟩
  rw[hq];refine SX.goM ?_;exact nC (aj.gD rfl rfl rfl) rfl
 ·rw[List.getElem?_eq_none (by omega)]
  refine SX.goM ?_;refine uj (aj.gD rfl rfl rfl) ?_;exact vS
theorem abV{l:List Z2}{zs:List Int}{K:Nat}(hM:MZ l zs K)(hK:K≤1000000)(hl:l.length≤100000):PureOK Tryz.prog 186 [.r (ay 2 z2C l)] (.r (ay 2 z2C ((dn zs).map z2v))):=by
 have hlen:=hM.len;have hle:=aji zs;refine PureOK.fnF Tryz.func186 Tryz.results186 Tryz.ntmps186 rfl rfl rfl (by simp[AV.ids,AV0.ids,Atom.ids]) rfl (fun w0 T B E0 hB=>?_)
 refine SX.goM ?_;refine W.loop (fun k=>k≤l.length∧pl zs k=fC zs) (fun k=>[(0,.r (ay 2 z2C l)),(3,.v (.int .i64 (k:Int)))]) (fun _=>[]) (fun k=>k) l.length ⟨Nat.le_refl _,by rw[hlen];unfold fC;rfl⟩ (fun k ⟨hk,he⟩=>?_)
 by_cases h0:0 < k
 ·obtain⟨m,rfl⟩:∃m,k=m+1:=⟨k - 1,by omega⟩
  obtain⟨q,hq⟩:∃q,l[m+1 - 1]? =some q:=⟨_,List.getElem?_eq_getElem (by omega)⟩
  have hq':l[m]? =some q:=hq;obtain⟨z,hz⟩:∃z,zs[m]? =some z:=⟨_,List.getElem?_eq_getElem (by omega)⟩
  have hg:zs.getD m 0=z:=by rw[List.getD_eq_getElem?_getD,hz];rfl
  have zq:=hM.z m q z hq' hz;have cS:=(mI (h:=zq.zi)).h (by omega)
  have hs0:aU z=0↔z=0:=by unfold aU;(repeat' split) <;> omega
  unfold pl at he;rw[hg]at he;by_cases hz0:z=0
  ·rw[if_pos hz0]at he;have h1:=hs0.2 hz0;refine SX.goM ?_;exact W.next m ⟨by omega,he⟩ (by omega)
  ·rw[if_neg hz0]at he;have h1:¬aU z=0:=fun e=>hz0 (hs0.1 e)
   rw[←he]at hle;have e3:(l.take (m+1)).length=m+1:=by rw[List.length_take];omega
   refine SX.goM ?_;refine W.loop (fun j=>j≤m+1) (fun j=>[(4,.own 100),(24,.r (ay 2 z2C (l.take (m+1)))),(25,.v (.int .i64 ((m+1:Nat):Int))),(26,.v (.int .i64 (j:Int)))]) (fun j=>[(100,.row 25 2 j (((zs.take j).map z2v).flatMap z2C))]) (fun j=>m+1 - j) 0 (Nat.zero_le _) (fun j hj=>?_)
    (by
     refine SX.St.aW [(100,none)] (by intro b h;cases h) ?_ ?_ rfl
     ·repeat(first|exact trivial|refine⟨⟨_,rfl,SX.aC.same rfl⟩,?_⟩|refine⟨⟨_,rfl,SX.aC.nil rfl⟩,?_⟩|refine⟨⟨_,rfl,SX.aC.int (by rw[e3])⟩,?_⟩)
     ·exact⟨SX.ak.bU rfl,trivial⟩)
   by_cases h2:j < m+1
   ·obtain⟨q2,hq2⟩:∃q2,l[j]? =some q2:=⟨_,List.getElem?_eq_getElem (by omega)⟩
    have hq3:(l.take (m+1))[j]? =some q2:=by rw[List.getElem?_take,if_pos h2];exact hq2
    have h3:j < (l.take (m+1)).length:=by omega
    obtain⟨z2,hz2⟩:∃z2,zs[j]? =some z2:=⟨_,List.getElem?_eq_getElem (by omega)⟩
    have cF:=agQ (hM.z j q2 z2 hq2 hz2) hK;have e2:((zs.take j).map z2v).flatMap z2C++z2C (z2v z2)=((zs.take (j+1)).map z2v).flatMap z2C:=by rw[List.take_add_one,hz2];simp
    refine SX.goM ?_;refine W.next (j+1) h2 (by omega) (by
     refine SX.St.aW [(100,some 37)] (by intro b h;cases h) ?_ ?_ rfl
     ·repeat(first|exact trivial|refine⟨⟨_,rfl,SX.aC.same rfl⟩,?_⟩|refine⟨⟨_,rfl,SX.aC.own rfl⟩,?_⟩)
     ·exact⟨SX.ak.row rfl rfl rfl e2,trivial⟩)
   ·obtain rfl:j=m+1:=by omega
    refine SX.goM ?_;refine aN.frz 100 ?_;refine alW ?_;unfold dn;rw[←he];show AV0.one (.c (.sat (aI 2 (m+1) _)))= .one (.c (.sat (aI 2 ((zs.take (m+1)).map z2v).length _)));rw[List.length_map,List.length_take,Nat.min_eq_left (by omega)]
 ·obtain rfl:k=0:=by omega
  have he':fC zs=0:=he.symm;refine SX.goM ?_;refine W.loop (fun j:Nat=>j=0) (fun j=>[(4,.v (.slice none 0 0)),(25,.v (.int .i64 0)),(26,.v (.int .i64 (j:Int)))]) (fun _=>[]) (fun j=>j) 0 rfl (fun j hj=>?_)
  subst hj;refine SX.goM ?_;refine abT ?_;unfold dn;rw[he'];exact fun E S w v h=>(aD.nil (α:=Z2) (enc:=z2C) (size:=2)) E S w v h
end
section
theorem asC{n K:Nat}{f:Nat→Int}(h:∀i,i < n→(f i).natAbs < WB ^ K):MZ ((List.range n).map fun i=>z2v (f i)) (agK n f) K:=by
 refine⟨by rw[List.length_map,List.length_range,aeS],fun i q z hq hz=>?_⟩
 have hi:i < n:=by have:=jZ hq;rwa [List.length_map,List.length_range]at this
 rw[List.getElem?_map,List.getElem?_range hi]at hq
 unfold agK at hz;rw[List.getElem?_map,List.getElem?_range hi]at hz
 cases hq;cases hz;exact ZQ.made (h i hi)
theorem apH{n:Nat}{l:List Z2}(h:l.length=n):ay 2 z2C l=aI 2 n (l.flatMap z2C):=by subst h;rfl
attribute [local irreducible] IntKind.wrap Go1 Reg WP aQ aR bO bN aN aB aj ah aV Sat
attribute [local irreducible] bS bV bX dx bW qv redS mf PrP qOk zOk vP dL lz vF cq rqv fC dn
theorem aoN{l l':List Z2}{zs zs':List Int}{K K' L:Nat}(op:Int→Int→Int)(x:CA)(hx1:x.dO=true)(hM:MZ l zs K)(hM':MZ l' zs' K')(hl:l.length≤10000)(hl':l'.length≤10000)
  (hx:∀i,FnV Tryz.prog x [.agg (z2A (ajW l i)),.agg (z2A (ajW l' i))] (.agg (zN (op (zs.getD i 0) (zs'.getD i 0))))) (hb:∀i,(op (zs.getD i 0) (zs'.getD i 0)).natAbs < WB ^ L) (hL:L≤1000000):
  PureOK Tryz.prog 144 [.r (ay 2 z2C l),.r (ay 2 z2C l'),.it (.one (.c x))] (.r (ay 2 z2C ((dI op zs zs').map z2v))):=by
 have cN:PureOK Tryz.prog 186 [.r (aI 2 (max l.length l'.length) (((List.range (max l.length l'.length)).map fun i=>z2v (op (zs.getD i 0) (zs'.getD i 0))).flatMap z2C))] (.r (ay 2 z2C ((dI op zs zs').map z2v))):=by
  have h:=abV (asC (n:=max l.length l'.length) (f:=fun i=>op (zs.getD i 0) (zs'.getD i 0)) fun i _=>hb i) hL (by rw[List.length_map,List.length_range];omega)
  rw[apH (n:=max l.length l'.length) (by rw[List.length_map,List.length_range])]at h
  unfold dI;rw[←hM.len,←hM'.len];exact h
 have hm:max l.length l'.length≤10000:=by omega
 refine PureOK.fnF Tryz.func144 Tryz.results144 Tryz.ntmps144 rfl rfl rfl (by simp[AV.ids,AV0.ids,Atom.ids]) rfl (fun w0 T B E0 hB=>?_)
 refine SX.goM ?_;refine W.loop (fun k=>k≤max l.length l'.length) (fun k=>[(0,.r (ay 2 z2C l)),(1,.r (ay 2 z2C l')),(2,.it (.one (.c x))),(7,.own 100),(16,.v (.int .i64 ((max l.length l'.length:Nat):Int))),(17,.v (.int .i64 (k:Int)))]) (fun k=>[(100,.row 25 2 (max l.length l'.length) (((List.range (max l.length l'.length)).map fun i=>if i < k then z2v (op (zs.getD i 0) (zs'.getD i 0))else z2v 0).flatMap z2C))]) (fun k=>max l.length l'.length - k) 0 (Nat.zero_le _) (fun k hk=>?_)
  (by
   refine SX.St.aW [(100,some 14)] (by intro b h;cases h) ?_ ?_ rfl
   ·repeat(first|exact trivial|refine⟨⟨_,rfl,SX.aC.same rfl⟩,?_⟩|refine⟨⟨_,rfl,SX.aC.own rfl⟩,?_⟩)
   ·exact⟨SX.ak.row rfl rfl rfl (aou (f:=fun i=>z2v (op (zs.getD i 0) (zs'.getD i 0)))),trivial⟩)
 by_cases h:k < max l.length l'.length
 ·have c1:=aiK l k (by omega)
  have c2:=aiK l' k (by omega)
  have c3:=hx k;have e2:((List.range (max l.length l'.length)).map fun i=>if i < k then z2v (op (zs.getD i 0) (zs'.getD i 0))else z2v 0).length=max l.length l'.length:=by rw[List.length_map,List.length_range]
  have e3:=apT (f:=fun i=>z2v (op (zs.getD i 0) (zs'.getD i 0))) (z:=z2v 0) h
  refine SX.goM ?_;refine SX.G.ng (a:=z2v (op (zs.getD k 0) (zs'.getD k 0))) ?_;rw[e3];refine SX.goM ?_;exact W.next (k+1) h (by omega)
 ·obtain rfl:k=max l.length l'.length:=by omega
  rw[aqm];refine SX.WP.freeze 100 hB rfl ?_;refine SX.goM ?_;exact alW rfl
theorem zo{P:Program}{f g:FuncId}{a b r:AV}(h:PureOK P f [a,b,.it (.one (.c (.sat (dM g [] []))))] r):PureOK P f [a,b,.it (.one (.clo g []))] r:=
 weakArgs h fun E S w vs hv=>by
  match vs,hv with
  |[u1,u2,u3],⟨h1,h2,h3,_⟩=>exact⟨h1,h2,amL h3,trivial⟩
abbrev adH:=dI (· - ·)
theorem amy{l l':List Z2}{zs zs':List Int}{K K':Nat}(hM:MZ l zs K)(hM':MZ l' zs' K')(hl:l.length≤10000)(hl':l'.length≤10000)(hK:K+K'≤100000):
  PureOK Tryz.prog 97 [.r (ay 2 z2C l),.r (ay 2 z2C l')] (.r (ay 2 z2C ((adH zs zs').map z2v))):=by
 have c:=zo (aoN (· - ·) (.sat (dM 145 [] [])) rfl hM hM' hl hl' (fun i=>FnV.const ((al2 (h:=(hM.pat i).zi) (h':=(hM'.pat i).zi)).h (by omega))) (L:=K+K'+1) (fun i=>by
  have h2:(-(zs'.getD i 0)).natAbs < WB ^ K':=by rw[Int.natAbs_neg];exact(hM'.pat i).b
  have:=ahc (hM.pat i).b h2
  rwa [←Int.sub_eq_add_neg]at this) (by omega))
 refine PureOK.fnF Tryz.func97 Tryz.results97 Tryz.ntmps97 rfl rfl rfl (by simp[AV.ids,AV0.ids,Atom.ids]) rfl (fun w0 T B E0 hB=>?_)
 refine SX.goM ?_;exact alW rfl
theorem ais(a b:List Int)(j:Nat):(adH a b).getD j 0=a.getD j 0 - b.getD j 0:=anM (op:=(· - ·)) rfl a b j
theorem anQ(op:Int→Int→Int)(a b:List Int):pN (dI op a b):=by unfold dI;exact aeI _
theorem ami{a b:List Int}(ha:pN a)(hb:pN b):(adH a b).length=0↔a=b:=by
 constructor
 ·intro h;refine ahC ha hb fun j=>?_
  have h2:=ais a b j;have h3:(adH a b).getD j 0=0:=oZ (by omega)
  omega
 ·rintro rfl;have h2:∀j,(adH a a).getD j 0=([]:List Int).getD j 0:=fun j=>by
   rw[ais];show a.getD j 0 - a.getD j 0=0;omega
  have h3:adH a a=[]:=ahC (anQ _ a a) (.inl rfl) h2;rw[h3];rfl
theorem ajG{l l':List Z2}{zs zs':List Int}{K K':Nat}(hM:MZ l zs K)(hM':MZ l' zs' K')(hl:l.length≤10000)(hl':l'.length≤10000)(hK:K+K'≤100000)(hn:pN zs)(hn':pN zs'):
  PureOK Tryz.prog 53 [.r (ay 2 z2C l),.r (ay 2 z2C l')] (.v (.bool (decide (zs=zs')))):=by
 have c:=amy hM hM' hl hl' hK;have hlen:((adH zs zs').map z2v).length=(adH zs zs').length:=List.length_map _;rw[show decide (zs=zs')=decide ((adH zs zs').length=0)from decide_eq_decide.2 (ami hn hn').symm]
 refine PureOK.fnF Tryz.func53 Tryz.results53 Tryz.ntmps53 rfl rfl rfl (by simp[AV.ids,AV0.ids,Atom.ids]) rfl (fun w0 T B E0 hB=>?_)
 refine SX.goM ?_;refine aG ?_;rw[decide_eq_decide];omega
def pScale(zs:List Int)(d:Int):List Int:=dn (zs.map (· *d))
end
section
theorem PrP.lt{p:Nat}(h:PrP p):2≤p∧p < 2147483648:=⟨h.1,h.2.1⟩
abbrev gfA(p:Nat):List Atom:=[.c (.val (.int .u64 (p:Int)))]
def eqL{α:Type}(p:α→α→Bool):List α→List α→Bool
 |[],[]=>true
 |a::l,b::l'=>p a b&&eqL p l l'
 |_,_=>false
theorem wQ{α:Type}{p:α→α→Bool}:∀{l l':List α},l.length≠l'.length→eqL p l l'=false
 |[],[],h=>absurd rfl h
 |[],_::_,_=>rfl
 |_::_,[],_=>rfl
 |a::l,b::l',h=>by rw[eqL,wQ (l:=l) (l':=l') (fun e=>h (by rw[List.length_cons,List.length_cons,e])),Bool.and_false]
theorem wE{α:Type}{p:α→α→Bool}{l l':List α}{k:Nat}{a b:α}(h:l[k]? =some a)(h':l'[k]? =some b):eqL p (l.drop k) (l'.drop k)=(p a b&&eqL p (l.drop (k+1)) (l'.drop (k+1))):=by
 obtain⟨h1,rfl⟩:=List.getElem?_eq_some_iff.1 h
 obtain⟨h2,rfl⟩:=List.getElem?_eq_some_iff.1 h'
 rw[List.drop_eq_getElem_cons h1,List.drop_eq_getElem_cons h2,eqL]
theorem wB{α:Type}{p:α→α→Bool}:∀{l l':List α},(∀a∈l,∀b∈l',p a b=true↔a=b)→(eqL p l l'=true↔l=l')
 |[],[],_=>by simp[eqL]
 |[],_::_,_=>by simp[eqL]
 |_::_,[],_=>by simp[eqL]
 |a::l,b::l',h=>by
  rw[eqL,Bool.and_eq_true,h a (List.mem_cons_self ..) b (List.mem_cons_self ..),wB (l:=l) (l':=l') fun x hx y hy=>h x (List.mem_cons_of_mem _ hx) y (List.mem_cons_of_mem _ hy)]
  simp
attribute [local irreducible] IntKind.wrap Go1 Reg WP aQ aR bO bN aN aB aj ah aV Sat
attribute [local irreducible] bS bV bX dx bW qv redS mf PrP qOk zOk vP dL lz vF cq rqv fC dn
theorem acg{p:Nat}(h:PrP p):PureOK Tryz.prog 102 [.v (.int .u64 (p:Int))] (.tup [.agg (gfA p),.one (.c (.val (.bool true)))]):=by
 have hp:=h.lt;have c:=aa5 p (by omega)
 rw[decide_eq_true h]at c;refine PureOK.fnF Tryz.func102 Tryz.results102 Tryz.ntmps102 rfl rfl rfl (by simp[AV.ids,AV0.ids,Atom.ids]) rfl (fun w0 T B E0 hB=>?_)
 refine SX.goM ?_;exact .ok (aB.mk2 (aj.agg1 rfl rfl rfl) (aj.tmp rfl))
theorem z8{p:Nat}(h:PrP p):PureOK Tryz.prog 146 [.agg (gfA p)] (.v (.int .u64 (p:Int))):=by
 have hp:=h.lt;refine PureOK.fnF Tryz.func146 Tryz.results146 Tryz.ntmps146 rfl rfl rfl (by simp[AV.ids,AV0.ids,Atom.ids]) rfl (fun w0 T B E0 hB=>?_)
 refine SX.goM ?_;exact gV rfl
theorem mV{p:Nat}(h:PrP p)(x:Nat)(hx:x < 18446744073709551616):PureOK Tryz.prog 101 [.agg (gfA p),.v (.int .u64 (x:Int))] (.v (.int .u64 ((x % p:Nat):Int))):=by
 have hp:=h.lt;have c:=z8 h;have hr:IntKind.u64.wrap ((x:Int).tmod (p:Int))=((x % p:Nat):Int):=by rw[wK];exact wrapN (Nat.lt_of_le_of_lt (Nat.mod_le x p) hx)
 refine PureOK.fnF Tryz.func101 Tryz.results101 Tryz.ntmps101 rfl rfl rfl (by simp[AV.ids,AV0.ids,Atom.ids]) rfl (fun w0 T B E0 hB=>?_)
 refine SX.goM ?_;exact gV rfl
theorem ak5(v:Vl)(h:PrP v.p):PureOK Tryz.prog 55 [.agg (vlA v)] (.agg (gfA v.p)):=by
 have c:=acg h;refine PureOK.fnF Tryz.func55 Tryz.results55 Tryz.ntmps55 rfl rfl rfl (by simp[AV.ids,AV0.ids,Atom.ids]) rfl (fun w0 T B E0 hB=>?_)
 refine SX.goM ?_;exact nC (aj.agg1 rfl rfl rfl) rfl
abbrev fmA(r c:Nat)(l:List Nat):List Atom:=[.c (.val (.int .i64 (r:Int))),.c (.val (.int .i64 (c:Int))),.c (.sat (ay 1 wdC l))]
theorem anx{r c:Nat}{l:List Nat}(hl:l.length=r*c)(hr:r≤64)(hc:c≤64):PureOK Tryz.prog 88 [.agg (fmA r c l)] (.v (.bool true)):=by
 have h:PureOK Tryz.prog 88 [.agg (fmA r c l)] (.v (.bool (dL r c l.length))):=yN r c;rw[aac hr hc hl]at h;exact h
theorem agN{r c r' c':Nat}{l l':List Nat}(hl:l.length=r*c)(hl':l'.length=r'*c')(hr:r≤64)(hc:c≤64)(hr':r'≤64)(hc':c'≤64):
  PureOK Tryz.prog 98 [.agg (fmA r c l),.agg (fmA r' c' l')] (.v (.bool (decide (r=r'∧c=c')))):=by
 have cF:=anx hl hr hc;have cF':=anx hl' hr' hc';refine PureOK.fnF Tryz.func98 Tryz.results98 Tryz.ntmps98 rfl rfl rfl (by simp[AV.ids,AV0.ids,Atom.ids]) rfl (fun w0 T B E0 hB=>?_)
 by_cases h1:(r:Int)=(r':Int)
 ·refine SX.goM ?_;refine aG ?_;rw[decide_eq_decide];omega
 ·refine SX.goM ?_;refine aG ?_;exact(decide_eq_false fun h=>h1 (by omega)).symm
theorem alQ(l l':List gy)(x:CA)(p:gy→gy→Bool)(hx:∀v∈l,∀u∈l',FnV Tryz.prog x [.agg (q4A (rq v)),.agg (q4A (rq u))] (.v (.bool (p v u))))(hl:l.length≤100000)(hl':l'.length≤100000)(hx1:x.dO=true):
  PureOK Tryz.prog 95 [.r (ay 4 q4C (l.map rq)),.r (ay 4 q4C (l'.map rq)),.it (.one (.c x))] (.v (.bool (eqL p l l'))):=by
 have e1:(l.map rq).length=l.length:=List.length_map _;have e2:(l'.map rq).length=l'.length:=List.length_map _;refine PureOK.fnF Tryz.func95 Tryz.results95 Tryz.ntmps95 rfl rfl rfl (by simp[AV.ids,AV0.ids,Atom.ids]) rfl (fun w0 T B E0 hB=>?_)
 by_cases hne:l.length=l'.length
 rotate_left
 ·rw[wQ hne];refine SX.goM ?_;exact aG rfl
 refine SX.goM ?_;refine W.loop (fun k=>k≤l.length∧eqL p (l.drop k) (l'.drop k)=eqL p l l') (fun k=>[(1,.r (ay 4 q4C (l'.map rq))),(2,.it (.one (.c x))),(15,.r (ay 4 q4C (l.map rq))),(16,.v (.int .i64 ((l.map rq).length:Int))),(17,.v (.int .i64 (k:Int)))]) (fun _=>[]) (fun k=>l.length - k) 0 ⟨Nat.zero_le _,rfl⟩ (fun k ⟨hk,he⟩=>?_)
 by_cases h:k < l.length
 ·obtain⟨a,ha⟩:∃a,l[k]? =some a:=⟨_,List.getElem?_eq_getElem h⟩
  obtain⟨b,hb⟩:∃b,l'[k]? =some b:=⟨_,List.getElem?_eq_getElem (by omega)⟩
  have hf:=hx a (List.mem_of_getElem? ha) b (List.mem_of_getElem? hb);have hq:(l.map rq)[k]? =some (rq a):=by rw[List.getElem?_map,ha];rfl
  have hq':(l'.map rq)[k]? =some (rq b):=by rw[List.getElem?_map,hb];rfl
  have h1:k < (l.map rq).length:=by rw[List.length_map];exact h
  have h2:k < (l'.map rq).length:=by rw[List.length_map];omega
  rw[wE ha hb]at he;cases hp:p a b with
  |false=>
   rw[hp]at hf he;refine SX.goM ?_;refine aG ?_;rw[←he];rfl
  |true=>
   rw[hp]at hf he;refine SX.goM ?_;exact W.next (k+1) ⟨h,he⟩ (by omega)
 ·obtain rfl:k=l.length:=by omega
  rw[List.drop_length,hne,List.drop_length]at he;refine SX.goM ?_;refine aG ?_;rw[←he];rfl
theorem akd(l l':List gy)(f:FuncId)(p:gy→gy→Bool)(hx:∀v∈l,∀u∈l',PureOK Tryz.prog f [.agg (q4A (rq v)),.agg (q4A (rq u))] (.v (.bool (p v u))))(hl:l.length≤100000)(hl':l'.length≤100000):
  PureOK Tryz.prog 95 [.r (ay 4 q4C (l.map rq)),.r (ay 4 q4C (l'.map rq)),.it (.one (.clo f []))] (.v (.bool (eqL p l l'))):=
 zo (alQ l l' (.sat (dM f [] [])) p (fun v h u h'=>FnV.const (hx v h u h')) hl hl' rfl)
theorem alj(l l':List Nat)(x:CA)(p:Nat→Nat→Bool)(hx:∀v∈l,∀u∈l',FnV Tryz.prog x [.v (.int .u64 (v:Int)),.v (.int .u64 (u:Int))] (.v (.bool (p v u))))(hl:l.length≤100000)(hl':l'.length≤100000)(hx1:x.dO=true):
  PureOK Tryz.prog 99 [.r (ay 1 wdC l),.r (ay 1 wdC l'),.it (.one (.c x))] (.v (.bool (eqL p l l'))):=by
 refine PureOK.fnF Tryz.func99 Tryz.results99 Tryz.ntmps99 rfl rfl rfl (by simp[AV.ids,AV0.ids,Atom.ids]) rfl (fun w0 T B E0 hB=>?_)
 by_cases hne:l.length=l'.length
 rotate_left
 ·rw[wQ hne];refine SX.goM ?_;exact aG rfl
 refine SX.goM ?_;refine W.loop (fun k=>k≤l.length∧eqL p (l.drop k) (l'.drop k)=eqL p l l') (fun k=>[(1,.r (ay 1 wdC l')),(2,.it (.one (.c x))),(15,.r (ay 1 wdC l)),(16,.v (.int .i64 (l.length:Int))),(17,.v (.int .i64 (k:Int)))]) (fun _=>[]) (fun k=>l.length - k) 0 ⟨Nat.zero_le _,rfl⟩ (fun k ⟨hk,he⟩=>?_)
 by_cases h:k < l.length
 ·obtain⟨a,ha⟩:∃a,l[k]? =some a:=⟨_,List.getElem?_eq_getElem h⟩
  obtain⟨b,hb⟩:∃b,l'[k]? =some b:=⟨_,List.getElem?_eq_getElem (by omega)⟩
  have hf:=hx a (List.mem_of_getElem? ha) b (List.mem_of_getElem? hb);rw[wE ha hb]at he;cases hp:p a b with
  |false=>
   rw[hp]at hf he;refine SX.goM ?_;refine aG ?_;rw[←he];rfl
  |true=>
   rw[hp]at hf he;refine SX.goM ?_;exact W.next (k+1) ⟨h,he⟩ (by omega)
 ·obtain rfl:k=l.length:=by omega
  rw[List.drop_length,hne,List.drop_length]at he;refine SX.goM ?_;refine aG ?_;rw[←he];rfl
theorem amF(l l':List Vl)(x:CA)(p:Vl→Vl→Bool)(hx:∀v∈l,∀u∈l',FnV Tryz.prog x [.agg (vlA v),.agg (vlA u)] (.v (.bool (p v u))))(hl:l.length≤100000)(hl':l'.length≤100000)(hx1:x.dO=true):
  PureOK Tryz.prog 57 [.r (ay 15 vlC l),.r (ay 15 vlC l'),.it (.one (.c x))] (.v (.bool (eqL p l l'))):=by
 rw[uV,uV];refine PureOK.fnF Tryz.func57 Tryz.results57 Tryz.ntmps57 rfl rfl rfl (by simp[AV.ids,AV0.ids,Atom.ids]) rfl (fun w0 T B E0 hB=>?_)
 by_cases hne:l.length=l'.length
 rotate_left
 ·rw[wQ hne];refine SX.goM ?_;exact aG rfl
 refine SX.goM ?_;refine W.loop (fun k=>k≤l.length∧eqL p (l.drop k) (l'.drop k)=eqL p l l') (fun k=>[(1,.r (ay 15 vlE l')),(2,.it (.one (.c x))),(15,.r (ay 15 vlE l)),(16,.v (.int .i64 (l.length:Int))),(17,.v (.int .i64 (k:Int)))]) (fun _=>[]) (fun k=>l.length - k) 0 ⟨Nat.zero_le _,rfl⟩ (fun k ⟨hk,he⟩=>?_)
 by_cases h:k < l.length
 ·obtain⟨a,ha⟩:∃a,l[k]? =some a:=⟨_,List.getElem?_eq_getElem h⟩
  obtain⟨b,hb⟩:∃b,l'[k]? =some b:=⟨_,List.getElem?_eq_getElem (by omega)⟩
  have hf:=hx a (List.mem_of_getElem? ha) b (List.mem_of_getElem? hb);rw[wE ha hb]at he;cases hp:p a b with
  |false=>
   rw[hp]at hf he;refine SX.goM ?_;refine aG ?_;rw[←he];rfl
  |true=>
   rw[hp]at hf he;refine SX.goM ?_;exact W.next (k+1) ⟨h,he⟩ (by omega)
 ·obtain rfl:k=l.length:=by omega
  rw[List.drop_length,hne,List.drop_length]at he;refine SX.goM ?_;refine aG ?_;rw[←he];rfl
theorem akr(l l':List Vl)(f:FuncId)(p:Vl→Vl→Bool)(hx:∀v∈l,∀u∈l',PureOK Tryz.prog f [.agg (vlA v),.agg (vlA u)] (.v (.bool (p v u))))(hl:l.length≤100000)(hl':l'.length≤100000):
  PureOK Tryz.prog 57 [.r (ay 15 vlC l),.r (ay 15 vlC l'),.it (.one (.clo f []))] (.v (.bool (eqL p l l'))):=
 zo (amF l l' (.sat (dM f [] [])) p (fun v h u h'=>FnV.const (hx v h u h')) hl hl' rfl)
theorem agm(l l':List Nat)(hl:l.length≤100000)(hl':l'.length≤100000):PureOK Tryz.prog 56 [.r (ay 1 wdC l),.r (ay 1 wdC l')] (.v (.bool (decide (l=l')))):=by
 have e:decide (l=l')=eqL (fun a b=>decide (a=b)) l l':=by
  rw[Bool.eq_iff_iff,decide_eq_true_iff];exact(wB fun a _ b _=>by rw[decide_eq_true_iff]).symm
 rw[e];refine PureOK.fnF Tryz.func56 Tryz.results56 Tryz.ntmps56 rfl rfl rfl (by simp[AV.ids,AV0.ids,Atom.ids]) rfl (fun w0 T B E0 hB=>?_)
 by_cases hne:l.length=l'.length
 rotate_left
 ·rw[wQ hne];refine SX.goM ?_;exact aG rfl
 refine SX.goM ?_;refine W.loop (fun k=>k≤l.length∧eqL (fun a b=>decide (a=b)) (l.drop k) (l'.drop k)=eqL (fun a b=>decide (a=b)) l l') (fun k=>[(0,.r (ay 1 wdC l)),(1,.r (ay 1 wdC l')),(12,.v (.int .i64 (l.length:Int))),(13,.v (.int .i64 (k:Int)))]) (fun _=>[]) (fun k=>l.length - k) 0 ⟨Nat.zero_le _,rfl⟩ (fun k ⟨hk,he⟩=>?_)
 by_cases h:k < l.length
 ·obtain⟨a,ha⟩:∃a,l[k]? =some a:=⟨_,List.getElem?_eq_getElem h⟩
  obtain⟨b,hb⟩:∃b,l'[k]? =some b:=⟨_,List.getElem?_eq_getElem (by omega)⟩
  rw[wE ha hb]at he;by_cases hab:a=b
  ·have hab':(a:Int)=(b:Int):=by omega
   rw[decide_eq_true hab]at he;refine SX.goM ?_;exact W.next (k+1) ⟨h,he⟩ (by omega)
  ·have hab':¬(a:Int)=(b:Int):=by omega
   rw[decide_eq_false hab]at he;refine SX.goM ?_;refine aG ?_;rw[←he];rfl
 ·obtain rfl:k=l.length:=by omega
  rw[List.drop_length,hne,List.drop_length]at he;refine SX.goM ?_;refine aG ?_;rw[←he];rfl
theorem agy{p:Nat}(h:PrP p)(x y:Nat)(hx:x < p)(hy:y < p):PureOK Tryz.prog 100 [.v (.int .u64 (x:Int)),.v (.int .u64 (y:Int)),.r (bK [.val (.int .u64 (p:Int))])] (.v (.bool (decide (x=y)))):=by
 have hp:=h.lt;have c1:=mV h x (by omega)
 have c2:=mV h y (by omega)
 rw[Nat.mod_eq_of_lt hx]at c1;rw[Nat.mod_eq_of_lt hy]at c2;refine PureOK.fnF Tryz.func100 Tryz.results100 Tryz.ntmps100 rfl rfl rfl (by simp[AV.ids,AV0.ids,Atom.ids]) rfl (fun w0 T B E0 hB=>?_)
 refine SX.goM ?_;refine aG ?_;rw[decide_eq_decide];omega
theorem akT{p r c r' c':Nat}{l l':List Nat}(h:PrP p)(hl:l.length=r*c)(hl':l'.length=r'*c')(hr:r≤64)(hc:c≤64)(hr':r'≤64)(hc':c'≤64)(hb:∀x∈l,x < p)(hb':∀x∈l',x < p):
  PureOK Tryz.prog 54 [.agg (gfA p),.agg (fmA r c l),.agg (fmA r' c' l')] (.v (.bool (decide (r=r'∧c=c'∧l=l')))):=by
 have cA:=agN hl hl' hr hc hr' hc';have m1:=Nat.mul_le_mul hr hc;have m2:=Nat.mul_le_mul hr' hc';have cE:=alj l l' (.sat (dM 100 [] [.sat (bK [.val (.int .u64 (p:Int))])])) (fun x y=>decide (x=y)) (fun x hx y hy=>FnV.clo (agy h x y (hb x hx) (hb' y hy))) (by omega) (by omega) rfl
 rw[show eqL (fun x y=>decide (x=y)) l l'=decide (l=l')by
  rw[Bool.eq_iff_iff,decide_eq_true_iff];exact wB fun a _ b _=>by rw[decide_eq_true_iff]]at cE
 refine PureOK.fnF Tryz.func54 Tryz.results54 Tryz.ntmps54 rfl rfl rfl (by simp[AV.ids,AV0.ids,Atom.ids]) rfl (fun w0 T B E0 hB=>?_)
 refine SX.goM ?_;refine SX.WP.eX 3 hB rfl rfl ?_;refine SX.WP.dh ?_;by_cases h1:r=r'∧c=c'
 ·rw[decide_eq_true h1]at cA;refine SX.goM ?_;refine aG ?_;rw[decide_eq_decide];exact⟨fun h=>⟨h1.1,h1.2,h⟩,fun h=>h.2.2⟩
 ·rw[decide_eq_false h1]at cA;refine SX.goM ?_;refine aG ?_;exact(decide_eq_false fun h=>h1 ⟨h.1,h.2.1⟩).symm
end
section
def wN(l:List Nat):Prop:=l.length=0∨l.getD (l.length - 1) 0≠0
inductive Sh(K:Nat):Vl→Prop
 |num (x:Rat) (h:RB x K):Sh K (eF x)
 |mat (r c:Nat) (vs:List Rat) (hl:vs.length=r*c) (hr:r≤64) (hc:c≤64) (h:∀v∈vs,RB v K):Sh K (gP r c vs)
 |pol (zs:List Int) (hl:zs.length≤10000) (hn:pN zs) (h:∀z∈zs,z.natAbs < WB ^ K):Sh K (iW zs)
 |fld (p r c:Nat) (l:List Nat) (hp:PrP p) (hl:l.length=r*c) (hr:r≤64) (hc:c≤64) (h:∀x∈l,x < p):Sh K (lI p r c l)
 |rng (p:Nat) (l:List Nat) (hp:PrP p) (hl:l.length≤10000) (hn:wN l) (h:∀x∈l,x < p):Sh K (lN p l)
inductive Cv(K:Nat):Nat→Vl→Prop
 |one {n:Nat} {v:Vl} (h:Sh K v):Cv K n v
 |lst {n:Nat} (l:List Vl) (hl:l.length≤10000) (h:∀x∈l,Cv K n x):Cv K (n+1) (kG l)
noncomputable def j6(u v:Vl):Bool:= @decide (u=v) (Classical.propDecidable _)
theorem oH{u v:Vl}:j6 u v=true↔u=v:=by unfold j6;exact @decide_eq_true_iff _ (Classical.propDecidable _)
theorem anL{u v:Vl}(h:u≠v):j6 u v=false:=Bool.eq_false_iff.2 fun e=>h (oH.1 e)
theorem aaW(u:Vl):j6 u u=true:=oH.2 rfl
theorem rV{u v:Vl}{p:Prop}[Decidable p](h:u=v↔p):j6 u v=decide p:=by
 rw[Bool.eq_iff_iff,oH,decide_eq_true_iff];exact h
theorem aea{x y:Rat}(h:cq x=cq y):x=y:=by rw[←iM x,h,iM]
theorem as3{x y:Int}(h:cz x=cz y):x=y:=by rw[←mX x,h,mX]
theorem map_inj{α β:Type}{f:α→β}(hf:∀{x y},f x=f y→x=y):∀{l l':List α},l.map f=l'.map f→l=l'
 |[],[],_=>rfl
 |a::l,b::l',h=>by
  rw[List.map_cons,List.map_cons]at h
  injection h with h1 h2
  rw[hf h1,map_inj hf h2]
theorem aoi{x y:Rat}:eF x=eF y↔x=y:=⟨fun h=>by injection h with _ h;exact aea h,fun h=>by rw[h]⟩
theorem aoM{r c r' c':Nat}{vs vs':List Rat}:gP r c vs=gP r' c' vs'↔r=r'∧c=c'∧vs=vs':=by
 constructor
 ·intro h
  injection h with _ _ h1 h2 h3
  exact⟨by omega,by omega,map_inj aea h3⟩
 ·rintro⟨rfl,rfl,rfl⟩;rfl
theorem alN{a b:List Int}:iW a=iW b↔a=b:=⟨fun h=>by injection h with _ _ _ _ _ h;exact map_inj as3 h,fun h=>by rw[h]⟩
theorem aoR{p r c p' r' c':Nat}{l l':List Nat}:lI p r c l=lI p' r' c' l'↔p=p'∧r=r'∧c=c'∧l=l':=by
 constructor
 ·intro h
  injection h with _ _ _ _ _ _ h1 h2 h3 h4
  exact⟨h1,by omega,by omega,h4⟩
 ·rintro⟨rfl,rfl,rfl,rfl⟩;rfl
theorem amA{p p':Nat}{l l':List Nat}:lN p l=lN p' l'↔p=p'∧l=l':=by
 constructor
 ·intro h
  injection h with _ _ _ _ _ _ h1 _ _ _ h2
  exact⟨h1,h2⟩
 ·rintro⟨rfl,rfl⟩;rfl
theorem alq{l l':List Vl}:kG l=kG l'↔l=l':=⟨fun h=>by injection h,fun h=>by rw[h]⟩
theorem MZ.ofz{zs:List Int}{K:Nat}(h:∀z∈zs,z.natAbs < WB ^ K):MZ ((zs.map cz).map rz) zs K:=by
 have:=MZ.raw (l:=zs.map cz) (K:=K) (fun a ha=>by obtain⟨z,_,rfl⟩:=List.mem_map.1 ha;exact aiM z) (fun a ha=>by obtain⟨z,hz,rfl⟩:=List.mem_map.1 ha;exact lZ (h z hz))
 rwa [apg]at this
attribute [local irreducible] IntKind.wrap Go1 Reg WP aQ aR bO bN aN aB aj ah aV Sat
attribute [local irreducible] bS bV bX dx bW qv redS mf PrP qOk zOk vP dL lz vF cq rqv fC dn
theorem apI{x y:Rat}{K L:Nat}(hx:RB x K)(hy:RB y L)(hK:K+L≤400000):PureOK Tryz.prog 96 [.agg (q4A (rq (cq x))),.agg (q4A (rq (cq y)))] (.v (.bool (decide (rqv (cq x)=rqv (cq y))))):=by
 rw[iM,iM]
 haveI:=Ra.cq hx
 haveI:=Ra.cq hy
 obtain⟨z,cA,hz,_⟩:=eCmp (q4A (rq (cq x))) (q4A (rq (cq y))) (K:=K) (K':=L) (by omega)
 rw[←decide_eq_decide.2 hz];refine PureOK.fnF Tryz.func96 Tryz.results96 Tryz.ntmps96 rfl rfl rfl (by simp[AV.ids,AV0.ids,Atom.ids]) rfl (fun w0 T B E0 hB=>?_)
 refine SX.goM ?_;exact aG rfl
theorem aeQ{r c r' c':Nat}{vs vs':List Rat}{K L:Nat}(hv:∀v∈vs,RB v K)(hv':∀v∈vs',RB v L)(hK:K+L≤400000)(hl:vs.length=r*c)(hl':vs'.length=r'*c')(hr:r≤64)(hc:c≤64)(hr':r'≤64)(hc':c'≤64):
  PureOK Tryz.prog 52 [.agg (aam r c ((vs.map cq).map rq)),.agg (aam r' c' ((vs'.map cq).map rq))] (.v (.bool (decide (r=r'∧c=c'∧vs=vs')))):=by
 have m1:=Nat.mul_le_mul hr hc;have m2:=Nat.mul_le_mul hr' hc';have k1:(vs.map cq).length=vs.length:=List.length_map _;have k2:(vs'.map cq).length=vs'.length:=List.length_map _;have cA:=akq (l:=(vs.map cq).map rq) (l':=(vs'.map cq).map rq) (by rw[List.length_map,List.length_map];exact hl) (by rw[List.length_map,List.length_map];exact hl') hr hc hr' hc' (decide (r=r'∧c=c')) decide_eq_true_iff
 have cE:=akd (vs.map cq) (vs'.map cq) 96 (fun a b=>decide (rqv a=rqv b)) (fun a ha b hb=>by
  obtain⟨x,hx,rfl⟩:=List.mem_map.1 ha;obtain⟨y,hy,rfl⟩:=List.mem_map.1 hb;exact apI (hv x hx) (hv' y hy) hK) (by omega) (by omega)
 have e:eqL (fun a b=>decide (rqv a=rqv b)) (vs.map cq) (vs'.map cq)=decide (vs=vs'):=by
  rw[Bool.eq_iff_iff,decide_eq_true_iff,wB (fun a ha b hb=>by
   obtain⟨x,hx,rfl⟩:=List.mem_map.1 ha;obtain⟨y,hy,rfl⟩:=List.mem_map.1 hb;rw[decide_eq_true_iff,iM,iM];exact⟨fun h=>by rw[h],aea⟩)]
  exact⟨map_inj aea,fun h=>by rw[h]⟩
 rw[e]at cE;refine PureOK.fnF Tryz.func52 Tryz.results52 Tryz.ntmps52 rfl rfl rfl (by simp[AV.ids,AV0.ids,Atom.ids]) rfl (fun w0 T B E0 hB=>?_)
 by_cases h1:r=r'∧c=c'
 ·rw[decide_eq_true h1]at cA;refine SX.goM ?_;refine aG ?_;rw[decide_eq_decide];exact⟨fun h=>⟨h1.1,h1.2,h⟩,fun h=>h.2.2⟩
 ·rw[decide_eq_false h1]at cA;refine SX.goM ?_;refine aG ?_;exact(decide_eq_false fun h=>h1 ⟨h.1,h.2.1⟩).symm
theorem sI(u v:Vl)(h:u.k≠v.k∨u.p≠v.p):PureOK Tryz.prog 28 [.agg (vlA u),.agg (vlA v)] (.v (.bool (j6 u v))):=by
 rw[anL (by rintro rfl;exact h.elim (fun h=>h rfl) fun h=>h rfl)]
 refine PureOK.fnF Tryz.func28 Tryz.results28 Tryz.ntmps28 rfl rfl rfl (by simp[AV.ids,AV0.ids,Atom.ids]) rfl (fun w0 T B E0 hB=>?_)
 by_cases h1:u.k=v.k
 ·have h2:¬(u.p:Int)=(v.p:Int):=by omega
  refine SX.goM ?_;exact aG rfl
 ·refine SX.goM ?_;exact aG rfl
section
variable{K L:Nat}(hKL:K+L≤100000)
include hKL
theorem akN{r c r' c':Nat}{vs vs':List Rat}(hv:∀v∈vs,RB v K)(hv':∀v∈vs',RB v L)(hl:vs.length=r*c)(hl':vs'.length=r'*c')(hr:r≤64)(hc:c≤64)(hr':r'≤64)(hc':c'≤64):
  PureOK Tryz.prog 28 [.agg (vlA (gP r c vs)),.agg (vlA (gP r' c' vs'))] (.v (.bool (j6 (gP r c vs) (gP r' c' vs')))):=by
 have c1:=aeQ hv hv' (by omega) hl hl' hr hc hr' hc'
 rw[rV aoM];refine PureOK.fnF Tryz.func28 Tryz.results28 Tryz.ntmps28 rfl rfl rfl (by simp[AV.ids,AV0.ids,Atom.ids]) rfl (fun w0 T B E0 hB=>?_)
 refine SX.goM ?_;exact aG rfl
theorem akR{a b:List Int}(hl:a.length≤10000)(hn:pN a)(h:∀z∈a,z.natAbs < WB ^ K)(hl':b.length≤10000)(hn':pN b)(h':∀z∈b,z.natAbs < WB ^ L):
  PureOK Tryz.prog 28 [.agg (vlA (iW a)),.agg (vlA (iW b))] (.v (.bool (j6 (iW a) (iW b)))):=by
 have c1:=ajG (MZ.ofz h) (MZ.ofz h') (by rw[List.length_map,List.length_map];exact hl) (by rw[List.length_map,List.length_map];exact hl') hKL hn hn'
 rw[rV alN];refine PureOK.fnF Tryz.func28 Tryz.results28 Tryz.ntmps28 rfl rfl rfl (by simp[AV.ids,AV0.ids,Atom.ids]) rfl (fun w0 T B E0 hB=>?_)
 refine SX.goM ?_;exact aG rfl
omit hKL in
theorem akm{p r c r' c':Nat}{l l':List Nat}(hp:PrP p)(hl:l.length=r*c)(hr:r≤64)(hc:c≤64)(h:∀x∈l,x < p)(hl':l'.length=r'*c')(hr':r'≤64)(hc':c'≤64)(h':∀x∈l',x < p):
  PureOK Tryz.prog 28 [.agg (vlA (lI p r c l)),.agg (vlA (lI p r' c' l'))] (.v (.bool (j6 (lI p r c l) (lI p r' c' l')))):=by
 have cf:=ak5 (lI p r c l) hp;have c1:=akT hp hl hl' hr hc hr' hc' h h';have e:((lI p r c l).p:Int)=((lI p r' c' l').p:Int):=rfl;rw[rV (p:=r=r'∧c=c'∧l=l') (aoR.trans ⟨fun h=>h.2,fun h=>⟨rfl,h⟩⟩)]
 refine PureOK.fnF Tryz.func28 Tryz.results28 Tryz.ntmps28 rfl rfl rfl (by simp[AV.ids,AV0.ids,Atom.ids]) rfl (fun w0 T B E0 hB=>?_)
 refine SX.goM ?_;exact aG rfl
omit hKL in
theorem ako{p:Nat}{l l':List Nat}(hl:l.length≤10000)(hl':l'.length≤10000):
  PureOK Tryz.prog 28 [.agg (vlA (lN p l)),.agg (vlA (lN p l'))] (.v (.bool (j6 (lN p l) (lN p l')))):=by
 have c1:=agm l l' (by omega) (by omega)
 have e:((lN p l).p:Int)=((lN p l').p:Int):=rfl;rw[rV (p:=l=l') (amA.trans ⟨fun h=>h.2,fun h=>⟨rfl,h⟩⟩)]
 refine PureOK.fnF Tryz.func28 Tryz.results28 Tryz.ntmps28 rfl rfl rfl (by simp[AV.ids,AV0.ids,Atom.ids]) rfl (fun w0 T B E0 hB=>?_)
 refine SX.goM ?_;exact aG rfl
omit hKL in
theorem ajw{l l':List Vl}(hl:l.length≤10000)(hl':l'.length≤10000)(h:∀x∈l,∀y∈l',PureOK Tryz.prog 28 [.agg (vlA x),.agg (vlA y)] (.v (.bool (j6 x y)))):
  PureOK Tryz.prog 28 [.agg (vlA (kG l)),.agg (vlA (kG l'))] (.v (.bool (j6 (kG l) (kG l')))):=by
 have c1:=akr l l' 28 j6 h (by omega) (by omega)
 rw[show eqL j6 l l'=j6 (kG l) (kG l')by
  rw[Bool.eq_iff_iff,oH,alq];exact wB fun a _ b _=>oH]at c1
 refine PureOK.fnF Tryz.func28 Tryz.results28 Tryz.ntmps28 rfl rfl rfl (by simp[AV.ids,AV0.ids,Atom.ids]) rfl (fun w0 T B E0 hB=>?_)
 refine SX.goM ?_;exact aG rfl
theorem aaB{u v:Vl}(hu:Sh K u)(hv:Sh L v):PureOK Tryz.prog 28 [.agg (vlA u),.agg (vlA v)] (.v (.bool (j6 u v))):=by
 by_cases hk:u.k=v.k∧u.p=v.p
 ·cases hu with
  |num x h=>cases hv with
   |num y h'=>
    rw[rV aoi];exact ag6 h h' (by omega)
   |_=>exact absurd hk.1 (by simp)
  |mat r c vs hl hr hc h=>cases hv with
   |mat r' c' vs' hl' hr' hc' h'=>exact akN hKL h h' hl hl' hr hc hr' hc'
   |_=>exact absurd hk.1 (by simp)
  |pol zs hl hn h=>cases hv with
   |pol zs' hl' hn' h'=>exact akR hKL hl hn h hl' hn' h'
   |_=>exact absurd hk.1 (by simp)
  |fld p r c l hp hl hr hc h=>cases hv with
   |fld p' r' c' l' hp' hl' hr' hc' h'=>
    obtain rfl:p=p':=hk.2;exact akm hp hl hr hc h hl' hr' hc' h'
   |_=>exact absurd hk.1 (by simp)
  |rng p l hp hl hn h=>cases hv with
   |rng p' l' hp' hl' hn' h'=>
    obtain rfl:p=p':=hk.2;exact ako hl hl'
   |_=>exact absurd hk.1 (by simp)
 ·exact sI u v (by omega)
theorem ae3:∀(n m:Nat) (u v:Vl),Cv K n u→Cv L m v→PureOK Tryz.prog 28 [.agg (vlA u),.agg (vlA v)] (.v (.bool (j6 u v))):=by
 intro n
 induction n with
 |zero=>
  intro m u v hu hv;cases hu with
  |one hu=>cases hv with
   |one hv=>exact aaB hKL hu hv
   |lst l hl h=>exact sI u _ (by cases hu <;> exact .inl (by simp))
 |succ n ih=>
  intro m u v hu hv;cases hu with
  |one hu=>cases hv with
   |one hv=>exact aaB hKL hu hv
   |lst l hl h=>exact sI u _ (by cases hu <;> exact .inl (by simp))
  |lst l hl h=>cases hv with
   |one hv=>exact sI _ v (by cases hv <;> exact .inl (by simp))
   |lst l' hl' h'=>exact ajw hl hl' fun x hx y hy=>ih _ x y (h x hx) (h' y hy)
end
end
end
end Go.Proofs.YtmgfiodmdfaclaaGreatDoor