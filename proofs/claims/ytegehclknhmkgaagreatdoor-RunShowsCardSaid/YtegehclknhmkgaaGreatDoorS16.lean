import Derived.Test.YtegehclknhmkgaaGreatDoorS11
import Derived.Test.YtegehclknhmkgaaGreatDoorS15
import Derived.Test.YtegehclknhmkgaaGreatDoorS6
set_option linter.unusedVariables false
set_option linter.unusedSimpArgs false
open Go.Proofs.Tryz
namespace Go.Proofs.YtegehclknhmkgaaGreatDoor
open Go.RowKit QM SX LA
section
abbrev dX(t:List UInt8)(vs:List Vl):List Atom:=[.c (.val (str t)),.c (.sat (aA 15 vlE vs))]
abbrev mo(v:Vl)(e:Int)(b:Bool):List Atom:=[.c (.val (.int .i64 v.k)),.c (.val (.bool v.q.1)),.c (.sat (dN v.q.2.1)),.c (.val (.bool v.q.2.2.1)),.c (.sat (dN v.q.2.2.2)),.c (.val (.int .i64 v.r)),.c (.val (.int .i64 v.c)),.c (.sat (aA 4 q4C (v.a.map rq))),.c (.sat (aA 2 z2C (v.po.map rz))),.c (.val (.int .u64 (v.p:Int))),.c (.val (.int .i64 v.fr)),.c (.val (.int .i64 v.fc)),.c (.sat (aA 1 wdC v.fa)),.c (.sat (aA 1 wdC v.ri)),.c (.sat (aA 15 vlC v.li)),.c (.val (.int .i64 e)),.c (.val (.bool b))]
theorem mI{P:Program}{C:Ctx}{st:St}{r:ResultVar}{x y:AV0}(h:ak P st r x)(e:x.imp y):aQ C P [r] ⟨.it y,[]⟩ st:= .ok (aC.mk1 (h.imp e))
attribute [local irreducible] IntKind.wrap Go1 Reg WP aS aT bR bO aQ aC ak aj aX Sat
attribute [local irreducible] bT bX bY dw bZ qv dR mf PrP qOk zOk vP dQ lz vF cq rqv eY bW dL dh gD jn sq aO qS zS tS tbS plS mdS
theorem aa3(v:Vl):ah prog 282 [.agg (vlA v),.v (.int .i64 0)] (.agg (mo v 0 true)):=by
 refine ah.fnF func282 results282 ntmps282 rfl rfl rfl (by simp[AV.ids,AV0.ids,Atom.ids]) rfl (fun w0 T B E0 hB=>?_)
 refine SX.goM ?_;refine mI (ak.iT rfl rfl rfl) ?_;exact AV0.imp.refl _
theorem afy(v:Vl):ah prog 278 [.agg (vlA v)] (.agg (mo v 0 true)):=by
 have c:=aa3 v;refine ah.fnF func278 results278 ntmps278 rfl rfl rfl (by simp[AV.ids,AV0.ids,Atom.ids]) rfl (fun w0 T B E0 hB=>?_)
 refine SX.goM ?_;refine mI (ak.iT rfl rfl rfl) ?_;exact AV0.imp.refl _
theorem jU{z:Int}{K:Nat}(hz:z.natAbs < WB ^ K)(h1:1≤K)(hK:K≤100000):ah prog 363 [.agg (vlA (fJ (z:Rat)))] (.tup [.agg (zN z),.one (.c (.val (.bool true)))]):=by
 have cw:=aqc (RB.ofI hz h1) hK;rw[if_pos (Rat.den_intCast z),decide_eq_true (Rat.den_intCast z),Rat.num_intCast]at cw;refine ah.fnF func363 results363 ntmps363 rfl rfl rfl (by simp[AV.ids,AV0.ids,Atom.ids]) rfl (fun w0 T B E0 hB=>?_)
 refine SX.goM ?_;exact .ok (aC.mk2 (ak.fC rfl rfl rfl) (ak.tmp rfl))
theorem oH{v:Vl}(hq:Sm WB v.q.2.1∧Sm WB v.q.2.2.2)(hl:v.q.2.1.length≤100000∧v.q.2.2.2.length≤100000)(hk:¬v.k=1):∃z:Int,ah prog 363 [.agg (vlA v)] (.tup [.agg (zN z),.one (.c (.val (.bool false)))]):=by
 obtain⟨z,b,h⟩:∃(z:Int) (b:Bool),ah prog 193 [.agg (q4A (rq v.q))] (.tup [.agg (zN z),.one (.c (.val (.bool b)))]):=⟨_,_,(sN (h:=ZI.raw v.q.1 v.q.2.1) (h':=ZI.raw v.q.2.2.1 v.q.2.2.2)).h (by omega)⟩
 refine⟨z,?_⟩;cases b with
 |true=>
  suffices hs:ah prog 363 [.agg (vlA v)] (.tup [.agg (zN z),.one (.c (.val (.bool (decide (v.k=1)))))])by rwa [decide_eq_false hk]at hs
  refine ah.fnF func363 results363 ntmps363 rfl rfl rfl (by simp[AV.ids,AV0.ids,Atom.ids]) rfl (fun w0 T B E0 hB=>?_)
  refine SX.goM ?_;exact .ok (aC.mk2 (ak.fC rfl rfl rfl) (ak.tmp rfl))
 |false=>
  refine ah.fnF func363 results363 ntmps363 rfl rfl rfl (by simp[AV.ids,AV0.ids,Atom.ids]) rfl (fun w0 T B E0 hB=>?_)
  refine SX.goM ?_;exact .ok (aC.mk2 (ak.fC rfl rfl rfl) (ak.tmp rfl))
theorem ahg(v:Vl):ah prog 304 [.agg (vlA v),.v (.int .u8 120)] (.v (.bool (decide (v.k=2)))):=by
 refine ah.fnF func304 results304 ntmps304 rfl rfl rfl (by simp[AV.ids,AV0.ids,Atom.ids]) rfl (fun w0 T B E0 hB=>?_)
 refine SX.goM ?_;exact aJ rfl
theorem nV(v:Vl):ah prog 304 [.agg (vlA v),.v (.int .u8 113)] (.v (.bool (decide (v.k=3)))):=by
 refine ah.fnF func304 results304 ntmps304 rfl rfl rfl (by simp[AV.ids,AV0.ids,Atom.ids]) rfl (fun w0 T B E0 hB=>?_)
 refine SX.goM ?_;exact aJ rfl
theorem ag4(v:Vl):ah prog 304 [.agg (vlA v),.v (.int .u8 102)] (.v (.bool (decide (v.k=4)))):=by
 refine ah.fnF func304 results304 ntmps304 rfl rfl rfl (by simp[AV.ids,AV0.ids,Atom.ids]) rfl (fun w0 T B E0 hB=>?_)
 refine SX.goM ?_;exact aJ rfl
theorem ah4(v:Vl):ah prog 304 [.agg (vlA v),.v (.int .u8 101)] (.v (.bool (decide (v.k=5)))):=by
 refine ah.fnF func304 results304 ntmps304 rfl rfl rfl (by simp[AV.ids,AV0.ids,Atom.ids]) rfl (fun w0 T B E0 hB=>?_)
 refine SX.goM ?_;exact aJ rfl
theorem fQ{v:Vl}{z:Int}{b:Bool}(h:ah prog 363 [.agg (vlA v)] (.tup [.agg (zN z),.one (.c (.val (.bool b)))])):ah prog 304 [.agg (vlA v),.v (.int .u8 110)] (.v (.bool b)):=by
 refine ah.fnF func304 results304 ntmps304 rfl rfl rfl (by simp[AV.ids,AV0.ids,Atom.ids]) rfl (fun w0 T B E0 hB=>?_)
 refine SX.goM ?_;exact aJ rfl
abbrev zmA(r c:Int)(x:CA):List Atom:=[.c (.val (.int .i64 r)),.c (.val (.int .i64 c)),.c x]
theorem aaI{v:Vl}{r c:Int}{R:Rep}{b:Bool}(h:ah prog 369 [.agg (vlA v)] (.tup [.agg (zmA r c (.sat R)),.one (.c (.val (.bool b)))])):ah prog 304 [.agg (vlA v),.v (.int .u8 109)] (.v (.bool b)):=by
 refine ah.fnF func304 results304 ntmps304 rfl rfl rfl (by simp[AV.ids,AV0.ids,Atom.ids]) rfl (fun w0 T B E0 hB=>?_)
 refine SX.goM ?_;exact aJ rfl
theorem afN{v:Vl}{r c:Int}{b:Bool}(h:ah prog 369 [.agg (vlA v)] (.tup [.agg (zmA r c (.val (.slice none 0 0))),.one (.c (.val (.bool b)))])):ah prog 304 [.agg (vlA v),.v (.int .u8 109)] (.v (.bool b)):=by
 refine ah.fnF func304 results304 ntmps304 rfl rfl rfl (by simp[AV.ids,AV0.ids,Atom.ids]) rfl (fun w0 T B E0 hB=>?_)
 refine SX.goM ?_;exact aJ rfl
theorem aes{v:Vl}(hk:¬v.k=2):ah prog 369 [.agg (vlA v)] (.tup [.agg (zmA 0 0 (.val (.slice none 0 0))),.one (.c (.val (.bool false)))]):=by
 refine ah.fnF func369 results369 ntmps369 rfl rfl rfl (by simp[AV.ids,AV0.ids,Atom.ids]) rfl (fun w0 T B E0 hB=>?_)
 refine SX.goM ?_;exact .ok (aC.mk2 (ak.aZ rfl rfl rfl) (ak.tmp rfl))
theorem afV{t t2 so:List UInt8}{vs:List Vl}(h:(t==t2)=false):ah prog 272 [.agg (dX t vs),.v (str t2),.v (str so)] (.v (.bool false)):=by
 have h2:decide (t=t2)=false:=by simpa using h
 refine ah.fnF func272 results272 ntmps272 rfl rfl rfl (by simp[AV.ids,AV0.ids,Atom.ids]) rfl (fun w0 T B E0 hB=>?_)
 refine SX.goM ?_;exact aJ rfl
theorem ql{t so:List UInt8}{vs:List Vl}(f:Nat→Bool)(hl:vs.length=so.length)(hn:vs.length≤1000000)(hf:∀(i:Nat) v,vs[i]? =some v→ah prog 304 [.agg (vlA v),.v (.int .u8 ((byt so i).toNat:Int))] (.v (.bool (f i)))):
  ah prog 272 [.agg (dX t vs),.v (str t),.v (str so)] (.v (.bool ((List.range vs.length).all f))):=by
 have h2:decide (t=t)=true:=decide_eq_true rfl;refine ah.fnF func272 results272 ntmps272 rfl rfl rfl (by simp[AV.ids,AV0.ids,Atom.ids]) rfl (fun w0 T B E0 hB=>?_)
 refine SX.goM ?_;refine W.loop (fun k=>k≤vs.length∧(List.range k).all f=true) (fun k=>[(2,.v (str so)),(22,.r (aA 15 vlE vs)),(23,.v (.int .i64 (vs.length:Int))),(24,.v (.int .i64 (k:Int)))]) (fun _=>[]) (fun k=>vs.length - k) 0 ⟨Nat.zero_le _,rfl⟩ (fun k ⟨hk,ha⟩=>?_)
 by_cases hlt:k < vs.length
 ·obtain⟨v,hv⟩:∃v,vs[k]? =some v:=⟨_,zq2 hlt⟩
  have c:=hf k v hv;cases hb:f k with
  |true=>
   rw[hb]at c;refine SX.goM ?_;exact W.next (k+1) ⟨hlt,by rw[List.range_succ,List.all_append,ha];simp[hb]⟩ (by omega)
  |false=>
   rw[hb]at c;refine SX.goM ?_;refine aJ ?_;rw[eq_comm,List.all_eq_false];exact⟨k,List.mem_range.2 hlt,by rw[hb];decide⟩
 ·obtain rfl:k=vs.length:=by omega
  refine SX.goM ?_;exact aJ ha.symm
end
section
attribute [local irreducible] IntKind.wrap Go1 Reg WP aS aT bR bO aQ aC ak aj aX Sat
attribute [local irreducible] bT bX bY dw bZ qv dR mf PrP qOk zOk vP dQ lz vF cq rqv eY bW dL dh gD jn sq aO qS zS tS tbS plS mdS
theorem agM{t:List UInt8}{vs:List Vl}{i:Nat}{v:Vl}{z:Int}{b:Bool}(hv:vs[i]? =some v)(hi:i≤1000)(h:ah prog 363 [.agg (vlA v)] (.tup [.agg (zN z),.one (.c (.val (.bool b)))])):ah prog 275 [.agg (dX t vs),.v (.int .i64 (i:Int))] (.agg (zN z)):=by
 have hl:=kI hv;refine ah.fnF func275 results275 ntmps275 rfl rfl rfl (by simp[AV.ids,AV0.ids,Atom.ids]) rfl (fun w0 T B E0 hB=>?_)
 refine SX.goM ?_;exact mE (ak.fC rfl rfl rfl) rfl
theorem asS{t:List UInt8}{vs:List Vl}{i:Nat}{v:Vl}{r c:Int}{R:Rep}{b:Bool}(hv:vs[i]? =some v)(hi:i≤1000)(h:ah prog 369 [.agg (vlA v)] (.tup [.agg (zmA r c (.sat R)),.one (.c (.val (.bool b)))])):ah prog 281 [.agg (dX t vs),.v (.int .i64 (i:Int))] (.agg (zmA r c (.sat R))):=by
 have hl:=kI hv;refine ah.fnF func281 results281 ntmps281 rfl rfl rfl (by simp[AV.ids,AV0.ids,Atom.ids]) rfl (fun w0 T B E0 hB=>?_)
 refine SX.goM ?_;exact mE (ak.aZ rfl rfl rfl) rfl
theorem ac9{z:Int}(h1: -1073741824≤z)(h2:z≤1073741824):ah prog 274 [.agg (zN z)] (.v (.int .i64 z)):=by
 haveI:Bd z 1:=⟨atj (by omega) (by omega)⟩
 have c:=ati (l:=zN z) (z:=z) (k:=1) (by decide)
 have e1:mR z=true:=by
  unfold mR;rw[decide_eq_true (by omega),decide_eq_true (by omega)];rfl
 have e2:rZ z=z:=by unfold rZ;rw[e1];rfl
 rw[e1,e2]at c;refine ah.fnF func274 results274 ntmps274 rfl rfl rfl (by simp[AV.ids,AV0.ids,Atom.ids]) rfl (fun w0 T B E0 hB=>?_)
 refine SX.goM ?_;exact gK rfl
theorem aoE{r c:Nat}(hr:r≤64)(hc:c≤64):ah prog 273 [.v (.int .i64 (r:Int)),.v (.int .i64 (c:Int))] (.tup [.agg (wS r c (kH c (fun _ _=>0) r)),eNo 0]):=by
 have s1:=(rG (r:Int)).h trivial;have s2:=(rG (c:Int)).h trivial;rw[decide_eq_true (show 0≤(r:Int)∧(r:Int)≤64 by omega)]at s1
 rw[decide_eq_true (show 0≤(c:Int)∧(c:Int)≤64 by omega)]at s2
 have c0:∀i k:Nat,ah prog 362 [.v (.int .i64 (i:Int)),.v (.int .i64 (k:Int))] (.agg (z2A (false,dN []))):=fun i k=>by
  refine ah.fnF func362 results362 ntmps362 rfl rfl rfl (by simp[AV.ids,AV0.ids,Atom.ids]) rfl (fun w0 T B E0 hB=>?_)
  refine SX.goM ?_;refine xY (ak.fC rfl rfl rfl) ?_;exact mQ ⟨aI.refl _,aI.sI,trivial⟩
 have cM:=yR (akC r c (.sat (dP 362 [] [])) (fun _ _=>(false,dN [])) (fun _ _=>0) 1 (by omega) (by omega) (by decide) (fun i k _ _=>FnV.const (c0 i k)) (fun i k _ _=>ZQ.raw (b:=false) (l:=[]) Sm.nil (by decide)) rfl)
 refine ah.fnF func273 results273 ntmps273 rfl rfl rfl (by simp[AV.ids,AV0.ids,Atom.ids]) rfl (fun w0 T B E0 hB=>?_)
 refine SX.goM ?_;exact .ok (aC.mk2 (ak.aZ rfl rfl rfl) (ak.tmp rfl))
theorem aut(r c:Nat)(zs:List Int):wS r c zs=aed r c (zs.map z2v):=by
 show [_,_,Atom.c (.sat (aM 2 zs.length (zs.flatMap zC)))]=[_,_,Atom.c (.sat (aM 2 (zs.map z2v).length ((zs.map z2v).flatMap z2C)))];rw[zq5,List.flatMap_map]
theorem asM(z:Int):qv z 1=(z:Rat):=by unfold qv;grind
theorem akK{c r:Nat}{l:List Rat}{val:Nat→Nat→Rat}(hl:l.length=r*c)(h:∀i k,i < r→k < c→l[i*c+k]? =some (val i k)):kE c val r=l:=by
 refine List.ext_getElem? fun n=>?_
 by_cases hn:n < r*c
 ·have hc:0 < c:=Nat.pos_of_ne_zero (by rintro rfl;simp at hn)
  have h1:n / c < r:=Nat.div_lt_of_lt_mul (by rwa [Nat.mul_comm]at hn)
  have h2:=Nat.mod_lt n hc;have e:n=n / c*c+n % c:=by rw[Nat.mul_comm];exact(Nat.div_add_mod n c).symm
  rw[e,acQ h2 h1,h _ _ h1 h2]
 ·rw[List.getElem?_eq_none (by rw[lN];omega),List.getElem?_eq_none (by omega)]
theorem am6{r c:Nat}{zs:List Int}(hl:zs.length=r*c):kE c (fun i k=>qv (zat zs c i k) 1) r=zs.map fun z:Int=>(z:Rat):=by
 refine akK (by rw[zq5];exact hl) fun i k hi hk=>?_
 rw[List.getElem?_map,wL hl hi hk,asM];rfl
theorem akT{r c K:Nat}{zs:List Int}(hl:zs.length=r*c)(hr:r≤64)(hc:c≤64)(hz:∀z∈zs,z.natAbs < WB ^ K)(hK:K≤10000)(hK1:1≤K):ah prog 284 [.agg (wS r c zs)] (.agg (vlA (eF r c (zs.map fun z:Int=>(z:Rat))))):=by
 have cF:=anE (MZ.made hz) (by rw[zq5];exact hl) hr hc hK hK1
 rw[←aut,am6 hl,acB]at cF;have hb:∀x∈zs.map (fun z:Int=>(z:Rat)),RB x K:=fun x hx=>by
  obtain⟨z,hz',rfl⟩:=List.mem_map.1 hx;exact RB.ofI (hz z hz') hK1
 have cM:=aaS (r:=r) (c:=c) (MV.made hb) (by rw[zq5,zq5];exact hl) hr hc (by omega)
 refine ah.fnF func284 results284 ntmps284 rfl rfl rfl (by simp[AV.ids,AV0.ids,Atom.ids]) rfl (fun w0 T B E0 hB=>?_)
 refine SX.goM ?_;refine xY (ak.gJ rfl rfl rfl) ?_;exact AV0.imp.refl _
theorem adb{r c K:Nat}{zs:List Int}(hl:zs.length=r*c)(hr:r≤64)(hc:c≤64)(hz:∀z∈zs,z.natAbs < WB ^ K)(hK:K≤10000)(hK1:1≤K):ah prog 276 [.agg (wS r c zs),.v (.int .i64 0)] (.agg (mo (eF r c (zs.map fun z:Int=>(z:Rat))) 0 true)):=by
 have cT:=akT hl hr hc hz hK hK1;have cD:=aa3 (eF r c (zs.map fun z:Int=>(z:Rat)))
 refine ah.fnF func276 results276 ntmps276 rfl rfl rfl (by simp[AV.ids,AV0.ids,Atom.ids]) rfl (fun w0 T B E0 hB=>?_)
 refine SX.goM ?_;refine mI (ak.iT rfl rfl rfl) ?_;exact AV0.imp.refl _
abbrev kQ:List UInt8:=[122,101,114,111]
abbrev jF:List UInt8:=[112,111,108,121]
abbrev iC:List UInt8:=[109,111,100]
abbrev vI(z:Int):Vl:=fJ (z:Rat)
theorem yH{r:Nat}(h:r≤64):(r:Int).natAbs < WB ^ 1:=by rw[Nat.pow_one,bB];omega
theorem aa4{r c:Nat}(hr:r≤64)(hc:c≤64):ah prog 241 [.agg (dX kQ [vI r,vI c])] (.agg (mo (eF r c ((kH c (fun _ _=>0) r).map fun z:Int=>(z:Rat))) 0 true)):=by
 have w1:=jU (yH hr) (Nat.le_refl 1) (by decide)
 have w2:=jU (yH hc) (Nat.le_refl 1) (by decide)
 have cA:ah prog 272 [.agg (dX kQ [vI r,vI c]),.v (str kQ),.v (str [110,110])] (.v (.bool true)):=ql (fun _=>true) rfl (Nat.le_of_ble_eq_true rfl) (fun i v hv=>by
  match i,hv with
  |0,hv=>cases hv;exact fQ w1
  |1,hv=>cases hv;exact fQ w2)
 have n1:ah prog 275 [.agg (dX kQ [vI r,vI c]),.v (.int .i64 0)] (.agg (zN (r:Int))):=agM (i:=0) rfl (by decide) w1
 have n2:ah prog 275 [.agg (dX kQ [vI r,vI c]),.v (.int .i64 1)] (.agg (zN (c:Int))):=agM (i:=1) rfl (by decide) w2
 have s1:=ac9 (z:=(r:Int)) (by omega) (by omega)
 have s2:=ac9 (z:=(c:Int)) (by omega) (by omega)
 have cN:=aoE hr hc;have cM:=adb (r:=r) (c:=c) (K:=1) (zs:=kH c (fun _ _=>0) r) (vE ..) hr hc (aqF fun _ _ _ _=>by rw[Nat.pow_one,bB];decide) (by decide) (by decide)
 refine ah.fnF func241 results241 ntmps241 rfl rfl rfl (by simp[AV.ids,AV0.ids,Atom.ids]) rfl (fun w0 T B E0 hB=>?_)
 refine SX.goM ?_;refine mI (ak.iT rfl rfl rfl) ?_;exact AV0.imp.refl _
theorem al1{K:Nat}{zs:List Int}(hz:∀z∈zs,z.natAbs < WB ^ K)(h1:1≤K)(hK:K≤100000)(hl:zs.length≤10000)(hn:pN zs):ah prog 318 [.r (aA 15 vlE (zs.map vI))] (.tup [.one (.c (.sat (aA 2 z2C (zs.map z2v)))),.one (.c (.val (.bool true)))]):=by
 have e0:(zs.map vI).length=zs.length:=zq5 _;have e1:(zs.map z2v).length=zs.length:=zq5 _;have cN:=aqd (MZ.made hz) (by omega) (by omega) hn
 refine ah.fnF func318 results318 ntmps318 rfl rfl rfl (by simp[AV.ids,AV0.ids,Atom.ids]) rfl (fun w0 T B E0 hB=>?_)
 refine SX.goM ?_;refine W.loop (fun k=>k≤zs.length) (fun k=>[(4,.own 100),(9,.r (aA 15 vlE (zs.map vI))),(10,.v (.int .i64 (zs.length:Int))),(11,.v (.int .i64 (k:Int)))]) (fun k=>[(100,.row 27 2 k (((zs.take k).map z2v).flatMap z2C))]) (fun k=>zs.length - k) 0 (Nat.zero_le _) (fun k hk=>?_)
  (by
   refine SX.St.aY [(100,none)] (by intro b h;cases h) ?_ ?_ rfl
   ·repeat(first|exact trivial|refine⟨⟨_,rfl,SX.aG.same rfl⟩,?_⟩|refine⟨⟨_,rfl,SX.aG.nil rfl⟩,?_⟩|refine⟨⟨_,rfl,SX.aG.int (by omega)⟩,?_⟩)
   ·exact⟨SX.ay.bV rfl,trivial⟩)
 by_cases h:k < zs.length
 ·obtain⟨z,hzk⟩:∃z,zs[k]? =some z:=⟨_,zq2 h⟩
  have hv:(zs.map vI)[k]? =some (vI z):=by rw[List.getElem?_map,hzk];rfl
  have h':k < (zs.map vI).length:=by omega
  have cw:=jU (hz z (zq4 hzk)) h1 hK;have e2:=xE (enc:=z2C) (f:=z2v) hzk;refine SX.goM ?_;refine W.next (k+1) h (by omega) (by
   refine SX.St.aY [(100,some 25)] (by intro b h;cases h) ?_ ?_ rfl
   ·repeat(first|exact trivial|refine⟨⟨_,rfl,SX.aG.same rfl⟩,?_⟩|refine⟨⟨_,rfl,SX.aG.own rfl⟩,?_⟩)
   ·exact⟨SX.ay.row rfl rfl rfl e2,trivial⟩)
 ·obtain rfl:k=zs.length:=by omega
  rw[List.take_length];rw[←e1];refine SX.WP.freeze 100 hB rfl ?_;refine SX.goM ?_;exact .ok (aC.mk2 (ak.tmp rfl) (ak.tmp rfl))
end
section
section
def zmd(p:Nat)(z:Int):Nat:=(z % (p:Int)).toNat
theorem ag1{p:Nat}(h:PrP p)(z:Int):zmd p z < p:=by
 have:=h.lt;have h1:=Int.emod_nonneg z (show (p:Int)≠0 by omega)
 have h2:=Int.emod_lt_of_pos z (show (0:Int) < p by omega)
 unfold zmd;omega
theorem amP{p x:Nat}(h:x < p):zmd p (x:Int)=x:=by
 unfold zmd;rw[Int.emod_eq_of_lt (by omega) (by omega)];rfl
attribute [local irreducible] IntKind.wrap Go1 Reg WP aS aT bR bO aQ aC ak aj aX Sat
attribute [local irreducible] bT bX bY dw bZ qv dR mf PrP qOk zOk vP dQ lz vF cq rqv eY bW dL dh gD jn sq aO qS zS tS tbS plS mdS zmd
theorem aeO{l l':List Atom}{x y:Int}{k m:Nat}[h:ZI l x k][h':ZI l' y m](hy:0 < y)(hk:k+m≤1000000):ah prog 423 [.agg l,.agg l'] (.tup [.agg (zN (x % y)),.one (.c (.val (.bool true)))]):=by
 refine z2 ⟨_,func423,rfl,rfl⟩ fun neg n neg2 n2 hz hz2 hn hn2=>?_
 have cS:=xV (l:=zR neg2 n2 m) (z:=sgn neg2 n2) (k:=m) (by omega)
 have cE:=aqB (l:=zR neg n k) (l':=zR neg2 n2 m) (x:=sgn neg n) (y:=sgn neg2 n2) (k:=k) (m:=m) (by omega)
 rw[←hz2]at cS;rw[←hz,←hz2]at cE;have e1:zer x y=x % y:=by unfold zer;rw[if_neg (by omega)]
 rw[e1,decide_eq_true (show y≠0 by omega)]at cE
 have hs:¬aV y≤0:=by unfold aV;rw[if_neg (by omega),if_neg (by omega)];omega
 refine ah.fnF func423 results423 ntmps423 rfl rfl rfl (by simp[AV.ids,AV0.ids,Atom.ids]) rfl (fun w0 T B E0 hB=>?_)
 refine SX.goM ?_;exact .ok (aC.mk2 (ak.fC rfl rfl rfl) (ak.tmp rfl))
theorem afL{p:Nat}(hp:PrP p){b:Bool}{R:Rep}{n k:Nat}(h:NI (.sat R) n k)(hk:k≤100000):ah prog 322 [.agg (gfA p),.agg [.c (.val (.bool b)),.c (.sat R)]] (.v (.int .u64 ((zmd p (sgn b n):Nat):Int))):=by
 have hl:=hp.lt;have cP:=zA hp;have hpW:p < WB:=by rw[bB];omega
 have cO:=nOf p hpW
 haveI i1:BdN p 1:=⟨by rw[Nat.pow_one];exact hpW⟩
 have cF:=oW (a:= .sat (bD p)) (x:=p) (k:=1) false (by omega)
 rw[show sgn false p=(p:Int)from rfl]at cF
 haveI i2:=ZI.mk' (neg:=b) h
 have cM:=aeO (l:=[.c (.val (.bool b)),.c (.sat R)]) (l':=zN (p:Int)) (x:=sgn b n) (y:=(p:Int)) (k:=k) (m:=1) (by omega) (by omega)
 have hlt:=ag1 hp (sgn b n);have e1:(sgn b n % (p:Int)).natAbs=zmd p (sgn b n):=by
  have:=Int.emod_nonneg (sgn b n) (show (p:Int)≠0 by omega)
  unfold zmd;omega
 haveI i3:BdN (sgn b n % (p:Int)).natAbs 1:=⟨by rw[Nat.pow_one,e1];omega⟩
 have cW:ah prog 76 [.it (.one (.c (.sat (bD (sgn b n % (p:Int)).natAbs))))] (.tup [.one (.c (.val (.int .u64 ((zmd p (sgn b n):Nat):Int)))),.one (.c (.val (.bool true)))]):=by
  have h:=ail (a:= .sat (bD (sgn b n % (p:Int)).natAbs)) (x:=(sgn b n % (p:Int)).natAbs) (k:=1) (by omega)
  rw[if_pos (by rw[e1];omega),decide_eq_true (by rw[e1];omega)]at h
  rwa [←e1]
 refine ah.fnF func322 results322 ntmps322 rfl rfl rfl (by simp[AV.ids,AV0.ids,Atom.ids]) rfl (fun w0 T B E0 hB=>?_)
 refine SX.goM ?_;exact gK rfl
theorem af3{p:Nat}(hp:PrP p){l:List Z2}{zs:List Int}{K:Nat}(hM:MZ l zs K)(hK:K≤100000)(hl:l.length≤10000):ah prog 502 [.r (aA 2 z2C l),.agg (gfA p)] (.r (aA 1 wdC (p8 p (zs.map (zmd p))))):=by
 have hpl:=hp.lt;have hlen:=hM.len;have e1:(zs.map (zmd p)).length=l.length:=by rw[zq5,hlen]
 have cN:=al2 hp (l:=zs.map (zmd p)) (by omega) (fun x hx=>by
  obtain⟨z,_,rfl⟩:=List.mem_map.1 hx;have:=ag1 hp z;omega)
 refine ah.fnF func502 results502 ntmps502 rfl rfl rfl (by simp[AV.ids,AV0.ids,Atom.ids]) rfl (fun w0 T B E0 hB=>?_)
 refine SX.goM ?_;refine W.loop (fun k=>k≤l.length) (fun k=>[(3,.ptr 3 0),(5,.own 100),(8,.r (aA 2 z2C l)),(9,.v (.int .i64 (l.length:Int))),(10,.v (.int .i64 (k:Int)))]) (fun k=>[(3,.box 117 (gfA p)),(100,.row 44 1 k (((zs.take k).map (zmd p)).flatMap wdC))]) (fun k=>l.length - k) 0 (Nat.zero_le _) (fun k hk=>?_)
  (by
   refine SX.St.aY [(100,none)] (by intro b h;cases h) ?_ ?_ rfl
   ·repeat(first|exact trivial|refine⟨⟨_,rfl,SX.aG.same rfl⟩,?_⟩|refine⟨⟨_,rfl,SX.aG.nil rfl⟩,?_⟩|refine⟨⟨_,rfl,SX.aG.int (by omega)⟩,?_⟩)
   ·exact⟨SX.ay.same rfl rfl,SX.ay.bV rfl,trivial⟩)
 by_cases h:k < l.length
 ·obtain⟨q,hq⟩:∃q,l[k]? =some q:=⟨_,zq2 h⟩
  obtain⟨z,hzk⟩:∃z,zs[k]? =some z:=⟨_,zq2 (by omega)⟩
  obtain⟨n,k',hz,hn,hk'⟩:=(hM.z k q z hq hzk).h;have cO:=afL hp (b:=q.1) hn (by omega)
  rw[←hz]at cO;have e2:=xE (enc:=wdC) (f:=zmd p) hzk;refine SX.goM ?_;refine W.next (k+1) h (by omega) (by
   refine SX.St.aY [(100,some 19)] (by intro b h;cases h) ?_ ?_ rfl
   ·repeat(first|exact trivial|refine⟨⟨_,rfl,SX.aG.same rfl⟩,?_⟩|refine⟨⟨_,rfl,SX.aG.own rfl⟩,?_⟩)
   ·exact⟨SX.ay.same rfl rfl,SX.ay.row rfl rfl rfl e2,trivial⟩)
 ·obtain rfl:k=l.length:=by omega
  rw[hlen,List.take_length,←hlen,←e1];refine SX.WP.freeze 100 hB rfl ?_;refine SX.goM ?_;exact mE (ak.tmp rfl) rfl
abbrev ptrZm(r c:Nat)(l:List Z2):AV:= .r (bJ [.val (.int .i64 (r:Int)),.val (.int .i64 (c:Int)),.sat (aA 2 z2C l)])
theorem ajc{c:Nat}{val:Nat→Nat→Nat}{k:Nat}(hk:k < c):∀{r i:Nat},i < r→(nY c val r)[i*c+k]? =some (val i k)
 |0,i,h=>absurd h (Nat.not_lt_zero _)
 |r+1,i,h=>by
  rw[wh];by_cases hi:i < r
  ·rw[List.getElem?_append_left (by rw[nH];exact xC hi hk)]
   exact ajc hk hi
  ·obtain rfl:i=r:=by omega
   rw[List.getElem?_append_right (by rw[nH];omega),nH,Nat.add_sub_cancel_left,List.getElem?_map,List.getElem?_range hk];rfl
theorem ak5{c r:Nat}{l:List Nat}{val:Nat→Nat→Nat}(hl:l.length=r*c)(h:∀i k,i < r→k < c→l[i*c+k]? =some (val i k)):nY c val r=l:=by
 refine List.ext_getElem? fun n=>?_
 by_cases hn:n < r*c
 ·have hc:0 < c:=Nat.pos_of_ne_zero (by rintro rfl;simp at hn)
  have h1:n / c < r:=Nat.div_lt_of_lt_mul (by rwa [Nat.mul_comm]at hn)
  have h2:=Nat.mod_lt n hc;have e:n=n / c*c+n % c:=by rw[Nat.mul_comm];exact(Nat.div_add_mod n c).symm
  rw[e,ajc h2 h1,h _ _ h1 h2]
 ·rw[List.getElem?_eq_none (by rw[nH];omega),List.getElem?_eq_none (by omega)]
theorem ajR{p:Nat}(hp:PrP p){r c K:Nat}{zs:List Int}(hl:zs.length=r*c)(hr:r≤64)(hc:c≤64)(hz:∀z∈zs,z.natAbs < WB ^ K)(hK:K≤10000):ah prog 503 [.agg (gfA p),.agg (wS r c zs)] (.tup [.agg (fmA r c (zs.map (zmd p))),eNo 0]):=by
 have hpl:=hp.lt;have hl2:(zs.map z2v).length=r*c:=by rw[zq5];exact hl
 have cF:=adM (cells:=(zs.map z2v).flatMap z2C) (mF.nat hr hc hl2);have c1:∀i k,i < r→k < c→ah prog 567 [.v (.int .i64 (i:Int)),.v (.int .i64 (k:Int)),ptrP p,ptrZm r c (zs.map z2v)] (.v (.int .u64 ((zmd p (zat zs c i k):Nat):Int))):=fun i k hi hk=>by
  have cA:=adu (r:=r) (c:=c) (MZ.made hz) hl2 hr hc hi hk (by omega)
  have hb:=hz _ (zq4 (wL hl hi hk));generalize zat zs c i k=z at*
  haveI i1:BdN z.natAbs K:=⟨hb⟩
  have cO:=afL hp (b:=decide (z < 0)) (R:=bD z.natAbs) (NI.aaL hb) (by omega)
  rw[aeN]at cO;refine ah.fnF func567 results567 ntmps567 rfl rfl rfl (by simp[AV.ids,AV0.ids,Atom.ids]) rfl (fun w0 T B E0 hB=>?_)
  refine SX.goM ?_;exact gK rfl
 have cM:=alB hp r c (.sat (dP 567 [] [.sat (bJ [.val (.int .u64 (p:Int))]),.sat (bJ [.val (.int .i64 (r:Int)),.val (.int .i64 (c:Int)),.sat (aA 2 z2C (zs.map z2v))])])) (fun i k=>zmd p (zat zs c i k)) (by omega) (by omega)
  (fun i k hi hk=>FnV.clo (c1 i k hi hk)) (fun i k _ _=>ag1 hp _) rfl
 rw[ak5 (l:=zs.map (zmd p)) (by rw[zq5];exact hl) (fun i k hi hk=>by rw[List.getElem?_map,wL hl hi hk];rfl)]at cM
 rw[xk];refine ah.fnF func503 results503 ntmps503 rfl rfl rfl (by simp[AV.ids,AV0.ids,Atom.ids]) rfl (fun w0 T B E0 hB=>?_)
 refine SX.goM ?_;refine SX.WP.eP 2 hB rfl rfl ?_;refine SX.WP.eP 3 hB rfl rfl ?_;refine SX.WP.aF ?_;refine SX.goM ?_;exact .ok (aC.mk2 (ak.aZ rfl rfl rfl) (ak.tmp rfl))
theorem amJ(p:Nat)(l:List Nat):ah prog 313 [.v (.int .u64 (p:Int)),.r (aA 1 wdC l)] (.agg (vlA (lu p l))):=by
 refine ah.fnF func313 results313 ntmps313 rfl rfl rfl (by simp[AV.ids,AV0.ids,Atom.ids]) rfl (fun w0 T B E0 hB=>?_)
 refine SX.goM ?_;refine xY (ak.gJ rfl rfl rfl) ?_;exact mQ ⟨aI.refl _,aI.refl _,aI.sI,aI.refl _,aI.sI,aI.refl _,aI.refl _,aI.nil,aI.nil,aI.refl _,aI.refl _,aI.refl _,aI.nil,aI.refl _,aI.nil,trivial⟩
theorem ale(p r c:Nat)(l:List Nat):ah prog 307 [.v (.int .u64 (p:Int)),.agg (fmA r c l)] (.agg (vlA (kS p r c l))):=by
 refine ah.fnF func307 results307 ntmps307 rfl rfl rfl (by simp[AV.ids,AV0.ids,Atom.ids]) rfl (fun w0 T B E0 hB=>?_)
 refine SX.goM ?_;refine xY (ak.gJ rfl rfl rfl) ?_;exact mQ ⟨aI.refl _,aI.refl _,aI.sI,aI.refl _,aI.sI,aI.refl _,aI.refl _,aI.nil,aI.nil,aI.refl _,aI.refl _,aI.refl _,aI.refl _,aI.nil,aI.nil,trivial⟩
end
section
def sK:List UInt8:=[32,122,101,114,111,32,105,100,32,116,114,97,110,115,112,111,115,101,32,114,111,119,115,32,99,111,108,115,32,100,101,116,32,105,110,118,32,114,97,110,107,32,116,114,97,99,101,32,97,100,106,32,104,110,102,32,109,111,100,104,110,102,32,115,110,102,32,107,101,114,110,101,108,32,105,109,97,103,101,32,115,97,116,117,114,97,116,101,32,115,111,108,118,101,32,108,108,108,32,99,104,97,114,32,109,105,110,32,102,114,111,98,32,105,110,118,97,114,105,97,110,116,115,32,99,111,109,112,97,110,105,111,110,32,112,111,108,121,32,109,111,100,32,108,105,102,116,32,100,101,103,32,101,118,97,108,32,100,101,114,105,118,101,32,103,99,100,32,120,103,99,100,32,102,108,111,111,114,32,114,111,117,110,100,32,97,98,115,32,110,117,109,32,100,101,110,32,112,114,105,109,101,32,99,114,116,32,112,111,119,109,111,100,32,108,101,110,32,102,97,99,116,111,114,115,32]
abbrev fnC(f:FuncId):List CA:=[.val (.func (.func f) #[] #[])]
instance:dO fnC 1:=⟨fun _=>rfl⟩
theorem FnV.val{P:Program}{f:FuncId}{args:List AV}{r:AV}(h:ah P f args r):FnV P (.val (.func (.func f) #[] #[])) args r:=by
 intro S w v hv;cases hv;exact⟨f,[],[],[],[],rfl,fun E=>trivial,fun E=>trivial,by simpa using h⟩
theorem eX{s t:List UInt8}{b:Bool}(hs:s.length < 4294967281)(hb:Lib.contains s t=b):ah prog 177 [.v (str s),.v (str t)] (.v (.bool b)):=by
 refine⟨⟨_,func177,rfl,rfl⟩,fun E S w vs hl hg hv _ _ _=>?_⟩
 match vs,hv with
 |[x,y],⟨h1,h2,_⟩=>
  have h1':x=str s:=h1;have h2':y=str t:=h2;subst h1' h2';obtain⟨_,_,m,hm⟩:=hg.2 4 (by simp[asC])
  refine(strings_Contains ⟨⟨s⟩⟩ ⟨⟨t⟩⟩ m w hs hm).mono ?_;rintro e w' ⟨rfl,rfl⟩;refine⟨_,E,S,rfl,{env:=fun _ _=>⟨rfl,rfl⟩,fpe:=fun _ _=>rfl,sub:=fun _ h=>h,new:=fun _ h=> .inl h,lt:=hl,off:=Off.refl _ _,res:=?_,ents:=fun _ _ h=>(by cases h),blk:=fun _ _ _ h=>(by cases h),sep:=fun _ _ _ _ _ _ h=>(by cases h)}⟩
  show Value.bool (Lib.contains s t)=Value.bool b;rw[hb]
instance con_asI(t t2 so:List UInt8)(vs:List Vl):Con prog 272 [.agg (dX t vs),.v (str t2),.v (str so)] ((t==t2)=false) (.v (.bool false)):=⟨fun h=>afV h⟩
attribute [local irreducible] IntKind.wrap Go1 Reg WP aS aT bR bO aQ aC ak aj aX Sat
attribute [local irreducible] bT bX bY dw bZ qv dR mf PrP qOk zOk vP dQ lz vF cq rqv eY bW dL dh gD jn sq aO qS zS tS tbS plS mdS zmd
abbrev aa7:List Atom:=mo v0 0 false
theorem vS{P:Program}{C:Ctx}{st:St}{r:ResultVar}(h:ak P st r (.agg [.c (.val (.int .i64 0)),.c (.val (.bool false)),.c (.val (.slice none 0 0)),.c (.val (.bool false)),.c (.val (.slice none 0 0)),.c (.val (.int .i64 0)),.c (.val (.int .i64 0)),.c (.val (.slice none 0 0)),.c (.val (.slice none 0 0)),.c (.val (.int .u64 0)),.c (.val (.int .i64 0)),.c (.val (.int .i64 0)),.c (.val (.slice none 0 0)),.c (.val (.slice none 0 0)),.c (.val (.slice none 0 0)),.c (.val (.int .i64 0)),.c (.val (.bool false))])):aQ C P [r] ⟨.it (.agg aa7),[]⟩ st:=
 mI h (mQ ⟨aI.refl _,aI.refl _,aI.sI,aI.refl _,aI.sI,aI.refl _,aI.refl _,aI.nil,aI.nil,aI.refl _,aI.refl _,aI.refl _,aI.nil,aI.nil,aI.nil,aI.refl _,aI.refl _,trivial⟩)
theorem afE{t:List UInt8}{vs:List Vl}(ht:t=jF∨t=iC):ah prog 241 [.agg (dX t vs)] (.agg aa7):=by
 rcases ht with rfl|rfl <;> (
  refine ah.fnF func241 results241 ntmps241 rfl rfl rfl (by simp[AV.ids,AV0.ids,Atom.ids]) rfl (fun w0 T B E0 hB=>?_)
  refine SX.goM ?_;exact vS (ak.iT rfl rfl rfl)
 )
theorem aeG{t:List UInt8}{vs:List Vl}(ht:t=jF∨t=iC):ah prog 242 [.agg (dX t vs)] (.agg aa7):=by
 rcases ht with rfl|rfl <;> (
  refine ah.fnF func242 results242 ntmps242 rfl rfl rfl (by simp[AV.ids,AV0.ids,Atom.ids]) rfl (fun w0 T B E0 hB=>?_)
  refine SX.goM ?_;exact vS (ak.iT rfl rfl rfl)
 )
theorem aay{t:List UInt8}{vs:List Vl}(ht:t=jF∨t=iC):ah prog 243 [.agg (dX t vs)] (.agg aa7):=by
 rcases ht with rfl|rfl <;> (
  refine ah.fnF func243 results243 ntmps243 rfl rfl rfl (by simp[AV.ids,AV0.ids,Atom.ids]) rfl (fun w0 T B E0 hB=>?_)
  refine SX.goM ?_;exact vS (ak.iT rfl rfl rfl)
 )
theorem vH{t:List UInt8}{vs:List Vl}(ht:t=jF∨t=iC):ah prog 244 [.agg (dX t vs)] (.agg aa7):=by
 rcases ht with rfl|rfl <;> (
  refine ah.fnF func244 results244 ntmps244 rfl rfl rfl (by simp[AV.ids,AV0.ids,Atom.ids]) rfl (fun w0 T B E0 hB=>?_)
  refine SX.goM ?_;exact vS (ak.iT rfl rfl rfl)
 )
theorem abS{t:List UInt8}{vs:List Vl}(h:vs.length≠1)(hl:vs.length≤100000):ah prog 245 [.agg (dX t vs)] (.agg aa7):=by
 refine ah.fnF func245 results245 ntmps245 rfl rfl rfl (by simp[AV.ids,AV0.ids,Atom.ids]) rfl (fun w0 T B E0 hB=>?_)
 refine SX.goM ?_;exact vS (ak.iT rfl rfl rfl)
theorem ah9{t:List UInt8}{v:Vl}(h:¬v.k=4∧¬v.k=5):ah prog 245 [.agg (dX t [v])] (.agg aa7):=by
 have hv:[v][0]? =some v:=rfl;have c1:=ag4 v;have c2:=ah4 v;rw[decide_eq_false h.1]at c1;rw[decide_eq_false h.2]at c2;refine ah.fnF func245 results245 ntmps245 rfl rfl rfl (by simp[AV.ids,AV0.ids,Atom.ids]) rfl (fun w0 T B E0 hB=>?_)
 refine SX.goM ?_;exact vS (ak.iT rfl rfl rfl)
theorem aaG{l:List Int}:iB (l.map fun z:Int=>(z:Rat))=1:=by
 refine Nat.dvd_one.1 (ahz fun v hv=>?_)
 obtain⟨z,_,rfl⟩:=List.mem_map.1 hv;rw[Rat.den_intCast];exact Nat.one_dvd 1
theorem aeS(l:List Int):nP (l.map fun z:Int=>(z:Rat))=l:=by
 unfold nP;rw[aaG,List.map_map];refine(List.map_congr_left fun z _=>?_).trans (List.map_id l)
 show ((z:Rat)*qj ((1:Nat):Int)).num=z;rw[ai3];have:(z:Rat)*(((1:Nat):Int):Rat)=(z:Rat):=by grind
 rw[this];exact Rat.num_intCast z
theorem xW{r c K:Nat}{zs:List Int}(hl:zs.length=r*c)(hr:r≤64)(hc:c≤64)(hz:∀z∈zs,z.natAbs < WB ^ K)(hK1:1≤K)(hB0:1+(r*c+1)*K≤50000):ah prog 369 [.agg (vlA (eF r c (zs.map fun z:Int=>(z:Rat))))] (.tup [.agg (zmA r c (.sat (aA 2 zC zs))),.one (.c (.val (.bool true)))]):=by
 have hb:∀x∈zs.map (fun z:Int=>(z:Rat)),RB x K:=fun x hx=>by
  obtain⟨z,hz',rfl⟩:=List.mem_map.1 hx;exact RB.ofI (hz z hz') hK1
 have cC:=acM (r:=r) (c:=c) (MV.cq hb) (by rw[zq5,zq5,zq5];exact hl) hr hc hK1 hB0
 rw[aaG,aeS]at cC;have o1:=akH
 haveI i1:Bd ((1:Nat):Int) 1:=⟨by rw[Nat.pow_one,bB];decide⟩
 have cS:ah prog 48 [.agg (zN ((1:Nat):Int)),.agg (zN 1)] (.v (.bool true)):=by
  have h:=arL (l:=zN ((1:Nat):Int)) (l':=zN 1) (x:=((1:Nat):Int)) (y:=1) (k:=1) (m:=1) (by omega)
  rwa [decide_eq_true (by omega)]at h
 refine ah.fnF func369 results369 ntmps369 rfl rfl rfl (by simp[AV.ids,AV0.ids,Atom.ids]) rfl (fun w0 T B E0 hB=>?_)
 refine SX.goM ?_;exact .ok (aC.mk2 (ak.aZ rfl rfl rfl) (ak.tmp rfl))
section
variable{p:Nat}(hp:PrP p){w:Vl}
include hp
theorem agG{K:Nat}{zs:List Int}(hz:∀z∈zs,z.natAbs < WB ^ K)(hK:K≤100000)(hl:zs.length≤10000):ah prog 428 [.agg (dX iC [iO zs,w]),.agg (gfA p)] (.agg (mo (lu p (p8 p (zs.map (zmd p)))) 0 true)):=by
 have hv:[iO zs,w][0]? =some (iO zs):=rfl;have cS:=nV (iO zs);rw[decide_eq_true rfl]at cS;have cR:=af3 hp (MZ.ofz hz) hK (by rw[zq5,zq5];exact hl)
 have cG:=zA hp;have cr:=amJ p (p8 p (zs.map (zmd p)));have cf:=afy (lu p (p8 p (zs.map (zmd p))));refine ah.fnF func428 results428 ntmps428 rfl rfl rfl (by simp[AV.ids,AV0.ids,Atom.ids]) rfl (fun w0 T B E0 hB=>?_)
 refine SX.goM ?_;refine mI (ak.iT rfl rfl rfl) ?_;exact AV0.imp.refl _
theorem ag5{r c K:Nat}{zs:List Int}(hl:zs.length=r*c)(hr:r≤64)(hc:c≤64)(hz:∀z∈zs,z.natAbs < WB ^ K)(hK1:1≤K)(hB0:1+(r*c+1)*K≤50000)(hKK:K≤10000):ah prog 428 [.agg (dX iC [eF r c (zs.map fun z:Int=>(z:Rat)),w]),.agg (gfA p)] (.agg (mo (kS p r c (zs.map (zmd p))) 0 true)):=by
 have hv:[eF r c (zs.map fun z:Int=>(z:Rat)),w][0]? =some (eF r c (zs.map fun z:Int=>(z:Rat))):=rfl
 have cS:=nV (eF r c (zs.map fun z:Int=>(z:Rat)))
 rw[decide_eq_false (fun h=>by have h':(2:Int)=3:=h;omega)]at cS
 have cW:=xW hl hr hc hz hK1 hB0;have cM:=aaI cW;have cm:ah prog 281 [.agg (dX iC [eF r c (zs.map fun z:Int=>(z:Rat)),w]),.v (.int .i64 0)] (.agg (wS r c zs)):=asS (i:=0) hv (by decide) cW
 have cF:=ajR hp hl hr hc hz hKK;have cG:=zA hp;have cr:=ale p r c (zs.map (zmd p));have cf:=aa3 (kS p r c (zs.map (zmd p)));refine ah.fnF func428 results428 ntmps428 rfl rfl rfl (by simp[AV.ids,AV0.ids,Atom.ids]) rfl (fun w0 T B E0 hB=>?_)
 refine SX.goM ?_;refine mI (ak.iT rfl rfl rfl) ?_;exact AV0.imp.refl _
end
end
section
section
variable{P:Program}{C:Ctx}{st:St}{ops rest:List Oper}{acc:List (List Nat×List Nat)}{K:List (List Nat×List Nat)→St→Prop}{dst:Option Tmp}{ty t:TypeId}{x:Operand}
theorem aus{f o1 ft:Nat}{l:List Atom}{y:Atom}[h1:iq P ft](hf:(P.underlying t).bind (uz · f)=some (o1,ft))(hd:aB dst C.nt=true)(hx:st.ev x=some (.agg l))(hi:l[o1]? =some y)
  (next:Reg P C ops rest (st.app dst ⟨.it (.one y),[]⟩) (([],[])::acc) K):Go1 P C ops dst (.field t x f) ty rest st acc K:=
 Go1.dn [] [] (by simp) hd (by simp) (fun o ho _ st' E S a w hev hs _=>by
  obtain⟨⟨vs,hv,hall⟩,hids⟩:=hs.ev ((hev x (by simp[ho,Op.operands])).trans hx)
  obtain⟨dd,hd1,hd2⟩:=Option.bind_eq_some_iff.1 hf;obtain⟨v,h2,h3⟩:=hall.get hi;refine⟨fun j hj=>hids j (List.mem_flatMap.2 ⟨y,zq4 hi,hj⟩),v,?_,h3⟩
  cases dd <;> simp[uz]at hd2
  rename_i fs;obtain⟨fd,hfd,he1,he2⟩:=hd2;subst he1 he2;unfold execOp;rw[ho];simp[show a.eval x=_ from hv,Instr.field,run_underlying hd1,hfd,part,asAgg,gP h1.h,h2]) next
end
attribute [local irreducible] IntKind.wrap Go1 Reg WP aS aT bR bO aQ aC ak aj aX Sat
attribute [local irreducible] bT bX bY dw bZ qv dR mf PrP qOk zOk vP dQ lz vF cq rqv eY bW dL dh gD jn sq aO qS zS tS tbS plS mdS zmd
theorem akr{v:Vl}{vs:List Vl}{z:Int}(h:ah prog 363 [.agg (vlA v)] (.tup [.agg (zN z),.one (.c (.val (.bool false)))]))(hl:vs.length≤1000):ah prog 318 [.r (aA 15 vlE (v::vs))] (.tup [.one (.c (.val (.slice none 0 0))),.one (.c (.val (.bool false)))]):=by
 have hv:(v::vs)[0]? =some v:=rfl;have hv2:∀k,k=0→(v::vs)[k]? =some v:=fun k hk=>by subst hk;rfl
 have hlen:(v::vs).length=vs.length+1:=rfl;refine ah.fnF func318 results318 ntmps318 rfl rfl rfl (by simp[AV.ids,AV0.ids,Atom.ids]) rfl (fun w0 T B E0 hB=>?_)
 refine SX.goM ?_;refine W.loop (fun(k:Nat)=>k=0) (fun k=>[(4,.v (.slice none 0 0)),(9,.r (aA 15 vlE (v::vs))),(10,.v (.int .i64 ((v::vs).length:Int))),(11,.v (.int .i64 (k:Int)))]) (fun k=>[]) (fun k=>0) 0 rfl (fun k hk=>?_)
 have hvk:=hv2 k hk;refine SX.goM ?_;exact .ok (aC.mk2 (ak.tmp rfl) (ak.tmp rfl))
theorem aei{zs:List Int}:ah prog 282 [.agg [.c (.val (.int .i64 3)),.c (.val (.bool false)),.c (.val (.slice none 0 0)),.c (.val (.bool false)),.c (.val (.slice none 0 0)),.c (.val (.int .i64 0)),.c (.val (.int .i64 0)),.c (.val (.slice none 0 0)),.c (.sat (aA 2 z2C (zs.map z2v))),.c (.val (.int .u64 0)),.c (.val (.int .i64 0)),.c (.val (.int .i64 0)),.c (.val (.slice none 0 0)),.c (.val (.slice none 0 0)),.c (.val (.slice none 0 0))],.v (.int .i64 0)] (.agg (mo (iO zs) 0 true)):=by
 refine ah.fnF func282 results282 ntmps282 rfl rfl rfl (by simp[AV.ids,AV0.ids,Atom.ids]) rfl (fun w0 T B E0 hB=>?_)
 refine SX.goM ?_;refine mI (ak.iT rfl rfl rfl) ?_;exact mQ ⟨aI.refl _,aI.refl _,aI.sI,aI.refl _,aI.sI,aI.refl _,aI.refl _,aI.nil,aI.ints zs,aI.refl _,aI.refl _,aI.refl _,aI.nil,aI.nil,aI.nil,aI.refl _,aI.refl _,trivial⟩
theorem aaf{zs:List Int}:ah prog 296 [.r (aA 2 z2C (zs.map z2v)),.v (.int .i64 0)] (.agg (mo (iO zs) 0 true)):=by
 have cd:=aei (zs:=zs);refine ah.fnF func296 results296 ntmps296 rfl rfl rfl (by simp[AV.ids,AV0.ids,Atom.ids]) rfl (fun w0 T B E0 hB=>?_)
 refine SX.goM ?_;refine mI (ak.iT rfl rfl rfl) ?_;exact AV0.imp.refl _
theorem qD:(Sm WB rq0.2.1∧Sm WB rq0.2.2.2)∧rq0.2.1.length≤100000∧rq0.2.2.2.length≤100000:=⟨⟨Sm.nil,Sm.nil⟩,by decide,by decide⟩
section
variable{p:Nat}(hp:PrP p)
include hp
theorem alp:ah prog 76 [.it (.one (.c (.sat (bD (p:Int).natAbs))))] (.tup [.one (.c (.val (.int .u64 (p:Int)))),.one (.c (.val (.bool true)))]):=by
 have hl:=hp.lt;have e:(p:Int).natAbs=p:=Int.natAbs_natCast p;have hpW:p < WB:=by rw[bB];omega
 haveI i1:BdN (p:Int).natAbs 1:=⟨by rw[Nat.pow_one,e];exact hpW⟩
 have h:=ail (a:= .sat (bD (p:Int).natAbs)) (x:=(p:Int).natAbs) (k:=1) (by omega)
 rw[if_pos (by rw[e];exact hpW),decide_eq_true (by rw[e];exact hpW)]at h
 rw[e]at h ⊢;exact h
theorem ajn{v r:Vl}{b1 b2 b3:Bool}(a1:ah prog 272 [.agg (dX iC [v,vI p]),.v (str iC),.v (str [110,110])] (.v (.bool b1)))(a2:ah prog 272 [.agg (dX iC [v,vI p]),.v (str iC),.v (str [109,110])] (.v (.bool b2)))
  (a3:ah prog 272 [.agg (dX iC [v,vI p]),.v (str iC),.v (str [113,110])] (.v (.bool b3))) (hb:(b1=false∧b2=true)∨(b1=false∧b2=false∧b3=true)) (cI:ah prog 428 [.agg (dX iC [v,vI p]),.agg (gfA p)] (.agg (mo r 0 true))):
  ah prog 326 [.agg (dX iC [v,vI p])] (.agg (mo r 0 true)):=by
 have hl:=hp.lt;have hv:[v,vI p][1]? =some (vI p):=rfl;have hb1:(p:Int).natAbs < WB ^ 1:=by rw[Nat.pow_one,bB];omega
 have w2:=jU hb1 (Nat.le_refl 1) (by decide)
 have n1:ah prog 275 [.agg (dX iC [v,vI p]),.v (.int .i64 1)] (.agg (zN (p:Int))):=agM (i:=1) hv (by decide) w2
 have cW:=alp hp;have cN:=abE hp
 haveI i1:Bd (p:Int) 1:=⟨hb1⟩
 have cS:=xV (l:=zN (p:Int)) (z:=(p:Int)) (k:=1) (by omega)
 have hs:¬aV (p:Int) < 0:=by unfold aV;split <;> omega
 rcases hb with⟨rfl,rfl⟩|⟨rfl,rfl,rfl⟩ <;> (
  refine ah.fnF func326 results326 ntmps326 rfl rfl rfl (by simp[AV.ids,AV0.ids,Atom.ids]) rfl (fun w0 T B E0 hB=>?_)
  refine SX.goM ?_;refine aus (o1:=1) (ft:=25) (by kernel_rfl) rfl rfl rfl ?_
  refine SX.goM ?_;refine mI (ak.iT rfl rfl rfl) ?_;exact AV0.imp.refl _
 )
theorem al7{K:Nat}{zs:List Int}(hz:∀z∈zs,z.natAbs < WB ^ K)(hK:K≤100000)(hl:zs.length≤10000):ah prog 326 [.agg (dX iC [iO zs,vI p])] (.agg (mo (lu p (p8 p (zs.map (zmd p)))) 0 true)):=by
 have hl':=hp.lt;have hb1:(p:Int).natAbs < WB ^ 1:=by rw[Nat.pow_one,bB];omega
 have w2:=jU hb1 (Nat.le_refl 1) (by decide)
 obtain⟨z,w1⟩:=oH (v:=iO zs) qD.1 qD.2 (fun h=>by have h':(3:Int)=1:=h;omega)
 have s3:=nV (iO zs);rw[decide_eq_true rfl]at s3;refine ajn hp (b1:=false) (b2:=false) (b3:=true) (ql (fun i=>i != 0) rfl (Nat.le_of_ble_eq_true rfl) fun i v hv=>?_) (ql (fun i=>i != 0) rfl (Nat.le_of_ble_eq_true rfl) fun i v hv=>?_) (ql (fun i=>true) rfl (Nat.le_of_ble_eq_true rfl) fun i v hv=>?_) (.inr ⟨rfl,rfl,rfl⟩) (agG hp hz hK hl)
 ·match i,hv with
  |0,hv=>cases hv;exact fQ w1
  |1,hv=>cases hv;exact fQ w2
 ·match i,hv with
  |0,hv=>cases hv;exact afN (aes fun h=>by have h':(3:Int)=2:=h;omega)
  |1,hv=>cases hv;exact fQ w2
 ·match i,hv with
  |0,hv=>cases hv;exact s3
  |1,hv=>cases hv;exact fQ w2
theorem akO{r c K:Nat}{zs:List Int}(hl:zs.length=r*c)(hr:r≤64)(hc:c≤64)(hz:∀z∈zs,z.natAbs < WB ^ K)(hK1:1≤K)(hB0:1+(r*c+1)*K≤50000)(hKK:K≤10000):ah prog 326 [.agg (dX iC [eF r c (zs.map fun z:Int=>(z:Rat)),vI p])] (.agg (mo (kS p r c (zs.map (zmd p))) 0 true)):=by
 have hl':=hp.lt;have hb1:(p:Int).natAbs < WB ^ 1:=by rw[Nat.pow_one,bB];omega
 have w2:=jU hb1 (Nat.le_refl 1) (by decide)
 obtain⟨z,w1⟩:=oH (v:=eF r c (zs.map fun z:Int=>(z:Rat))) qD.1 qD.2 (fun h=>by have h':(2:Int)=1:=h;omega)
 have s3:=nV (eF r c (zs.map fun z:Int=>(z:Rat)))
 have cW:=xW hl hr hc hz hK1 hB0;refine ajn hp (b1:=false) (b2:=true) (b3:=false) (ql (fun i=>i != 0) rfl (Nat.le_of_ble_eq_true rfl) fun i v hv=>?_) (ql (fun i=>true) rfl (Nat.le_of_ble_eq_true rfl) fun i v hv=>?_) (ql (fun i=>i != 0) rfl (Nat.le_of_ble_eq_true rfl) fun i v hv=>?_) (.inl ⟨rfl,rfl⟩) (ag5 hp hl hr hc hz hK1 hB0 hKK)
 ·match i,hv with
  |0,hv=>cases hv;exact fQ w1
  |1,hv=>cases hv;exact fQ w2
 ·match i,hv with
  |0,hv=>cases hv;exact aaI cW
  |1,hv=>cases hv;exact fQ w2
 ·match i,hv with
  |0,hv=>cases hv;rw[decide_eq_false (fun h=>by have h':(2:Int)=3:=h;omega)]at s3;exact s3
  |1,hv=>cases hv;exact fQ w2
end
theorem ab7{v w r:Vl}{z:Int}(h:ah prog 363 [.agg (vlA v)] (.tup [.agg (zN z),.one (.c (.val (.bool false)))]))(hM:ah prog 326 [.agg (dX iC [v,w])] (.agg (mo r 0 true))):ah prog 246 [.agg (dX iC [v,w])] (.agg (mo r 0 true)):=by
 have cm:=akr (vs:=[w]) h (Nat.le_of_ble_eq_true rfl);refine ah.fnF func246 results246 ntmps246 rfl rfl rfl (by simp[AV.ids,AV0.ids,Atom.ids]) rfl (fun w0 T B E0 hB=>?_)
 refine SX.goM ?_;refine SX.Go1.qR (n:=17) (l:=mo r 0 true) rfl rfl rfl rfl rfl ?_;refine SX.goM ?_;refine mI (ak.iT rfl rfl rfl) ?_;exact AV0.imp.refl _
theorem zK{K:Nat}{zs:List Int}(hz:∀z∈zs,z.natAbs < WB ^ K)(h1:1≤K)(hK:K≤100000)(hl:zs.length≤10000)(hn:pN zs):ah prog 246 [.agg (dX jF (zs.map vI))] (.agg (mo (iO zs) 0 true)):=by
 have cm:=al1 hz h1 hK hl hn;have cp:=aaf (zs:=zs);have h2:decide (jF=jF)=true:=decide_eq_true rfl;refine ah.fnF func246 results246 ntmps246 rfl rfl rfl (by simp[AV.ids,AV0.ids,Atom.ids]) rfl (fun w0 T B E0 hB=>?_)
 refine SX.goM ?_;refine mI (ak.iT rfl rfl rfl) ?_;exact AV0.imp.refl _
abbrev groups:List FuncId:=[241,242,243,244,245,246,247]
abbrev vlZ:List Atom:=[.c (.val (.int .i64 0)),.c (.val (.bool false)),.c (.val (.slice none 0 0)),.c (.val (.bool false)),.c (.val (.slice none 0 0)),.c (.val (.int .i64 0)),.c (.val (.int .i64 0)),.c (.val (.slice none 0 0)),.c (.val (.slice none 0 0)),.c (.val (.int .u64 0)),.c (.val (.int .i64 0)),.c (.val (.int .i64 0)),.c (.val (.slice none 0 0)),.c (.val (.slice none 0 0)),.c (.val (.slice none 0 0))]
theorem uM{t:List UInt8}{vs:List Vl}{r:Vl}{n0:Nat}(htl:t.length≤1000)(hn:n0 < 7)(hl:vs.length≤100000)(hF:∀v∈vs,ah prog 32 [.agg (vlA v)] (.v (.bool true)))
  (c1:ah prog 177 [.v (str sK),.v (str (([32]++t)++[32]))] (.v (.bool true))) (c2:ah prog 177 [.v (str t),.v (str [32])] (.v (.bool false)))
  (hno:∀(k:Nat) f,k < n0→groups[k]? =some f→ah prog f [.agg (dX t vs)] (.agg aa7)) (hyes:∀f,groups[n0]? =some f→ah prog f [.agg (dX t vs)] (.agg (mo r 0 true))):
  ah prog 229 [.v (str t),.r (aA 15 vlE vs)] (.tup [.agg (vlA r),eNo 0]):=by
 have hg:groups.length=7:=rfl;refine ah.fnF func229 results229 ntmps229 rfl rfl rfl (by simp[AV.ids,AV0.ids,Atom.ids]) rfl (fun w0 T B E0 hB=>?_)
 refine SX.goM ?_;refine W.loop (fun k=>k≤vs.length) (fun k=>[(0,.v (str t)),(1,.r (aA 15 vlE vs)),(4,.ptr 4 0),(12,.r (aA 15 vlE vs)),(13,.v (.int .i64 (vs.length:Int))),(14,.v (.int .i64 (k:Int)))]) (fun k=>[(4,.box 50 vlZ)]) (fun k=>vs.length - k) 0 (Nat.zero_le _) (fun k hk=>?_)
 by_cases h:k < vs.length
 ·obtain⟨v,hv⟩:∃v,vs[k]? =some v:=⟨_,zq2 h⟩
  have cF:=hF v (zq4 hv);refine SX.goM ?_;exact W.next (k+1) h (by omega)
 ·obtain rfl:k=vs.length:=by omega
  refine SX.goM ?_;refine SX.Go1.af6 (n:=7) (size:=1) (m:=[.val (.func (.func 241) #[] #[]),.val (.func (.func 242) #[] #[]),.val (.func (.func 243) #[] #[]),.val (.func (.func 244) #[] #[]),.val (.func (.func 245) #[] #[]),.val (.func (.func 246) #[] #[]),.val (.func (.func 247) #[] #[])]) (l:=[.c (.val (.func (.func 241) #[] #[])),.c (.val (.func (.func 242) #[] #[])),.c (.val (.func (.func 243) #[] #[])),.c (.val (.func (.func 244) #[] #[])),.c (.val (.func (.func 245) #[] #[])),.c (.val (.func (.func 246) #[] #[])),.c (.val (.func (.func 247) #[] #[]))]) rfl rfl rfl rfl rfl (by kernel_rfl) rfl rfl ?_
  refine SX.goM ?_;refine W.loop (fun k=>k≤n0) (fun k=>[(4,.ptr 4 0),(8,.ptr 8 0),(36,.r (aA 1 fnC groups)),(37,.v (.int .i64 7)),(38,.v (.int .i64 (k:Int)))]) (fun k=>[(4,.box 50 vlZ),(8,.box 258 (dX t vs))]) (fun k=>n0 - k) 0 (Nat.zero_le _) (fun k hk=>?_)
  obtain⟨f,hf⟩:∃f,groups[k]? =some f:=⟨_,zq2 (by omega)⟩
  by_cases h2:k < n0
  ·have cV:=FnV.val (hno k f h2 hf);refine SX.goM ?_;exact W.next (k+1) h2 (by omega)
  ·obtain rfl:k=n0:=by omega
   have cV:=FnV.val (hyes f hf);refine SX.goM ?_;exact .ok (aC.mk2 (ak.gJ rfl rfl rfl) (ak.tmp rfl))
end
end
end Go.Proofs.YtegehclknhmkgaaGreatDoor