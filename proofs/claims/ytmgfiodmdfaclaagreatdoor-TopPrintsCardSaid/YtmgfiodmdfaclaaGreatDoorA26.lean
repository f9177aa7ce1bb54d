import Derived.Test.YtmgfiodmdfaclaaGreatDoorA19
import Derived.Test.YtmgfiodmdfaclaaGreatDoorA25
import Derived.Test.YtmgfiodmdfaclaaGreatDoorA10
set_option linter.unusedVariables false
set_option linter.unusedSimpArgs false
namespace Go.Proofs.YtmgfiodmdfaclaaGreatDoor
open Go.RowKit QM SX LA
section
abbrev eP(t:List UInt8)(vs:List Vl):List Atom:=[.c (.val (str t)),.c (.sat (ay 15 vlE vs))]
abbrev qh(v:Vl)(e:Int)(b:Bool):List Atom:=[.c (.val (.int .i64 v.k)),.c (.val (.bool v.q.1)),.c (.sat (dJ v.q.2.1)),.c (.val (.bool v.q.2.2.1)),.c (.sat (dJ v.q.2.2.2)),.c (.val (.int .i64 v.r)),.c (.val (.int .i64 v.c)),.c (.sat (ay 4 q4C (v.a.map rq))),.c (.sat (ay 2 z2C (v.po.map rz))),.c (.val (.int .u64 (v.p:Int))),.c (.val (.int .i64 v.fr)),.c (.val (.int .i64 v.fc)),.c (.sat (ay 1 wdC v.fa)),.c (.sat (ay 1 wdC v.ri)),.c (.sat (ay 15 vlC v.li)),.c (.val (.int .i64 e)),.c (.val (.bool b))]
theorem ql{P:Program}{C:Ctx}{st:St}{r:ResultVar}{x y:AV0}(h:aj P st r x)(e:x.imp y):aN C P [r] ⟨.it y,[]⟩ st:= .ok (aB.mk1 (h.imp e))
attribute [local irreducible] IntKind.wrap Go1 Reg WP aQ aR bO bN aN aB aj ah aV Sat
attribute [local irreducible] bS bV bX dx bW qv redS mf PrP qOk zOk vP dL lz vF cq rqv fC dn dI pScale mulV jn sq aH qS zS tS tbS plS mdS
theorem aaG(v:Vl):PureOK Tryz.prog 287 [.agg (vlA v),.v (.int .i64 0)] (.agg (qh v 0 true)):=by
 refine PureOK.fnF Tryz.func287 Tryz.results287 Tryz.ntmps287 rfl rfl rfl (by simp[AV.ids,AV0.ids,Atom.ids]) rfl (fun w0 T B E0 hB=>?_)
 refine SX.goM ?_;refine ql (aj.lC rfl rfl rfl) ?_;exact AV0.imp.refl _
theorem al1(v:Vl):PureOK Tryz.prog 283 [.agg (vlA v)] (.agg (qh v 0 true)):=by
 have c:=aaG v;refine PureOK.fnF Tryz.func283 Tryz.results283 Tryz.ntmps283 rfl rfl rfl (by simp[AV.ids,AV0.ids,Atom.ids]) rfl (fun w0 T B E0 hB=>?_)
 refine SX.goM ?_;refine ql (aj.lC rfl rfl rfl) ?_;exact AV0.imp.refl _
theorem kQ{z:Int}{K:Nat}(hz:z.natAbs < WB ^ K)(h1:1≤K)(hK:K≤100000):PureOK Tryz.prog 368 [.agg (vlA (eF (z:Rat)))] (.tup [.agg (zN z),.one (.c (.val (.bool true)))]):=by
 have cw:=aq3 (RB.ofI hz h1) hK;rw[if_pos (Rat.den_intCast z),decide_eq_true (Rat.den_intCast z),Rat.num_intCast]at cw;refine PureOK.fnF Tryz.func368 Tryz.results368 Tryz.ntmps368 rfl rfl rfl (by simp[AV.ids,AV0.ids,Atom.ids]) rfl (fun w0 T B E0 hB=>?_)
 refine SX.goM ?_;exact .ok (aB.mk2 (aj.gD rfl rfl rfl) (aj.tmp rfl))
theorem oV{v:Vl}(hq:Sm WB v.q.2.1∧Sm WB v.q.2.2.2)(hl:v.q.2.1.length≤100000∧v.q.2.2.2.length≤100000)(hk:¬v.k=1):∃z:Int,PureOK Tryz.prog 368 [.agg (vlA v)] (.tup [.agg (zN z),.one (.c (.val (.bool false)))]):=by
 obtain⟨z,b,h⟩:∃(z:Int) (b:Bool),PureOK Tryz.prog 180 [.agg (q4A (rq v.q))] (.tup [.agg (zN z),.one (.c (.val (.bool b)))]):=⟨_,_,(uq (h:=ZI.raw v.q.1 v.q.2.1) (h':=ZI.raw v.q.2.2.1 v.q.2.2.2)).h (by omega)⟩
 refine⟨z,?_⟩;cases b with
 |true=>
  suffices hs:PureOK Tryz.prog 368 [.agg (vlA v)] (.tup [.agg (zN z),.one (.c (.val (.bool (decide (v.k=1)))))])by rwa [decide_eq_false hk]at hs
  refine PureOK.fnF Tryz.func368 Tryz.results368 Tryz.ntmps368 rfl rfl rfl (by simp[AV.ids,AV0.ids,Atom.ids]) rfl (fun w0 T B E0 hB=>?_)
  refine SX.goM ?_;exact .ok (aB.mk2 (aj.gD rfl rfl rfl) (aj.tmp rfl))
 |false=>
  refine PureOK.fnF Tryz.func368 Tryz.results368 Tryz.ntmps368 rfl rfl rfl (by simp[AV.ids,AV0.ids,Atom.ids]) rfl (fun w0 T B E0 hB=>?_)
  refine SX.goM ?_;exact .ok (aB.mk2 (aj.gD rfl rfl rfl) (aj.tmp rfl))
theorem pz(v:Vl):PureOK Tryz.prog 309 [.agg (vlA v),.v (.int .u8 113)] (.v (.bool (decide (v.k=3)))):=by
 refine PureOK.fnF Tryz.func309 Tryz.results309 Tryz.ntmps309 rfl rfl rfl (by simp[AV.ids,AV0.ids,Atom.ids]) rfl (fun w0 T B E0 hB=>?_)
 refine SX.goM ?_;exact aG rfl
theorem agO(v:Vl):PureOK Tryz.prog 309 [.agg (vlA v),.v (.int .u8 102)] (.v (.bool (decide (v.k=4)))):=by
 refine PureOK.fnF Tryz.func309 Tryz.results309 Tryz.ntmps309 rfl rfl rfl (by simp[AV.ids,AV0.ids,Atom.ids]) rfl (fun w0 T B E0 hB=>?_)
 refine SX.goM ?_;exact aG rfl
theorem ag0(v:Vl):PureOK Tryz.prog 309 [.agg (vlA v),.v (.int .u8 101)] (.v (.bool (decide (v.k=5)))):=by
 refine PureOK.fnF Tryz.func309 Tryz.results309 Tryz.ntmps309 rfl rfl rfl (by simp[AV.ids,AV0.ids,Atom.ids]) rfl (fun w0 T B E0 hB=>?_)
 refine SX.goM ?_;exact aG rfl
theorem gu{v:Vl}{z:Int}{b:Bool}(h:PureOK Tryz.prog 368 [.agg (vlA v)] (.tup [.agg (zN z),.one (.c (.val (.bool b)))])):PureOK Tryz.prog 309 [.agg (vlA v),.v (.int .u8 110)] (.v (.bool b)):=by
 refine PureOK.fnF Tryz.func309 Tryz.results309 Tryz.ntmps309 rfl rfl rfl (by simp[AV.ids,AV0.ids,Atom.ids]) rfl (fun w0 T B E0 hB=>?_)
 refine SX.goM ?_;exact aG rfl
abbrev zmA(r c:Int)(x:CA):List Atom:=[.c (.val (.int .i64 r)),.c (.val (.int .i64 c)),.c x]
theorem aa3{v:Vl}{r c:Int}{R:Rep}{b:Bool}(h:PureOK Tryz.prog 374 [.agg (vlA v)] (.tup [.agg (zmA r c (.sat R)),.one (.c (.val (.bool b)))])):PureOK Tryz.prog 309 [.agg (vlA v),.v (.int .u8 109)] (.v (.bool b)):=by
 refine PureOK.fnF Tryz.func309 Tryz.results309 Tryz.ntmps309 rfl rfl rfl (by simp[AV.ids,AV0.ids,Atom.ids]) rfl (fun w0 T B E0 hB=>?_)
 refine SX.goM ?_;exact aG rfl
theorem af0{v:Vl}{r c:Int}{b:Bool}(h:PureOK Tryz.prog 374 [.agg (vlA v)] (.tup [.agg (zmA r c (.val (.slice none 0 0))),.one (.c (.val (.bool b)))])):PureOK Tryz.prog 309 [.agg (vlA v),.v (.int .u8 109)] (.v (.bool b)):=by
 refine PureOK.fnF Tryz.func309 Tryz.results309 Tryz.ntmps309 rfl rfl rfl (by simp[AV.ids,AV0.ids,Atom.ids]) rfl (fun w0 T B E0 hB=>?_)
 refine SX.goM ?_;exact aG rfl
theorem aef{v:Vl}(hk:¬v.k=2):PureOK Tryz.prog 374 [.agg (vlA v)] (.tup [.agg (zmA 0 0 (.val (.slice none 0 0))),.one (.c (.val (.bool false)))]):=by
 refine PureOK.fnF Tryz.func374 Tryz.results374 Tryz.ntmps374 rfl rfl rfl (by simp[AV.ids,AV0.ids,Atom.ids]) rfl (fun w0 T B E0 hB=>?_)
 refine SX.goM ?_;exact .ok (aB.mk2 (aj.aT rfl rfl rfl) (aj.tmp rfl))
theorem afV{t t2 so:List UInt8}{vs:List Vl}(h:(t==t2)=false):PureOK Tryz.prog 277 [.agg (eP t vs),.v (str t2),.v (str so)] (.v (.bool false)):=by
 have h2:decide (t=t2)=false:=by simpa using h
 refine PureOK.fnF Tryz.func277 Tryz.results277 Tryz.ntmps277 rfl rfl rfl (by simp[AV.ids,AV0.ids,Atom.ids]) rfl (fun w0 T B E0 hB=>?_)
 refine SX.goM ?_;exact aG rfl
theorem uz{t so:List UInt8}{vs:List Vl}(f:Nat→Bool)(hl:vs.length=so.length)(hn:vs.length≤1000000)(hf:∀(i:Nat) v,vs[i]? =some v→PureOK Tryz.prog 309 [.agg (vlA v),.v (.int .u8 ((byt so i).toNat:Int))] (.v (.bool (f i)))):
  PureOK Tryz.prog 277 [.agg (eP t vs),.v (str t),.v (str so)] (.v (.bool ((List.range vs.length).all f))):=by
 have h2:decide (t=t)=true:=decide_eq_true rfl;refine PureOK.fnF Tryz.func277 Tryz.results277 Tryz.ntmps277 rfl rfl rfl (by simp[AV.ids,AV0.ids,Atom.ids]) rfl (fun w0 T B E0 hB=>?_)
 refine SX.goM ?_;refine W.loop (fun k=>k≤vs.length∧(List.range k).all f=true) (fun k=>[(2,.v (str so)),(22,.r (ay 15 vlE vs)),(23,.v (.int .i64 (vs.length:Int))),(24,.v (.int .i64 (k:Int)))]) (fun _=>[]) (fun k=>vs.length - k) 0 ⟨Nat.zero_le _,rfl⟩ (fun k ⟨hk,ha⟩=>?_)
 by_cases hlt:k < vs.length
 ·obtain⟨v,hv⟩:∃v,vs[k]? =some v:=⟨_,List.getElem?_eq_getElem hlt⟩
  have c:=hf k v hv;cases hb:f k with
  |true=>
   rw[hb]at c;refine SX.goM ?_;exact W.next (k+1) ⟨hlt,by rw[List.range_succ,List.all_append,ha];simp[hb]⟩ (by omega)
  |false=>
   rw[hb]at c;refine SX.goM ?_;refine aG ?_;rw[eq_comm,List.all_eq_false];exact⟨k,List.mem_range.2 hlt,by rw[hb];decide⟩
 ·obtain rfl:k=vs.length:=by omega
  refine SX.goM ?_;exact aG ha.symm
end
section
attribute [local irreducible] IntKind.wrap Go1 Reg WP aQ aR bO bN aN aB aj ah aV Sat
attribute [local irreducible] bS bV bX dx bW qv redS mf PrP qOk zOk vP dL lz vF cq rqv fC dn dI pScale mulV jn sq aH qS zS tS tbS plS mdS
theorem agu{t:List UInt8}{vs:List Vl}{i:Nat}{v:Vl}{z:Int}{b:Bool}(hv:vs[i]? =some v)(hi:i≤1000)(h:PureOK Tryz.prog 368 [.agg (vlA v)] (.tup [.agg (zN z),.one (.c (.val (.bool b)))])):PureOK Tryz.prog 280 [.agg (eP t vs),.v (.int .i64 (i:Int))] (.agg (zN z)):=by
 have hl:=jZ hv;refine PureOK.fnF Tryz.func280 Tryz.results280 Tryz.ntmps280 rfl rfl rfl (by simp[AV.ids,AV0.ids,Atom.ids]) rfl (fun w0 T B E0 hB=>?_)
 refine SX.goM ?_;exact nC (aj.gD rfl rfl rfl) rfl
theorem arA{t:List UInt8}{vs:List Vl}{i:Nat}{v:Vl}{r c:Int}{R:Rep}{b:Bool}(hv:vs[i]? =some v)(hi:i≤1000)(h:PureOK Tryz.prog 374 [.agg (vlA v)] (.tup [.agg (zmA r c (.sat R)),.one (.c (.val (.bool b)))])):PureOK Tryz.prog 286 [.agg (eP t vs),.v (.int .i64 (i:Int))] (.agg (zmA r c (.sat R))):=by
 have hl:=jZ hv;refine PureOK.fnF Tryz.func286 Tryz.results286 Tryz.ntmps286 rfl rfl rfl (by simp[AV.ids,AV0.ids,Atom.ids]) rfl (fun w0 T B E0 hB=>?_)
 refine SX.goM ?_;exact nC (aj.aT rfl rfl rfl) rfl
theorem acG{z:Int}(h1: -1073741824≤z)(h2:z≤1073741824):PureOK Tryz.prog 279 [.agg (zN z)] (.v (.int .i64 z)):=by
 haveI:Bd z 1:=⟨asV (by omega) (by omega)⟩
 have c:=as5 (l:=zN z) (z:=z) (k:=1) (by decide)
 have e1:nL z=true:=by
  unfold nL;rw[decide_eq_true (by omega),decide_eq_true (by omega)];rfl
 have e2:uh z=z:=by unfold uh;rw[e1];rfl
 rw[e1,e2]at c;refine PureOK.fnF Tryz.func279 Tryz.results279 Tryz.ntmps279 rfl rfl rfl (by simp[AV.ids,AV0.ids,Atom.ids]) rfl (fun w0 T B E0 hB=>?_)
 refine SX.goM ?_;exact gV rfl
theorem amW{r c:Nat}(hr:r≤64)(hc:c≤64):PureOK Tryz.prog 278 [.v (.int .i64 (r:Int)),.v (.int .i64 (c:Int))] (.tup [.agg (zh r c (lH c (fun _ _=>0) r)),eNo 0]):=by
 have s1:=(sO (r:Int)).h trivial;have s2:=(sO (c:Int)).h trivial;rw[decide_eq_true (show 0≤(r:Int)∧(r:Int)≤64 by omega)]at s1
 rw[decide_eq_true (show 0≤(c:Int)∧(c:Int)≤64 by omega)]at s2
 have c0:∀i k:Nat,PureOK Tryz.prog 367 [.v (.int .i64 (i:Int)),.v (.int .i64 (k:Int))] (.agg (z2A (false,dJ []))):=fun i k=>by
  refine PureOK.fnF Tryz.func367 Tryz.results367 Tryz.ntmps367 rfl rfl rfl (by simp[AV.ids,AV0.ids,Atom.ids]) rfl (fun w0 T B E0 hB=>?_)
  refine SX.goM ?_;refine uj (aj.gD rfl rfl rfl) ?_;exact lX ⟨aD.refl _,aD.tN,trivial⟩
 have cM:=zo (akw r c (.sat (dM 367 [] [])) (fun _ _=>(false,dJ [])) (fun _ _=>0) 1 (by omega) (by omega) (by decide) (fun i k _ _=>FnV.const (c0 i k)) (fun i k _ _=>ZQ.raw (b:=false) (l:=[]) Sm.nil (by decide)) rfl)
 refine PureOK.fnF Tryz.func278 Tryz.results278 Tryz.ntmps278 rfl rfl rfl (by simp[AV.ids,AV0.ids,Atom.ids]) rfl (fun w0 T B E0 hB=>?_)
 refine SX.goM ?_;exact .ok (aB.mk2 (aj.aT rfl rfl rfl) (aj.tmp rfl))
theorem asT(r c:Nat)(zs:List Int):zh r c zs=afL r c (zs.map z2v):=by
 show [_,_,Atom.c (.sat (aI 2 zs.length (zs.flatMap zC)))]=[_,_,Atom.c (.sat (aI 2 (zs.map z2v).length ((zs.map z2v).flatMap z2C)))];rw[List.length_map,List.flatMap_map]
theorem asf(z:Int):qv z 1=(z:Rat):=by unfold qv;grind
theorem akP{c r:Nat}{l:List Rat}{val:Nat→Nat→Rat}(hl:l.length=r*c)(h:∀i k,i < r→k < c→l[i*c+k]? =some (val i k)):mF c val r=l:=by
 refine List.ext_getElem? fun n=>?_
 by_cases hn:n < r*c
 ·have hc:0 < c:=Nat.pos_of_ne_zero (by rintro rfl;simp at hn)
  have h1:n / c < r:=Nat.div_lt_of_lt_mul (by rwa [Nat.mul_comm]at hn)
  have h2:=Nat.mod_lt n hc;have e:n=n / c*c+n % c:=by rw[Nat.mul_comm];exact(Nat.div_add_mod n c).symm
  rw[e,adA h2 h1,h _ _ h1 h2]
 ·rw[List.getElem?_eq_none (by rw[mQ];omega),List.getElem?_eq_none (by omega)]
theorem amS{r c:Nat}{zs:List Int}(hl:zs.length=r*c):mF c (fun i k=>qv (zat zs c i k) 1) r=zs.map fun z:Int=>(z:Rat):=by
 refine akP (by rw[List.length_map];exact hl) fun i k hi hk=>?_
 rw[List.getElem?_map,adb hl hi hk,asf];rfl
theorem akz{r c K:Nat}{zs:List Int}(hl:zs.length=r*c)(hr:r≤64)(hc:c≤64)(hz:∀z∈zs,z.natAbs < WB ^ K)(hK:K≤10000)(hK1:1≤K):PureOK Tryz.prog 289 [.agg (zh r c zs)] (.agg (vlA (gP r c (zs.map fun z:Int=>(z:Rat))))):=by
 have cF:=anD (MZ.made hz) (by rw[List.length_map];exact hl) hr hc hK hK1
 rw[←asT,amS hl,abP]at cF;have hb:∀x∈zs.map (fun z:Int=>(z:Rat)),RB x K:=fun x hx=>by
  obtain⟨z,hz',rfl⟩:=List.mem_map.1 hx;exact RB.ofI (hz z hz') hK1
 have cM:=abr (r:=r) (c:=c) (MV.made hb) (by rw[List.length_map,List.length_map];exact hl) hr hc (by omega)
 refine PureOK.fnF Tryz.func289 Tryz.results289 Tryz.ntmps289 rfl rfl rfl (by simp[AV.ids,AV0.ids,Atom.ids]) rfl (fun w0 T B E0 hB=>?_)
 refine SX.goM ?_;refine uj (aj.fD rfl rfl rfl) ?_;exact AV0.imp.refl _
theorem adX{r c K:Nat}{zs:List Int}(hl:zs.length=r*c)(hr:r≤64)(hc:c≤64)(hz:∀z∈zs,z.natAbs < WB ^ K)(hK:K≤10000)(hK1:1≤K):PureOK Tryz.prog 281 [.agg (zh r c zs),.v (.int .i64 0)] (.agg (qh (gP r c (zs.map fun z:Int=>(z:Rat))) 0 true)):=by
 have cT:=akz hl hr hc hz hK hK1;have cD:=aaG (gP r c (zs.map fun z:Int=>(z:Rat)))
 refine PureOK.fnF Tryz.func281 Tryz.results281 Tryz.ntmps281 rfl rfl rfl (by simp[AV.ids,AV0.ids,Atom.ids]) rfl (fun w0 T B E0 hB=>?_)
 refine SX.goM ?_;refine ql (aj.lC rfl rfl rfl) ?_;exact AV0.imp.refl _
abbrev lT:List UInt8:=[122,101,114,111]
abbrev jY:List UInt8:=[112,111,108,121]
abbrev iL:List UInt8:=[109,111,100]
abbrev vI(z:Int):Vl:=eF (z:Rat)
theorem zy{r:Nat}(h:r≤64):(r:Int).natAbs < WB ^ 1:=by rw[Nat.pow_one,aX];omega
theorem aay{r c:Nat}(hr:r≤64)(hc:c≤64):PureOK Tryz.prog 238 [.agg (eP lT [vI r,vI c])] (.agg (qh (gP r c ((lH c (fun _ _=>0) r).map fun z:Int=>(z:Rat))) 0 true)):=by
 have w1:=kQ (zy hr) (Nat.le_refl 1) (by decide)
 have w2:=kQ (zy hc) (Nat.le_refl 1) (by decide)
 have cA:PureOK Tryz.prog 277 [.agg (eP lT [vI r,vI c]),.v (str lT),.v (str [110,110])] (.v (.bool true)):=uz (fun _=>true) rfl (Nat.le_of_ble_eq_true rfl) (fun i v hv=>by
  match i,hv with
  |0,hv=>cases hv;exact gu w1
  |1,hv=>cases hv;exact gu w2)
 have n1:PureOK Tryz.prog 280 [.agg (eP lT [vI r,vI c]),.v (.int .i64 0)] (.agg (zN (r:Int))):=agu (i:=0) rfl (by decide) w1
 have n2:PureOK Tryz.prog 280 [.agg (eP lT [vI r,vI c]),.v (.int .i64 1)] (.agg (zN (c:Int))):=agu (i:=1) rfl (by decide) w2
 have s1:=acG (z:=(r:Int)) (by omega) (by omega)
 have s2:=acG (z:=(c:Int)) (by omega) (by omega)
 have cN:=amW hr hc;have cM:=adX (r:=r) (c:=c) (K:=1) (zs:=lH c (fun _ _=>0) r) (vD ..) hr hc (aq4 fun _ _ _ _=>by rw[Nat.pow_one,aX];decide) (by decide) (by decide)
 refine PureOK.fnF Tryz.func238 Tryz.results238 Tryz.ntmps238 rfl rfl rfl (by simp[AV.ids,AV0.ids,Atom.ids]) rfl (fun w0 T B E0 hB=>?_)
 refine SX.goM ?_;refine ql (aj.lC rfl rfl rfl) ?_;exact AV0.imp.refl _
theorem akS{K:Nat}{zs:List Int}(hz:∀z∈zs,z.natAbs < WB ^ K)(h1:1≤K)(hK:K≤100000)(hl:zs.length≤10000)(hn:pN zs):PureOK Tryz.prog 323 [.r (ay 15 vlE (zs.map vI))] (.tup [.one (.c (.sat (ay 2 z2C (zs.map z2v)))),.one (.c (.val (.bool true)))]):=by
 have e0:(zs.map vI).length=zs.length:=List.length_map _;have e1:(zs.map z2v).length=zs.length:=List.length_map _;have cN:=apy (MZ.made hz) (by omega) (by omega) hn
 refine PureOK.fnF Tryz.func323 Tryz.results323 Tryz.ntmps323 rfl rfl rfl (by simp[AV.ids,AV0.ids,Atom.ids]) rfl (fun w0 T B E0 hB=>?_)
 refine SX.goM ?_;refine W.loop (fun k=>k≤zs.length) (fun k=>[(4,.own 100),(9,.r (ay 15 vlE (zs.map vI))),(10,.v (.int .i64 (zs.length:Int))),(11,.v (.int .i64 (k:Int)))]) (fun k=>[(100,.row 25 2 k (((zs.take k).map z2v).flatMap z2C))]) (fun k=>zs.length - k) 0 (Nat.zero_le _) (fun k hk=>?_)
  (by
   refine SX.St.aW [(100,none)] (by intro b h;cases h) ?_ ?_ rfl
   ·repeat(first|exact trivial|refine⟨⟨_,rfl,SX.aC.same rfl⟩,?_⟩|refine⟨⟨_,rfl,SX.aC.nil rfl⟩,?_⟩|refine⟨⟨_,rfl,SX.aC.int (by omega)⟩,?_⟩)
   ·exact⟨SX.ak.bU rfl,trivial⟩)
 by_cases h:k < zs.length
 ·obtain⟨z,hzk⟩:∃z,zs[k]? =some z:=⟨_,List.getElem?_eq_getElem h⟩
  have hv:(zs.map vI)[k]? =some (vI z):=by rw[List.getElem?_map,hzk];rfl
  have h':k < (zs.map vI).length:=by omega
  have cw:=kQ (hz z (List.mem_of_getElem? hzk)) h1 hK;have e2:=xH (enc:=z2C) (f:=z2v) hzk;refine SX.goM ?_;refine W.next (k+1) h (by omega) (by
   refine SX.St.aW [(100,some 25)] (by intro b h;cases h) ?_ ?_ rfl
   ·repeat(first|exact trivial|refine⟨⟨_,rfl,SX.aC.same rfl⟩,?_⟩|refine⟨⟨_,rfl,SX.aC.own rfl⟩,?_⟩)
   ·exact⟨SX.ak.row rfl rfl rfl e2,trivial⟩)
 ·obtain rfl:k=zs.length:=by omega
  rw[List.take_length];rw[←e1];refine SX.WP.freeze 100 hB rfl ?_;refine SX.goM ?_;exact .ok (aB.mk2 (aj.tmp rfl) (aj.tmp rfl))
end
section
section
def zmd(p:Nat)(z:Int):Nat:=(z % (p:Int)).toNat
theorem ahd{p:Nat}(h:PrP p)(z:Int):zmd p z < p:=by
 have:=h.lt;have h1:=Int.emod_nonneg z (show (p:Int)≠0 by omega)
 have h2:=Int.emod_lt_of_pos z (show (0:Int) < p by omega)
 unfold zmd;omega
theorem al4{p x:Nat}(h:x < p):zmd p (x:Int)=x:=by
 unfold zmd;rw[Int.emod_eq_of_lt (by omega) (by omega)];rfl
attribute [local irreducible] IntKind.wrap Go1 Reg WP aQ aR bO bN aN aB aj ah aV Sat
attribute [local irreducible] bS bV bX dx bW qv redS mf PrP qOk zOk vP dL lz vF cq rqv fC dn dI pScale mulV jn sq aH qS zS tS tbS plS mdS zmd
theorem afd{l l':List Atom}{x y:Int}{k m:Nat}[h:ZI l x k][h':ZI l' y m](hy:0 < y)(hk:k+m≤1000000):PureOK Tryz.prog 428 [.agg l,.agg l'] (.tup [.agg (zN (x % y)),.one (.c (.val (.bool true)))]):=by
 refine z2 ⟨_,Tryz.func428,rfl,rfl⟩ fun neg n neg2 n2 hz hz2 hn hn2=>?_
 have cS:=yF (l:=zR neg2 n2 m) (z:=sgn neg2 n2) (k:=m) (by omega)
 have cE:=apX (l:=zR neg n k) (l':=zR neg2 n2 m) (x:=sgn neg n) (y:=sgn neg2 n2) (k:=k) (m:=m) (by omega)
 rw[←hz2]at cS;rw[←hz,←hz2]at cE;have e1:zer x y=x % y:=by unfold zer;rw[if_neg (by omega)]
 rw[e1,decide_eq_true (show y≠0 by omega)]at cE
 have hs:¬aU y≤0:=by unfold aU;rw[if_neg (by omega),if_neg (by omega)];omega
 refine PureOK.fnF Tryz.func428 Tryz.results428 Tryz.ntmps428 rfl rfl rfl (by simp[AV.ids,AV0.ids,Atom.ids]) rfl (fun w0 T B E0 hB=>?_)
 refine SX.goM ?_;exact .ok (aB.mk2 (aj.gD rfl rfl rfl) (aj.tmp rfl))
theorem afJ{p:Nat}(hp:PrP p){b:Bool}{R:Rep}{n k:Nat}(h:NI (.sat R) n k)(hk:k≤100000):PureOK Tryz.prog 327 [.agg (gfA p),.agg [.c (.val (.bool b)),.c (.sat R)]] (.v (.int .u64 ((zmd p (sgn b n):Nat):Int))):=by
 have hl:=hp.lt;have cP:=z8 hp;have hpW:p < WB:=by rw[aX];omega
 have cO:=nOf p hpW
 haveI i1:BdN p 1:=⟨by rw[Nat.pow_one];exact hpW⟩
 have cF:=qF (a:= .sat (bB p)) (x:=p) (k:=1) false (by omega)
 rw[show sgn false p=(p:Int)from rfl]at cF
 haveI i2:=ZI.mk' (neg:=b) h
 have cM:=afd (l:=[.c (.val (.bool b)),.c (.sat R)]) (l':=zN (p:Int)) (x:=sgn b n) (y:=(p:Int)) (k:=k) (m:=1) (by omega) (by omega)
 have hlt:=ahd hp (sgn b n);have e1:(sgn b n % (p:Int)).natAbs=zmd p (sgn b n):=by
  have:=Int.emod_nonneg (sgn b n) (show (p:Int)≠0 by omega)
  unfold zmd;omega
 haveI i3:BdN (sgn b n % (p:Int)).natAbs 1:=⟨by rw[Nat.pow_one,e1];omega⟩
 have cW:PureOK Tryz.prog 154 [.it (.one (.c (.sat (bB (sgn b n % (p:Int)).natAbs))))] (.tup [.one (.c (.val (.int .u64 ((zmd p (sgn b n):Nat):Int)))),.one (.c (.val (.bool true)))]):=by
  have h:=aja (a:= .sat (bB (sgn b n % (p:Int)).natAbs)) (x:=(sgn b n % (p:Int)).natAbs) (k:=1) (by omega)
  rw[if_pos (by rw[e1];omega),decide_eq_true (by rw[e1];omega)]at h
  rwa [←e1]
 refine PureOK.fnF Tryz.func327 Tryz.results327 Tryz.ntmps327 rfl rfl rfl (by simp[AV.ids,AV0.ids,Atom.ids]) rfl (fun w0 T B E0 hB=>?_)
 refine SX.goM ?_;exact gV rfl
theorem afl{p:Nat}(hp:PrP p){l:List Z2}{zs:List Int}{K:Nat}(hM:MZ l zs K)(hK:K≤100000)(hl:l.length≤10000):PureOK Tryz.prog 507 [.r (ay 2 z2C l),.agg (gfA p)] (.r (ay 1 wdC (qm p (zs.map (zmd p))))):=by
 have hpl:=hp.lt;have hlen:=hM.len;have e1:(zs.map (zmd p)).length=l.length:=by rw[List.length_map,hlen]
 have cN:=ajU hp (l:=zs.map (zmd p)) (by omega) (fun x hx=>by
  obtain⟨z,_,rfl⟩:=List.mem_map.1 hx;have:=ahd hp z;omega)
 refine PureOK.fnF Tryz.func507 Tryz.results507 Tryz.ntmps507 rfl rfl rfl (by simp[AV.ids,AV0.ids,Atom.ids]) rfl (fun w0 T B E0 hB=>?_)
 refine SX.goM ?_;refine W.loop (fun k=>k≤l.length) (fun k=>[(3,.ptr 3 0),(5,.own 100),(8,.r (ay 2 z2C l)),(9,.v (.int .i64 (l.length:Int))),(10,.v (.int .i64 (k:Int)))]) (fun k=>[(3,.box 103 (gfA p)),(100,.row 33 1 k (((zs.take k).map (zmd p)).flatMap wdC))]) (fun k=>l.length - k) 0 (Nat.zero_le _) (fun k hk=>?_)
  (by
   refine SX.St.aW [(100,none)] (by intro b h;cases h) ?_ ?_ rfl
   ·repeat(first|exact trivial|refine⟨⟨_,rfl,SX.aC.same rfl⟩,?_⟩|refine⟨⟨_,rfl,SX.aC.nil rfl⟩,?_⟩|refine⟨⟨_,rfl,SX.aC.int (by omega)⟩,?_⟩)
   ·exact⟨SX.ak.same rfl rfl,SX.ak.bU rfl,trivial⟩)
 by_cases h:k < l.length
 ·obtain⟨q,hq⟩:∃q,l[k]? =some q:=⟨_,List.getElem?_eq_getElem h⟩
  obtain⟨z,hzk⟩:∃z,zs[k]? =some z:=⟨_,List.getElem?_eq_getElem (by omega)⟩
  obtain⟨n,k',hz,hn,hk'⟩:=(hM.z k q z hq hzk).h;have cO:=afJ hp (b:=q.1) hn (by omega)
  rw[←hz]at cO;have e2:=xH (enc:=wdC) (f:=zmd p) hzk;refine SX.goM ?_;refine W.next (k+1) h (by omega) (by
   refine SX.St.aW [(100,some 19)] (by intro b h;cases h) ?_ ?_ rfl
   ·repeat(first|exact trivial|refine⟨⟨_,rfl,SX.aC.same rfl⟩,?_⟩|refine⟨⟨_,rfl,SX.aC.own rfl⟩,?_⟩)
   ·exact⟨SX.ak.same rfl rfl,SX.ak.row rfl rfl rfl e2,trivial⟩)
 ·obtain rfl:k=l.length:=by omega
  rw[hlen,List.take_length,←hlen,←e1];refine SX.WP.freeze 100 hB rfl ?_;refine SX.goM ?_;exact nC (aj.tmp rfl) rfl
abbrev ptrZm(r c:Nat)(l:List Z2):AV:= .r (bK [.val (.int .i64 (r:Int)),.val (.int .i64 (c:Int)),.sat (ay 2 z2C l)])
theorem aiv{c:Nat}{val:Nat→Nat→Nat}{k:Nat}(hk:k < c):∀{r i:Nat},i < r→(qg c val r)[i*c+k]? =some (val i k)
 |0,i,h=>absurd h (Nat.not_lt_zero _)
 |r+1,i,h=>by
  rw[xV];by_cases hi:i < r
  ·rw[List.getElem?_append_left (by rw[oG];exact yB hi hk)]
   exact aiv hk hi
  ·obtain rfl:i=r:=by omega
   rw[List.getElem?_append_right (by rw[oG];omega),oG,Nat.add_sub_cancel_left,List.getElem?_map,List.getElem?_range hk];rfl
theorem akQ{c r:Nat}{l:List Nat}{val:Nat→Nat→Nat}(hl:l.length=r*c)(h:∀i k,i < r→k < c→l[i*c+k]? =some (val i k)):qg c val r=l:=by
 refine List.ext_getElem? fun n=>?_
 by_cases hn:n < r*c
 ·have hc:0 < c:=Nat.pos_of_ne_zero (by rintro rfl;simp at hn)
  have h1:n / c < r:=Nat.div_lt_of_lt_mul (by rwa [Nat.mul_comm]at hn)
  have h2:=Nat.mod_lt n hc;have e:n=n / c*c+n % c:=by rw[Nat.mul_comm];exact(Nat.div_add_mod n c).symm
  rw[e,aiv h2 h1,h _ _ h1 h2]
 ·rw[List.getElem?_eq_none (by rw[oG];omega),List.getElem?_eq_none (by omega)]
theorem ajL{p:Nat}(hp:PrP p){r c K:Nat}{zs:List Int}(hl:zs.length=r*c)(hr:r≤64)(hc:c≤64)(hz:∀z∈zs,z.natAbs < WB ^ K)(hK:K≤10000):PureOK Tryz.prog 508 [.agg (gfA p),.agg (zh r c zs)] (.tup [.agg (fmA r c (zs.map (zmd p))),eNo 0]):=by
 have hpl:=hp.lt;have hl2:(zs.map z2v).length=r*c:=by rw[List.length_map];exact hl
 have cF:=ah4 (cells:=(zs.map z2v).flatMap z2C) (oW.nat hr hc hl2);have c1:∀i k,i < r→k < c→PureOK Tryz.prog 572 [.v (.int .i64 (i:Int)),.v (.int .i64 (k:Int)),ptrP p,ptrZm r c (zs.map z2v)] (.v (.int .u64 ((zmd p (zat zs c i k):Nat):Int))):=fun i k hi hk=>by
  have cA:=aiy (r:=r) (c:=c) (MZ.made hz) hl2 hr hc hi hk (by omega)
  have hb:=hz _ (List.mem_of_getElem? (adb hl hi hk));generalize zat zs c i k=z at*
  haveI i1:BdN z.natAbs K:=⟨hb⟩
  have cO:=afJ hp (b:=decide (z < 0)) (R:=bB z.natAbs) (NI.aaL hb) (by omega)
  rw[afP]at cO;refine PureOK.fnF Tryz.func572 Tryz.results572 Tryz.ntmps572 rfl rfl rfl (by simp[AV.ids,AV0.ids,Atom.ids]) rfl (fun w0 T B E0 hB=>?_)
  refine SX.goM ?_;exact gV rfl
 have cM:=ajZ hp r c (.sat (dM 572 [] [.sat (bK [.val (.int .u64 (p:Int))]),.sat (bK [.val (.int .i64 (r:Int)),.val (.int .i64 (c:Int)),.sat (ay 2 z2C (zs.map z2v))])])) (fun i k=>zmd p (zat zs c i k)) (by omega) (by omega)
  (fun i k hi hk=>FnV.clo (c1 i k hi hk)) (fun i k _ _=>ahd hp _) rfl
 rw[akQ (l:=zs.map (zmd p)) (by rw[List.length_map];exact hl) (fun i k hi hk=>by rw[List.getElem?_map,adb hl hi hk];rfl)]at cM
 rw[ajX];refine PureOK.fnF Tryz.func508 Tryz.results508 Tryz.ntmps508 rfl rfl rfl (by simp[AV.ids,AV0.ids,Atom.ids]) rfl (fun w0 T B E0 hB=>?_)
 refine SX.goM ?_;refine SX.WP.eX 2 hB rfl rfl ?_;refine SX.WP.eX 3 hB rfl rfl ?_;refine SX.WP.dh ?_;refine SX.goM ?_;exact .ok (aB.mk2 (aj.aT rfl rfl rfl) (aj.tmp rfl))
theorem alJ(p:Nat)(l:List Nat):PureOK Tryz.prog 318 [.v (.int .u64 (p:Int)),.r (ay 1 wdC l)] (.agg (vlA (lN p l))):=by
 refine PureOK.fnF Tryz.func318 Tryz.results318 Tryz.ntmps318 rfl rfl rfl (by simp[AV.ids,AV0.ids,Atom.ids]) rfl (fun w0 T B E0 hB=>?_)
 refine SX.goM ?_;refine uj (aj.fD rfl rfl rfl) ?_;exact lX ⟨aD.refl _,aD.refl _,aD.tN,aD.refl _,aD.tN,aD.refl _,aD.refl _,aD.nil,aD.nil,aD.refl _,aD.refl _,aD.refl _,aD.nil,aD.refl _,aD.nil,trivial⟩
theorem akv(p r c:Nat)(l:List Nat):PureOK Tryz.prog 312 [.v (.int .u64 (p:Int)),.agg (fmA r c l)] (.agg (vlA (lI p r c l))):=by
 refine PureOK.fnF Tryz.func312 Tryz.results312 Tryz.ntmps312 rfl rfl rfl (by simp[AV.ids,AV0.ids,Atom.ids]) rfl (fun w0 T B E0 hB=>?_)
 refine SX.goM ?_;refine uj (aj.fD rfl rfl rfl) ?_;exact lX ⟨aD.refl _,aD.refl _,aD.tN,aD.refl _,aD.tN,aD.refl _,aD.refl _,aD.nil,aD.nil,aD.refl _,aD.refl _,aD.refl _,aD.refl _,aD.nil,aD.nil,trivial⟩
end
section
def xO:List UInt8:=[32,122,101,114,111,32,105,100,32,116,114,97,110,115,112,111,115,101,32,114,111,119,115,32,99,111,108,115,32,100,101,116,32,105,110,118,32,114,97,110,107,32,116,114,97,99,101,32,97,100,106,32,104,110,102,32,109,111,100,104,110,102,32,115,110,102,32,107,101,114,110,101,108,32,105,109,97,103,101,32,115,97,116,117,114,97,116,101,32,115,111,108,118,101,32,108,108,108,32,99,104,97,114,32,109,105,110,32,102,114,111,98,32,105,110,118,97,114,105,97,110,116,115,32,99,111,109,112,97,110,105,111,110,32,112,111,108,121,32,109,111,100,32,108,105,102,116,32,100,101,103,32,101,118,97,108,32,100,101,114,105,118,101,32,103,99,100,32,120,103,99,100,32,102,108,111,111,114,32,114,111,117,110,100,32,97,98,115,32,110,117,109,32,100,101,110,32,112,114,105,109,101,32,99,114,116,32,112,111,119,109,111,100,32,108,101,110,32,102,97,99,116,111,114,115,32]
abbrev fnC(f:FuncId):List CA:=[.val (.func (.func f) #[] #[])]
instance:dU fnC 1:=⟨fun _=>rfl⟩
theorem FnV.val{P:Program}{f:FuncId}{args:List AV}{r:AV}(h:PureOK P f args r):FnV P (.val (.func (.func f) #[] #[])) args r:=by
 intro S w v hv;cases hv;exact⟨f,[],[],[],[],rfl,fun E=>trivial,fun E=>trivial,by simpa using h⟩
theorem gY{s t:List UInt8}{b:Bool}(hs:s.length < 4294967281)(hb:Lib.contains s t=b):PureOK Tryz.prog 164 [.v (str s),.v (str t)] (.v (.bool b)):=by
 refine⟨⟨_,Tryz.func164,rfl,rfl⟩,fun E S w vs hl hg hv _ _ _=>?_⟩
 match vs,hv with
 |[x,y],⟨h1,h2,_⟩=>
  have h1':x=str s:=h1;have h2':y=str t:=h2;subst h1' h2';obtain⟨_,_,m,hm⟩:=hg.2 0 (by simp[globI])
  refine(Tryz.strings_Contains ⟨⟨s⟩⟩ ⟨⟨t⟩⟩ m w hs hm).mono ?_;rintro e w' ⟨rfl,rfl⟩;refine⟨_,E,S,rfl,{env:=fun _ _=>⟨rfl,rfl⟩,fpe:=fun _ _=>rfl,sub:=fun _ h=>h,new:=fun _ h=> .inl h,lt:=hl,off:=Off.refl _ _,res:=?_,ents:=fun _ _ h=>(by cases h),blk:=fun _ _ _ h=>(by cases h),sep:=fun _ _ _ _ _ _ h=>(by cases h)}⟩
  show Value.bool (Lib.contains s t)=Value.bool b;rw[hb]
instance con_asI(t t2 so:List UInt8)(vs:List Vl):Con Tryz.prog 277 [.agg (eP t vs),.v (str t2),.v (str so)] ((t==t2)=false) (.v (.bool false)):=⟨fun h=>afV h⟩
attribute [local irreducible] IntKind.wrap Go1 Reg WP aQ aR bO bN aN aB aj ah aV Sat
attribute [local irreducible] bS bV bX dx bW qv redS mf PrP qOk zOk vP dL lz vF cq rqv fC dn dI pScale mulV jn sq aH qS zS tS tbS plS mdS zmd
abbrev aeT:List Atom:=qh v0 0 false
theorem acn{P:Program}{C:Ctx}{st:St}{r:ResultVar}(h:aj P st r (.agg [.c (.val (.int .i64 0)),.c (.val (.bool false)),.c (.val (.slice none 0 0)),.c (.val (.bool false)),.c (.val (.slice none 0 0)),.c (.val (.int .i64 0)),.c (.val (.int .i64 0)),.c (.val (.slice none 0 0)),.c (.val (.slice none 0 0)),.c (.val (.int .u64 0)),.c (.val (.int .i64 0)),.c (.val (.int .i64 0)),.c (.val (.slice none 0 0)),.c (.val (.slice none 0 0)),.c (.val (.slice none 0 0)),.c (.val (.int .i64 0)),.c (.val (.bool false))])):aN C P [r] ⟨.it (.agg aeT),[]⟩ st:=
 ql h (lX ⟨aD.refl _,aD.refl _,aD.tN,aD.refl _,aD.tN,aD.refl _,aD.refl _,aD.nil,aD.nil,aD.refl _,aD.refl _,aD.refl _,aD.nil,aD.nil,aD.nil,aD.refl _,aD.refl _,trivial⟩)
theorem aeh{t:List UInt8}{vs:List Vl}(ht:t=jY∨t=iL):PureOK Tryz.prog 238 [.agg (eP t vs)] (.agg aeT):=by
 rcases ht with rfl|rfl <;> (
  refine PureOK.fnF Tryz.func238 Tryz.results238 Tryz.ntmps238 rfl rfl rfl (by simp[AV.ids,AV0.ids,Atom.ids]) rfl (fun w0 T B E0 hB=>?_)
  refine SX.goM ?_;exact acn (aj.lC rfl rfl rfl)
 )
theorem afj{t:List UInt8}{vs:List Vl}(ht:t=jY∨t=iL):PureOK Tryz.prog 239 [.agg (eP t vs)] (.agg aeT):=by
 rcases ht with rfl|rfl <;> (
  refine PureOK.fnF Tryz.func239 Tryz.results239 Tryz.ntmps239 rfl rfl rfl (by simp[AV.ids,AV0.ids,Atom.ids]) rfl (fun w0 T B E0 hB=>?_)
  refine SX.goM ?_;exact acn (aj.lC rfl rfl rfl)
 )
theorem aaz{t:List UInt8}{vs:List Vl}(ht:t=jY∨t=iL):PureOK Tryz.prog 240 [.agg (eP t vs)] (.agg aeT):=by
 rcases ht with rfl|rfl <;> (
  refine PureOK.fnF Tryz.func240 Tryz.results240 Tryz.ntmps240 rfl rfl rfl (by simp[AV.ids,AV0.ids,Atom.ids]) rfl (fun w0 T B E0 hB=>?_)
  refine SX.goM ?_;exact acn (aj.lC rfl rfl rfl)
 )
theorem xw{t:List UInt8}{vs:List Vl}(ht:t=jY∨t=iL):PureOK Tryz.prog 241 [.agg (eP t vs)] (.agg aeT):=by
 rcases ht with rfl|rfl <;> (
  refine PureOK.fnF Tryz.func241 Tryz.results241 Tryz.ntmps241 rfl rfl rfl (by simp[AV.ids,AV0.ids,Atom.ids]) rfl (fun w0 T B E0 hB=>?_)
  refine SX.goM ?_;exact acn (aj.lC rfl rfl rfl)
 )
theorem acy{t:List UInt8}{vs:List Vl}(h:vs.length≠1)(hl:vs.length≤100000):PureOK Tryz.prog 242 [.agg (eP t vs)] (.agg aeT):=by
 refine PureOK.fnF Tryz.func242 Tryz.results242 Tryz.ntmps242 rfl rfl rfl (by simp[AV.ids,AV0.ids,Atom.ids]) rfl (fun w0 T B E0 hB=>?_)
 refine SX.goM ?_;exact acn (aj.lC rfl rfl rfl)
theorem agH{t:List UInt8}{v:Vl}(h:¬v.k=4∧¬v.k=5):PureOK Tryz.prog 242 [.agg (eP t [v])] (.agg aeT):=by
 have hv:[v][0]? =some v:=rfl;have c1:=agO v;have c2:=ag0 v;rw[decide_eq_false h.1]at c1;rw[decide_eq_false h.2]at c2;refine PureOK.fnF Tryz.func242 Tryz.results242 Tryz.ntmps242 rfl rfl rfl (by simp[AV.ids,AV0.ids,Atom.ids]) rfl (fun w0 T B E0 hB=>?_)
 refine SX.goM ?_;exact acn (aj.lC rfl rfl rfl)
theorem aeG{l:List Int}:jd (l.map fun z:Int=>(z:Rat))=1:=by
 refine Nat.dvd_one.1 (agJ fun v hv=>?_)
 obtain⟨z,_,rfl⟩:=List.mem_map.1 hv;rw[Rat.den_intCast];exact Nat.one_dvd 1
theorem amV(l:List Int):vJ (l.map fun z:Int=>(z:Rat))=l:=by
 unfold vJ;rw[aeG,List.map_map];refine(List.map_congr_left fun z _=>?_).trans (List.map_id l)
 show ((z:Rat)*qj ((1:Nat):Int)).num=z;rw[ajl];have:(z:Rat)*(((1:Nat):Int):Rat)=(z:Rat):=by grind
 rw[this];exact Rat.num_intCast z
theorem yM{r c K:Nat}{zs:List Int}(hl:zs.length=r*c)(hr:r≤64)(hc:c≤64)(hz:∀z∈zs,z.natAbs < WB ^ K)(hK1:1≤K)(hB0:1+(r*c+1)*K≤50000):PureOK Tryz.prog 374 [.agg (vlA (gP r c (zs.map fun z:Int=>(z:Rat))))] (.tup [.agg (zmA r c (.sat (ay 2 zC zs))),.one (.c (.val (.bool true)))]):=by
 have hb:∀x∈zs.map (fun z:Int=>(z:Rat)),RB x K:=fun x hx=>by
  obtain⟨z,hz',rfl⟩:=List.mem_map.1 hx;exact RB.ofI (hz z hz') hK1
 have cC:=akn (r:=r) (c:=c) (MV.cq hb) (by rw[List.length_map,List.length_map,List.length_map];exact hl) hr hc hK1 hB0
 rw[aeG,amV]at cC;have o1:=akc
 haveI i1:Bd ((1:Nat):Int) 1:=⟨by rw[Nat.pow_one,aX];decide⟩
 have cS:PureOK Tryz.prog 40 [.agg (zN ((1:Nat):Int)),.agg (zN 1)] (.v (.bool true)):=by
  have h:=ars (l:=zN ((1:Nat):Int)) (l':=zN 1) (x:=((1:Nat):Int)) (y:=1) (k:=1) (m:=1) (by omega)
  rwa [decide_eq_true (by omega)]at h
 refine PureOK.fnF Tryz.func374 Tryz.results374 Tryz.ntmps374 rfl rfl rfl (by simp[AV.ids,AV0.ids,Atom.ids]) rfl (fun w0 T B E0 hB=>?_)
 refine SX.goM ?_;exact .ok (aB.mk2 (aj.aT rfl rfl rfl) (aj.tmp rfl))
section
variable{p:Nat}(hp:PrP p){w:Vl}
include hp
theorem ahk{K:Nat}{zs:List Int}(hz:∀z∈zs,z.natAbs < WB ^ K)(hK:K≤100000)(hl:zs.length≤10000):PureOK Tryz.prog 433 [.agg (eP iL [iW zs,w]),.agg (gfA p)] (.agg (qh (lN p (qm p (zs.map (zmd p)))) 0 true)):=by
 have hv:[iW zs,w][0]? =some (iW zs):=rfl;have cS:=pz (iW zs);rw[decide_eq_true rfl]at cS;have cR:=afl hp (MZ.ofz hz) hK (by rw[List.length_map,List.length_map];exact hl)
 have cG:=z8 hp;have cr:=alJ p (qm p (zs.map (zmd p)));have cf:=al1 (lN p (qm p (zs.map (zmd p))));refine PureOK.fnF Tryz.func433 Tryz.results433 Tryz.ntmps433 rfl rfl rfl (by simp[AV.ids,AV0.ids,Atom.ids]) rfl (fun w0 T B E0 hB=>?_)
 refine SX.goM ?_;refine ql (aj.lC rfl rfl rfl) ?_;exact AV0.imp.refl _
theorem ahh{r c K:Nat}{zs:List Int}(hl:zs.length=r*c)(hr:r≤64)(hc:c≤64)(hz:∀z∈zs,z.natAbs < WB ^ K)(hK1:1≤K)(hB0:1+(r*c+1)*K≤50000)(hKK:K≤10000):PureOK Tryz.prog 433 [.agg (eP iL [gP r c (zs.map fun z:Int=>(z:Rat)),w]),.agg (gfA p)] (.agg (qh (lI p r c (zs.map (zmd p))) 0 true)):=by
 have hv:[gP r c (zs.map fun z:Int=>(z:Rat)),w][0]? =some (gP r c (zs.map fun z:Int=>(z:Rat))):=rfl
 have cS:=pz (gP r c (zs.map fun z:Int=>(z:Rat)))
 rw[decide_eq_false (fun h=>by have h':(2:Int)=3:=h;omega)]at cS
 have cW:=yM hl hr hc hz hK1 hB0;have cM:=aa3 cW;have cm:PureOK Tryz.prog 286 [.agg (eP iL [gP r c (zs.map fun z:Int=>(z:Rat)),w]),.v (.int .i64 0)] (.agg (zh r c zs)):=arA (i:=0) hv (by decide) cW
 have cF:=ajL hp hl hr hc hz hKK;have cG:=z8 hp;have cr:=akv p r c (zs.map (zmd p));have cf:=aaG (lI p r c (zs.map (zmd p)));refine PureOK.fnF Tryz.func433 Tryz.results433 Tryz.ntmps433 rfl rfl rfl (by simp[AV.ids,AV0.ids,Atom.ids]) rfl (fun w0 T B E0 hB=>?_)
 refine SX.goM ?_;refine ql (aj.lC rfl rfl rfl) ?_;exact AV0.imp.refl _
end
end
section
section
variable{P:Program}{C:Ctx}{st:St}{ops rest:List Oper}{acc:List (List Nat×List Nat)}{K:List (List Nat×List Nat)→St→Prop}{dst:Option Tmp}{ty t:TypeId}{x:Operand}
theorem asu{f o1 ft:Nat}{l:List Atom}{y:Atom}[h1:je P ft](hf:(P.underlying t).bind (wD · f)=some (o1,ft))(hd:aA dst C.nt=true)(hx:st.ev x=some (.agg l))(hi:l[o1]? =some y)
  (next:Reg P C ops rest (st.app dst ⟨.it (.one y),[]⟩) (([],[])::acc) K):Go1 P C ops dst (.field t x f) ty rest st acc K:=
 Go1.dG [] [] (by simp) hd (by simp) (fun o ho _ st' E S a w hev hs _=>by
  obtain⟨⟨vs,hv,hall⟩,hids⟩:=hs.ev ((hev x (by simp[ho,Op.operands])).trans hx)
  obtain⟨dd,hd1,hd2⟩:=Option.bind_eq_some_iff.1 hf;obtain⟨v,h2,h3⟩:=hall.get hi;refine⟨fun j hj=>hids j (List.mem_flatMap.2 ⟨y,List.mem_of_getElem? hi,hj⟩),v,?_,h3⟩
  cases dd <;> simp[wD]at hd2
  rename_i fs;obtain⟨fd,hfd,he1,he2⟩:=hd2;subst he1 he2;unfold execOp;rw[ho];simp[show a.eval x=_ from hv,Instr.field,run_underlying hd1,hfd,part,asAgg,kH h1.h,h2]) next
end
attribute [local irreducible] IntKind.wrap Go1 Reg WP aQ aR bO bN aN aB aj ah aV Sat
attribute [local irreducible] bS bV bX dx bW qv redS mf PrP qOk zOk vP dL lz vF cq rqv fC dn dI pScale mulV jn sq aH qS zS tS tbS plS mdS zmd
theorem akV{v:Vl}{vs:List Vl}{z:Int}(h:PureOK Tryz.prog 368 [.agg (vlA v)] (.tup [.agg (zN z),.one (.c (.val (.bool false)))]))(hl:vs.length≤1000):PureOK Tryz.prog 323 [.r (ay 15 vlE (v::vs))] (.tup [.one (.c (.val (.slice none 0 0))),.one (.c (.val (.bool false)))]):=by
 have hv:(v::vs)[0]? =some v:=rfl;have hv2:∀k,k=0→(v::vs)[k]? =some v:=fun k hk=>by subst hk;rfl
 have hlen:(v::vs).length=vs.length+1:=rfl;refine PureOK.fnF Tryz.func323 Tryz.results323 Tryz.ntmps323 rfl rfl rfl (by simp[AV.ids,AV0.ids,Atom.ids]) rfl (fun w0 T B E0 hB=>?_)
 refine SX.goM ?_;refine W.loop (fun(k:Nat)=>k=0) (fun k=>[(4,.v (.slice none 0 0)),(9,.r (ay 15 vlE (v::vs))),(10,.v (.int .i64 ((v::vs).length:Int))),(11,.v (.int .i64 (k:Int)))]) (fun k=>[]) (fun k=>0) 0 rfl (fun k hk=>?_)
 have hvk:=hv2 k hk;refine SX.goM ?_;exact .ok (aB.mk2 (aj.tmp rfl) (aj.tmp rfl))
theorem aec{zs:List Int}:PureOK Tryz.prog 287 [.agg [.c (.val (.int .i64 3)),.c (.val (.bool false)),.c (.val (.slice none 0 0)),.c (.val (.bool false)),.c (.val (.slice none 0 0)),.c (.val (.int .i64 0)),.c (.val (.int .i64 0)),.c (.val (.slice none 0 0)),.c (.sat (ay 2 z2C (zs.map z2v))),.c (.val (.int .u64 0)),.c (.val (.int .i64 0)),.c (.val (.int .i64 0)),.c (.val (.slice none 0 0)),.c (.val (.slice none 0 0)),.c (.val (.slice none 0 0))],.v (.int .i64 0)] (.agg (qh (iW zs) 0 true)):=by
 refine PureOK.fnF Tryz.func287 Tryz.results287 Tryz.ntmps287 rfl rfl rfl (by simp[AV.ids,AV0.ids,Atom.ids]) rfl (fun w0 T B E0 hB=>?_)
 refine SX.goM ?_;refine ql (aj.lC rfl rfl rfl) ?_;exact lX ⟨aD.refl _,aD.refl _,aD.tN,aD.refl _,aD.tN,aD.refl _,aD.refl _,aD.nil,aD.ints zs,aD.refl _,aD.refl _,aD.refl _,aD.nil,aD.nil,aD.nil,aD.refl _,aD.refl _,trivial⟩
theorem abb{zs:List Int}:PureOK Tryz.prog 301 [.r (ay 2 z2C (zs.map z2v)),.v (.int .i64 0)] (.agg (qh (iW zs) 0 true)):=by
 have cd:=aec (zs:=zs);refine PureOK.fnF Tryz.func301 Tryz.results301 Tryz.ntmps301 rfl rfl rfl (by simp[AV.ids,AV0.ids,Atom.ids]) rfl (fun w0 T B E0 hB=>?_)
 refine SX.goM ?_;refine ql (aj.lC rfl rfl rfl) ?_;exact AV0.imp.refl _
theorem qU:(Sm WB rq0.2.1∧Sm WB rq0.2.2.2)∧rq0.2.1.length≤100000∧rq0.2.2.2.length≤100000:=⟨⟨Sm.nil,Sm.nil⟩,by decide,by decide⟩
section
variable{p:Nat}(hp:PrP p)
include hp
theorem aj6:PureOK Tryz.prog 154 [.it (.one (.c (.sat (bB (p:Int).natAbs))))] (.tup [.one (.c (.val (.int .u64 (p:Int)))),.one (.c (.val (.bool true)))]):=by
 have hl:=hp.lt;have e:(p:Int).natAbs=p:=Int.natAbs_natCast p;have hpW:p < WB:=by rw[aX];omega
 haveI i1:BdN (p:Int).natAbs 1:=⟨by rw[Nat.pow_one,e];exact hpW⟩
 have h:=aja (a:= .sat (bB (p:Int).natAbs)) (x:=(p:Int).natAbs) (k:=1) (by omega)
 rw[if_pos (by rw[e];exact hpW),decide_eq_true (by rw[e];exact hpW)]at h
 rw[e]at h ⊢;exact h
theorem aiY{v r:Vl}{b1 b2 b3:Bool}(a1:PureOK Tryz.prog 277 [.agg (eP iL [v,vI p]),.v (str iL),.v (str [110,110])] (.v (.bool b1)))(a2:PureOK Tryz.prog 277 [.agg (eP iL [v,vI p]),.v (str iL),.v (str [109,110])] (.v (.bool b2)))
  (a3:PureOK Tryz.prog 277 [.agg (eP iL [v,vI p]),.v (str iL),.v (str [113,110])] (.v (.bool b3))) (hb:(b1=false∧b2=true)∨(b1=false∧b2=false∧b3=true)) (cI:PureOK Tryz.prog 433 [.agg (eP iL [v,vI p]),.agg (gfA p)] (.agg (qh r 0 true))):
  PureOK Tryz.prog 331 [.agg (eP iL [v,vI p])] (.agg (qh r 0 true)):=by
 have hl:=hp.lt;have hv:[v,vI p][1]? =some (vI p):=rfl;have hb1:(p:Int).natAbs < WB ^ 1:=by rw[Nat.pow_one,aX];omega
 have w2:=kQ hb1 (Nat.le_refl 1) (by decide)
 have n1:PureOK Tryz.prog 280 [.agg (eP iL [v,vI p]),.v (.int .i64 1)] (.agg (zN (p:Int))):=agu (i:=1) hv (by decide) w2
 have cW:=aj6 hp;have cN:=acg hp
 haveI i1:Bd (p:Int) 1:=⟨hb1⟩
 have cS:=yF (l:=zN (p:Int)) (z:=(p:Int)) (k:=1) (by omega)
 have hs:¬aU (p:Int) < 0:=by unfold aU;split <;> omega
 rcases hb with⟨rfl,rfl⟩|⟨rfl,rfl,rfl⟩ <;> (
  refine PureOK.fnF Tryz.func331 Tryz.results331 Tryz.ntmps331 rfl rfl rfl (by simp[AV.ids,AV0.ids,Atom.ids]) rfl (fun w0 T B E0 hB=>?_)
  refine SX.goM ?_;refine asu (o1:=1) (ft:=23) (by kernel_rfl) rfl rfl rfl ?_
  refine SX.goM ?_;refine ql (aj.lC rfl rfl rfl) ?_;exact AV0.imp.refl _
 )
theorem akW{K:Nat}{zs:List Int}(hz:∀z∈zs,z.natAbs < WB ^ K)(hK:K≤100000)(hl:zs.length≤10000):PureOK Tryz.prog 331 [.agg (eP iL [iW zs,vI p])] (.agg (qh (lN p (qm p (zs.map (zmd p)))) 0 true)):=by
 have hl':=hp.lt;have hb1:(p:Int).natAbs < WB ^ 1:=by rw[Nat.pow_one,aX];omega
 have w2:=kQ hb1 (Nat.le_refl 1) (by decide)
 obtain⟨z,w1⟩:=oV (v:=iW zs) qU.1 qU.2 (fun h=>by have h':(3:Int)=1:=h;omega)
 have s3:=pz (iW zs);rw[decide_eq_true rfl]at s3;refine aiY hp (b1:=false) (b2:=false) (b3:=true) (uz (fun i=>i != 0) rfl (Nat.le_of_ble_eq_true rfl) fun i v hv=>?_) (uz (fun i=>i != 0) rfl (Nat.le_of_ble_eq_true rfl) fun i v hv=>?_) (uz (fun i=>true) rfl (Nat.le_of_ble_eq_true rfl) fun i v hv=>?_) (.inr ⟨rfl,rfl,rfl⟩) (ahk hp hz hK hl)
 ·match i,hv with
  |0,hv=>cases hv;exact gu w1
  |1,hv=>cases hv;exact gu w2
 ·match i,hv with
  |0,hv=>cases hv;exact af0 (aef fun h=>by have h':(3:Int)=2:=h;omega)
  |1,hv=>cases hv;exact gu w2
 ·match i,hv with
  |0,hv=>cases hv;exact s3
  |1,hv=>cases hv;exact gu w2
theorem ajO{r c K:Nat}{zs:List Int}(hl:zs.length=r*c)(hr:r≤64)(hc:c≤64)(hz:∀z∈zs,z.natAbs < WB ^ K)(hK1:1≤K)(hB0:1+(r*c+1)*K≤50000)(hKK:K≤10000):PureOK Tryz.prog 331 [.agg (eP iL [gP r c (zs.map fun z:Int=>(z:Rat)),vI p])] (.agg (qh (lI p r c (zs.map (zmd p))) 0 true)):=by
 have hl':=hp.lt;have hb1:(p:Int).natAbs < WB ^ 1:=by rw[Nat.pow_one,aX];omega
 have w2:=kQ hb1 (Nat.le_refl 1) (by decide)
 obtain⟨z,w1⟩:=oV (v:=gP r c (zs.map fun z:Int=>(z:Rat))) qU.1 qU.2 (fun h=>by have h':(2:Int)=1:=h;omega)
 have s3:=pz (gP r c (zs.map fun z:Int=>(z:Rat)))
 have cW:=yM hl hr hc hz hK1 hB0;refine aiY hp (b1:=false) (b2:=true) (b3:=false) (uz (fun i=>i != 0) rfl (Nat.le_of_ble_eq_true rfl) fun i v hv=>?_) (uz (fun i=>true) rfl (Nat.le_of_ble_eq_true rfl) fun i v hv=>?_) (uz (fun i=>i != 0) rfl (Nat.le_of_ble_eq_true rfl) fun i v hv=>?_) (.inl ⟨rfl,rfl⟩) (ahh hp hl hr hc hz hK1 hB0 hKK)
 ·match i,hv with
  |0,hv=>cases hv;exact gu w1
  |1,hv=>cases hv;exact gu w2
 ·match i,hv with
  |0,hv=>cases hv;exact aa3 cW
  |1,hv=>cases hv;exact gu w2
 ·match i,hv with
  |0,hv=>cases hv;rw[decide_eq_false (fun h=>by have h':(2:Int)=3:=h;omega)]at s3;exact s3
  |1,hv=>cases hv;exact gu w2
end
theorem abC{v w r:Vl}{z:Int}(h:PureOK Tryz.prog 368 [.agg (vlA v)] (.tup [.agg (zN z),.one (.c (.val (.bool false)))]))(hM:PureOK Tryz.prog 331 [.agg (eP iL [v,w])] (.agg (qh r 0 true))):PureOK Tryz.prog 243 [.agg (eP iL [v,w])] (.agg (qh r 0 true)):=by
 have cm:=akV (vs:=[w]) h (Nat.le_of_ble_eq_true rfl);refine PureOK.fnF Tryz.func243 Tryz.results243 Tryz.ntmps243 rfl rfl rfl (by simp[AV.ids,AV0.ids,Atom.ids]) rfl (fun w0 T B E0 hB=>?_)
 refine SX.goM ?_;refine SX.Go1.sV (n:=17) (l:=qh r 0 true) rfl rfl rfl rfl rfl ?_;refine SX.goM ?_;refine ql (aj.lC rfl rfl rfl) ?_;exact AV0.imp.refl _
theorem aa0{K:Nat}{zs:List Int}(hz:∀z∈zs,z.natAbs < WB ^ K)(h1:1≤K)(hK:K≤100000)(hl:zs.length≤10000)(hn:pN zs):PureOK Tryz.prog 243 [.agg (eP jY (zs.map vI))] (.agg (qh (iW zs) 0 true)):=by
 have cm:=akS hz h1 hK hl hn;have cp:=abb (zs:=zs);have h2:decide (jY=jY)=true:=decide_eq_true rfl;refine PureOK.fnF Tryz.func243 Tryz.results243 Tryz.ntmps243 rfl rfl rfl (by simp[AV.ids,AV0.ids,Atom.ids]) rfl (fun w0 T B E0 hB=>?_)
 refine SX.goM ?_;refine ql (aj.lC rfl rfl rfl) ?_;exact AV0.imp.refl _
abbrev groups:List FuncId:=[238,239,240,241,242,243,244]
abbrev vlZ:List Atom:=[.c (.val (.int .i64 0)),.c (.val (.bool false)),.c (.val (.slice none 0 0)),.c (.val (.bool false)),.c (.val (.slice none 0 0)),.c (.val (.int .i64 0)),.c (.val (.int .i64 0)),.c (.val (.slice none 0 0)),.c (.val (.slice none 0 0)),.c (.val (.int .u64 0)),.c (.val (.int .i64 0)),.c (.val (.int .i64 0)),.c (.val (.slice none 0 0)),.c (.val (.slice none 0 0)),.c (.val (.slice none 0 0))]
theorem aby{t:List UInt8}{vs:List Vl}{r:Vl}{n0:Nat}(htl:t.length≤1000)(hn:n0 < 7)(hl:vs.length≤100000)(hF:∀v∈vs,PureOK Tryz.prog 27 [.agg (vlA v)] (.v (.bool true)))
  (c1:PureOK Tryz.prog 164 [.v (str xO),.v (str (([32]++t)++[32]))] (.v (.bool true))) (c2:PureOK Tryz.prog 164 [.v (str t),.v (str [32])] (.v (.bool false)))
  (hno:∀(k:Nat) f,k < n0→groups[k]? =some f→PureOK Tryz.prog f [.agg (eP t vs)] (.agg aeT)) (hyes:∀f,groups[n0]? =some f→PureOK Tryz.prog f [.agg (eP t vs)] (.agg (qh r 0 true))):
  PureOK Tryz.prog 214 [.v (str t),.r (ay 15 vlE vs)] (.tup [.agg (vlA r),eNo 0]):=by
 have hg:groups.length=7:=rfl;refine PureOK.fnF Tryz.func214 Tryz.results214 Tryz.ntmps214 rfl rfl rfl (by simp[AV.ids,AV0.ids,Atom.ids]) rfl (fun w0 T B E0 hB=>?_)
 refine SX.goM ?_;refine W.loop (fun k=>k≤vs.length) (fun k=>[(0,.v (str t)),(1,.r (ay 15 vlE vs)),(4,.ptr 4 0),(12,.r (ay 15 vlE vs)),(13,.v (.int .i64 (vs.length:Int))),(14,.v (.int .i64 (k:Int)))]) (fun k=>[(4,.box 39 vlZ)]) (fun k=>vs.length - k) 0 (Nat.zero_le _) (fun k hk=>?_)
 by_cases h:k < vs.length
 ·obtain⟨v,hv⟩:∃v,vs[k]? =some v:=⟨_,List.getElem?_eq_getElem h⟩
  have cF:=hF v (List.mem_of_getElem? hv);refine SX.goM ?_;exact W.next (k+1) h (by omega)
 ·obtain rfl:k=vs.length:=by omega
  refine SX.goM ?_;refine SX.Go1.afR (n:=7) (size:=1) (m:=[.val (.func (.func 238) #[] #[]),.val (.func (.func 239) #[] #[]),.val (.func (.func 240) #[] #[]),.val (.func (.func 241) #[] #[]),.val (.func (.func 242) #[] #[]),.val (.func (.func 243) #[] #[]),.val (.func (.func 244) #[] #[])]) (l:=[.c (.val (.func (.func 238) #[] #[])),.c (.val (.func (.func 239) #[] #[])),.c (.val (.func (.func 240) #[] #[])),.c (.val (.func (.func 241) #[] #[])),.c (.val (.func (.func 242) #[] #[])),.c (.val (.func (.func 243) #[] #[])),.c (.val (.func (.func 244) #[] #[]))]) rfl rfl rfl rfl rfl (by kernel_rfl) rfl rfl ?_
  refine SX.goM ?_;refine W.loop (fun k=>k≤n0) (fun k=>[(4,.ptr 4 0),(8,.ptr 8 0),(36,.r (ay 1 fnC groups)),(37,.v (.int .i64 7)),(38,.v (.int .i64 (k:Int)))]) (fun k=>[(4,.box 39 vlZ),(8,.box 250 (eP t vs))]) (fun k=>n0 - k) 0 (Nat.zero_le _) (fun k hk=>?_)
  obtain⟨f,hf⟩:∃f,groups[k]? =some f:=⟨_,List.getElem?_eq_getElem (by omega)⟩
  by_cases h2:k < n0
  ·have cV:=FnV.val (hno k f h2 hf);refine SX.goM ?_;exact W.next (k+1) h2 (by omega)
  ·obtain rfl:k=n0:=by omega
   have cV:=FnV.val (hyes f hf);refine SX.goM ?_;exact .ok (aB.mk2 (aj.fD rfl rfl rfl) (aj.tmp rfl))
end
end
end Go.Proofs.YtmgfiodmdfaclaaGreatDoor