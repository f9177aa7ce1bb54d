import Derived.Test.YtegehclknhmkgaaGreatDoorA17
import Derived.Test.YtegehclknhmkgaaGreatDoorA23
import Derived.Test.YtegehclknhmkgaaGreatDoorA11
set_option linter.unusedVariables false
set_option linter.unusedSimpArgs false
namespace Go.Proofs.YtegehclknhmkgaaGreatDoor
open Go.RowKit QM SX LA
section
abbrev kF(t:List UInt8)(vs:List Vl):List Atom:=[.c (.val (str t)),.c (.sat (aF 15 vlE vs))]
abbrev abW(v:Vl)(e:Int)(b:Bool):List Atom:=[.c (.val (.int .i64 v.k)),.c (.val (.bool v.q.1)),.c (.sat (dQ v.q.2.1)),.c (.val (.bool v.q.2.2.1)),.c (.sat (dQ v.q.2.2.2)),.c (.val (.int .i64 v.r)),.c (.val (.int .i64 v.c)),.c (.sat (aF 4 q4C (v.a.map rq))),.c (.sat (aF 2 z2C (v.po.map rz))),.c (.val (.int .u64 (v.p:Int))),.c (.val (.int .i64 v.fr)),.c (.val (.int .i64 v.fc)),.c (.sat (aF 1 wdC v.fa)),.c (.sat (aF 1 wdC v.ri)),.c (.sat (aF 15 vlC v.li)),.c (.val (.int .i64 e)),.c (.val (.bool b))]
theorem zm{P:Program}{C:Ctx}{st:St}{r:ResultVar}{x y:AV0}(h:aj P st r x)(e:x.imp y):aL C P [r] ⟨.it y,[]⟩ st:= .ok (aC.mk1 (h.imp e))
attribute [local irreducible] IntKind.wrap Go1 Reg WP aN aQ bM bI aL aC aj ah aT Sat
attribute [local irreducible] dz bU bV dA bT qv dN mf PrP qOk zOk vP dZ lz vF cq rqv fT dJ eD bX gD jn sq aO qS zS tS tbS plS mdS
theorem adZ(v:Vl):PureOK Tryz.prog 282 [.agg (vlA v),.v (.int .i64 0)] (.agg (abW v 0 true)):=by
 refine PureOK.fnF Tryz.func282 Tryz.results282 Tryz.ntmps282 rfl rfl rfl (by simp[AV.ids,AV0.ids,Atom.ids]) rfl (fun w0 T B E0 hB=>?_)
 refine SX.goM ?_;refine zm (aj.sK rfl rfl rfl) ?_;exact AV0.imp.refl _
theorem ajK(v:Vl):PureOK Tryz.prog 278 [.agg (vlA v)] (.agg (abW v 0 true)):=by
 have c:=adZ v;refine PureOK.fnF Tryz.func278 Tryz.results278 Tryz.ntmps278 rfl rfl rfl (by simp[AV.ids,AV0.ids,Atom.ids]) rfl (fun w0 T B E0 hB=>?_)
 refine SX.goM ?_;refine zm (aj.sK rfl rfl rfl) ?_;exact AV0.imp.refl _
theorem yJ{z:Int}{K:Nat}(hz:z.natAbs < WB ^ K)(h1:1≤K)(hK:K≤100000):PureOK Tryz.prog 363 [.agg (vlA (fq (z:Rat)))] (.tup [.agg (zN z),.one (.c (.val (.bool true)))]):=by
 have cw:=ag8 (RB.ofI hz h1) hK;rw[if_pos (Rat.den_intCast z),decide_eq_true (Rat.den_intCast z),Rat.num_intCast]at cw;refine PureOK.fnF Tryz.func363 Tryz.results363 Tryz.ntmps363 rfl rfl rfl (by simp[AV.ids,AV0.ids,Atom.ids]) rfl (fun w0 T B E0 hB=>?_)
 refine SX.goM ?_;exact .ok (aC.mk2 (aj.iW rfl rfl rfl) (aj.tmp rfl))
theorem aen(v:Vl):PureOK Tryz.prog 304 [.agg (vlA v),.v (.int .u8 120)] (.v (.bool (decide (v.k=2)))):=by
 refine PureOK.fnF Tryz.func304 Tryz.results304 Tryz.ntmps304 rfl rfl rfl (by simp[AV.ids,AV0.ids,Atom.ids]) rfl (fun w0 T B E0 hB=>?_)
 refine SX.goM ?_;exact bK rfl
theorem xI{v:Vl}{z:Int}{b:Bool}(h:PureOK Tryz.prog 363 [.agg (vlA v)] (.tup [.agg (zN z),.one (.c (.val (.bool b)))])):PureOK Tryz.prog 304 [.agg (vlA v),.v (.int .u8 110)] (.v (.bool b)):=by
 refine PureOK.fnF Tryz.func304 Tryz.results304 Tryz.ntmps304 rfl rfl rfl (by simp[AV.ids,AV0.ids,Atom.ids]) rfl (fun w0 T B E0 hB=>?_)
 refine SX.goM ?_;exact bK rfl
theorem adM{t t2 so:List UInt8}{vs:List Vl}(h:(t==t2)=false):PureOK Tryz.prog 272 [.agg (kF t vs),.v (str t2),.v (str so)] (.v (.bool false)):=by
 have h2:decide (t=t2)=false:=by simpa using h
 refine PureOK.fnF Tryz.func272 Tryz.results272 Tryz.ntmps272 rfl rfl rfl (by simp[AV.ids,AV0.ids,Atom.ids]) rfl (fun w0 T B E0 hB=>?_)
 refine SX.goM ?_;exact bK rfl
theorem aiI{t so:List UInt8}{vs:List Vl}(f:Nat→Bool)(hl:vs.length=so.length)(hn:vs.length≤1000000)(hf:∀(i:Nat) v,vs[i]? =some v→PureOK Tryz.prog 304 [.agg (vlA v),.v (.int .u8 ((byt so i).toNat:Int))] (.v (.bool (f i)))):
  PureOK Tryz.prog 272 [.agg (kF t vs),.v (str t),.v (str so)] (.v (.bool ((List.range vs.length).all f))):=by
 have h2:decide (t=t)=true:=decide_eq_true rfl;refine PureOK.fnF Tryz.func272 Tryz.results272 Tryz.ntmps272 rfl rfl rfl (by simp[AV.ids,AV0.ids,Atom.ids]) rfl (fun w0 T B E0 hB=>?_)
 refine SX.goM ?_;refine W.loop (fun k=>k≤vs.length∧(List.range k).all f=true) (fun k=>[(2,.v (str so)),(22,.r (aF 15 vlE vs)),(23,.v (.int .i64 (vs.length:Int))),(24,.v (.int .i64 (k:Int)))]) (fun _=>[]) (fun k=>vs.length - k) 0 ⟨Nat.zero_le _,rfl⟩ (fun k ⟨hk,ha⟩=>?_)
 by_cases hlt:k < vs.length
 ·obtain⟨v,hv⟩:∃v,vs[k]? =some v:=⟨_,List.getElem?_eq_getElem hlt⟩
  have c:=hf k v hv;cases hb:f k with
  |true=>
   rw[hb]at c;refine SX.goM ?_;exact W.next (k+1) ⟨hlt,by rw[List.range_succ,List.all_append,ha];simp[hb]⟩ (by omega)
  |false=>
   rw[hb]at c;refine SX.goM ?_;refine bK ?_;rw[eq_comm,List.all_eq_false];exact⟨k,List.mem_range.2 hlt,by rw[hb];decide⟩
 ·obtain rfl:k=vs.length:=by omega
  refine SX.goM ?_;exact bK ha.symm
end
section
attribute [local irreducible] IntKind.wrap Go1 Reg WP aN aQ bM bI aL aC aj ah aT Sat
attribute [local irreducible] dz bU bV dA bT qv dN mf PrP qOk zOk vP dZ lz vF cq rqv fT dJ eD bX gD jn sq aO qS zS tS tbS plS mdS
theorem ajD{t:List UInt8}{vs:List Vl}{i:Nat}{v:Vl}{z:Int}{b:Bool}(hv:vs[i]? =some v)(hi:i≤1000)(h:PureOK Tryz.prog 363 [.agg (vlA v)] (.tup [.agg (zN z),.one (.c (.val (.bool b)))])):PureOK Tryz.prog 275 [.agg (kF t vs),.v (.int .i64 (i:Int))] (.agg (zN z)):=by
 have hl:=yZ hv;refine PureOK.fnF Tryz.func275 Tryz.results275 Tryz.ntmps275 rfl rfl rfl (by simp[AV.ids,AV0.ids,Atom.ids]) rfl (fun w0 T B E0 hB=>?_)
 refine SX.goM ?_;exact qg (aj.iW rfl rfl rfl) rfl
theorem aaM{z:Int}(h1: -1073741824≤z)(h2:z≤1073741824):PureOK Tryz.prog 274 [.agg (zN z)] (.v (.int .i64 z)):=by
 haveI:Bd z 1:=⟨ao6 (by omega) (by omega)⟩
 have c:=ao5 (l:=zN z) (z:=z) (k:=1) (by decide)
 have e1:lS z=true:=by
  unfold lS;rw[decide_eq_true (by omega),decide_eq_true (by omega)];rfl
 have e2:qh z=z:=by unfold qh;rw[e1];rfl
 rw[e1,e2]at c;refine PureOK.fnF Tryz.func274 Tryz.results274 Tryz.ntmps274 rfl rfl rfl (by simp[AV.ids,AV0.ids,Atom.ids]) rfl (fun w0 T B E0 hB=>?_)
 refine SX.goM ?_;exact iN rfl
theorem akB{r c:Nat}(hr:r≤64)(hc:c≤64):PureOK Tryz.prog 273 [.v (.int .i64 (r:Int)),.v (.int .i64 (c:Int))] (.tup [.agg (xU r c (ku c (fun _ _=>0) r)),eNo 0]):=by
 have s1:=(pR (r:Int)).h trivial;have s2:=(pR (c:Int)).h trivial;rw[decide_eq_true (show 0≤(r:Int)∧(r:Int)≤64 by omega)]at s1
 rw[decide_eq_true (show 0≤(c:Int)∧(c:Int)≤64 by omega)]at s2
 have c0:∀i k:Nat,PureOK Tryz.prog 362 [.v (.int .i64 (i:Int)),.v (.int .i64 (k:Int))] (.agg (z2A (false,dQ []))):=fun i k=>by
  refine PureOK.fnF Tryz.func362 Tryz.results362 Tryz.ntmps362 rfl rfl rfl (by simp[AV.ids,AV0.ids,Atom.ids]) rfl (fun w0 T B E0 hB=>?_)
  refine SX.goM ?_;refine adp (aj.iW rfl rfl rfl) ?_;exact xu ⟨aV.refl _,aV.aeR,trivial⟩
 have cM:=amJ (aie r c (.sat (eu 362 [] [])) (fun _ _=>(false,dQ [])) (fun _ _=>0) 1 (by omega) (by omega) (by decide) (fun i k _ _=>FnV.const (c0 i k)) (fun i k _ _=>ZQ.raw (b:=false) (l:=[]) Sm.nil (by decide)) rfl)
 refine PureOK.fnF Tryz.func273 Tryz.results273 Tryz.ntmps273 rfl rfl rfl (by simp[AV.ids,AV0.ids,Atom.ids]) rfl (fun w0 T B E0 hB=>?_)
 refine SX.goM ?_;exact .ok (aC.mk2 (aj.aX rfl rfl rfl) (aj.tmp rfl))
theorem aoF(r c:Nat)(zs:List Int):xU r c zs=acd r c (zs.map z2v):=by
 show [_,_,Atom.c (.sat (aM 2 zs.length (zs.flatMap zC)))]=[_,_,Atom.c (.sat (aM 2 (zs.map z2v).length ((zs.map z2v).flatMap z2C)))];rw[List.length_map,List.flatMap_map]
theorem ap6(z:Int):qv z 1=(z:Rat):=by unfold qv;grind
theorem ahU{c r:Nat}{l:List Rat}{val:Nat→Nat→Rat}(hl:l.length=r*c)(h:∀i k,i < r→k < c→l[i*c+k]? =some (val i k)):kC c val r=l:=by
 refine List.ext_getElem? fun n=>?_
 by_cases hn:n < r*c
 ·have hc:0 < c:=Nat.pos_of_ne_zero (by rintro rfl;simp at hn)
  have h1:n / c < r:=Nat.div_lt_of_lt_mul (by rwa [Nat.mul_comm]at hn)
  have h2:=Nat.mod_lt n hc;have e:n=n / c*c+n % c:=by rw[Nat.mul_comm];exact(Nat.div_add_mod n c).symm
  rw[e,abe h2 h1,h _ _ h1 h2]
 ·rw[List.getElem?_eq_none (by rw[lu];omega),List.getElem?_eq_none (by omega)]
theorem aiT{r c:Nat}{zs:List Int}(hl:zs.length=r*c):kC c (fun i k=>qv (zat zs c i k) 1) r=zs.map fun z:Int=>(z:Rat):=by
 refine ahU (by rw[List.length_map];exact hl) fun i k hi hk=>?_
 rw[List.getElem?_map,acr hl hi hk,ap6];rfl
theorem ahw{r c K:Nat}{zs:List Int}(hl:zs.length=r*c)(hr:r≤64)(hc:c≤64)(hz:∀z∈zs,z.natAbs < WB ^ K)(hK:K≤10000)(hK1:1≤K):PureOK Tryz.prog 284 [.agg (xU r c zs)] (.agg (vlA (iI r c (zs.map fun z:Int=>(z:Rat))))):=by
 have cF:=alp (MZ.made hz) (by rw[List.length_map];exact hl) hr hc hK hK1
 rw[←aoF,aiT hl,aaZ]at cF;have hb:∀x∈zs.map (fun z:Int=>(z:Rat)),RB x K:=fun x hx=>by
  obtain⟨z,hz',rfl⟩:=List.mem_map.1 hx;exact RB.ofI (hz z hz') hK1
 have cM:=zu (r:=r) (c:=c) (MV.made hb) (by rw[List.length_map,List.length_map];exact hl) hr hc (by omega)
 refine PureOK.fnF Tryz.func284 Tryz.results284 Tryz.ntmps284 rfl rfl rfl (by simp[AV.ids,AV0.ids,Atom.ids]) rfl (fun w0 T B E0 hB=>?_)
 refine SX.goM ?_;refine adp (aj.gK rfl rfl rfl) ?_;exact AV0.imp.refl _
theorem acp{r c K:Nat}{zs:List Int}(hl:zs.length=r*c)(hr:r≤64)(hc:c≤64)(hz:∀z∈zs,z.natAbs < WB ^ K)(hK:K≤10000)(hK1:1≤K):PureOK Tryz.prog 276 [.agg (xU r c zs),.v (.int .i64 0)] (.agg (abW (iI r c (zs.map fun z:Int=>(z:Rat))) 0 true)):=by
 have cT:=ahw hl hr hc hz hK hK1;have cD:=adZ (iI r c (zs.map fun z:Int=>(z:Rat)))
 refine PureOK.fnF Tryz.func276 Tryz.results276 Tryz.ntmps276 rfl rfl rfl (by simp[AV.ids,AV0.ids,Atom.ids]) rfl (fun w0 T B E0 hB=>?_)
 refine SX.goM ?_;refine zm (aj.sK rfl rfl rfl) ?_;exact AV0.imp.refl _
abbrev kH:List UInt8:=[122,101,114,111]
abbrev vI(z:Int):Vl:=fq (z:Rat)
theorem xq{r:Nat}(h:r≤64):(r:Int).natAbs < WB ^ 1:=by rw[Nat.pow_one,bY];omega
theorem xQ{r c:Nat}(hr:r≤64)(hc:c≤64):PureOK Tryz.prog 241 [.agg (kF kH [vI r,vI c])] (.agg (abW (iI r c ((ku c (fun _ _=>0) r).map fun z:Int=>(z:Rat))) 0 true)):=by
 have w1:=yJ (xq hr) (Nat.le_refl 1) (by decide)
 have w2:=yJ (xq hc) (Nat.le_refl 1) (by decide)
 have cA:PureOK Tryz.prog 272 [.agg (kF kH [vI r,vI c]),.v (str kH),.v (str [110,110])] (.v (.bool true)):=aiI (fun _=>true) rfl (Nat.le_of_ble_eq_true rfl) (fun i v hv=>by
  match i,hv with
  |0,hv=>cases hv;exact xI w1
  |1,hv=>cases hv;exact xI w2)
 have n1:PureOK Tryz.prog 275 [.agg (kF kH [vI r,vI c]),.v (.int .i64 0)] (.agg (zN (r:Int))):=ajD (i:=0) rfl (by decide) w1
 have n2:PureOK Tryz.prog 275 [.agg (kF kH [vI r,vI c]),.v (.int .i64 1)] (.agg (zN (c:Int))):=ajD (i:=1) rfl (by decide) w2
 have s1:=aaM (z:=(r:Int)) (by omega) (by omega)
 have s2:=aaM (z:=(c:Int)) (by omega) (by omega)
 have cN:=akB hr hc;have cM:=acp (r:=r) (c:=c) (K:=1) (zs:=ku c (fun _ _=>0) r) (rU ..) hr hc (anC fun _ _ _ _=>by rw[Nat.pow_one,bY];decide) (by decide) (by decide)
 refine PureOK.fnF Tryz.func241 Tryz.results241 Tryz.ntmps241 rfl rfl rfl (by simp[AV.ids,AV0.ids,Atom.ids]) rfl (fun w0 T B E0 hB=>?_)
 refine SX.goM ?_;refine zm (aj.sK rfl rfl rfl) ?_;exact AV0.imp.refl _
end
section
section
def zmd(p:Nat)(z:Int):Nat:=(z % (p:Int)).toNat
attribute [local irreducible] IntKind.wrap Go1 Reg WP aN aQ bM bI aL aC aj ah aT Sat
attribute [local irreducible] dz bU bV dA bT qv dN mf PrP qOk zOk vP dZ lz vF cq rqv fT dJ eD bX gD jn sq aO qS zS tS tbS plS mdS zmd
end
section
def zx:List UInt8:=[32,122,101,114,111,32,105,100,32,116,114,97,110,115,112,111,115,101,32,114,111,119,115,32,99,111,108,115,32,100,101,116,32,105,110,118,32,114,97,110,107,32,116,114,97,99,101,32,97,100,106,32,104,110,102,32,109,111,100,104,110,102,32,115,110,102,32,107,101,114,110,101,108,32,105,109,97,103,101,32,115,97,116,117,114,97,116,101,32,115,111,108,118,101,32,108,108,108,32,99,104,97,114,32,109,105,110,32,102,114,111,98,32,105,110,118,97,114,105,97,110,116,115,32,99,111,109,112,97,110,105,111,110,32,112,111,108,121,32,109,111,100,32,108,105,102,116,32,100,101,103,32,101,118,97,108,32,100,101,114,105,118,101,32,103,99,100,32,120,103,99,100,32,102,108,111,111,114,32,114,111,117,110,100,32,97,98,115,32,110,117,109,32,100,101,110,32,112,114,105,109,101,32,99,114,116,32,112,111,119,109,111,100,32,108,101,110,32,102,97,99,116,111,114,115,32]
abbrev fnC(f:FuncId):List CA:=[.val (.func (.func f) #[] #[])]
instance:eB fnC 1:=⟨fun _=>rfl⟩
theorem FnV.val{P:Program}{f:FuncId}{args:List AV}{r:AV}(h:PureOK P f args r):FnV P (.val (.func (.func f) #[] #[])) args r:=by
 intro S w v hv;cases hv;exact⟨f,[],[],[],[],rfl,fun E=>trivial,fun E=>trivial,by simpa using h⟩
theorem jS{s t:List UInt8}{b:Bool}(hs:s.length < 4294967281)(hb:Lib.contains s t=b):PureOK Tryz.prog 177 [.v (str s),.v (str t)] (.v (.bool b)):=by
 refine⟨⟨_,Tryz.func177,rfl,rfl⟩,fun E S w vs hl hg hv _ _ _=>?_⟩
 match vs,hv with
 |[x,y],⟨h1,h2,_⟩=>
  have h1':x=str s:=h1;have h2':y=str t:=h2;subst h1' h2';obtain⟨_,_,m,hm⟩:=hg.2 4 (by simp[globI])
  refine(Tryz.strings_Contains ⟨⟨s⟩⟩ ⟨⟨t⟩⟩ m w hs hm).mono ?_;rintro e w' ⟨rfl,rfl⟩;refine⟨_,E,S,rfl,{env:=fun _ _=>⟨rfl,rfl⟩,fpe:=fun _ _=>rfl,sub:=fun _ h=>h,new:=fun _ h=> .inl h,lt:=hl,off:=Off.refl _ _,res:=?_,ents:=fun _ _ h=>(by cases h),blk:=fun _ _ _ h=>(by cases h),sep:=fun _ _ _ _ _ _ h=>(by cases h)}⟩
  show Value.bool (Lib.contains s t)=Value.bool b;rw[hb]
instance con_asI(t t2 so:List UInt8)(vs:List Vl):Con Tryz.prog 272 [.agg (kF t vs),.v (str t2),.v (str so)] ((t==t2)=false) (.v (.bool false)):=⟨fun h=>adM h⟩
attribute [local irreducible] IntKind.wrap Go1 Reg WP aN aQ bM bI aL aC aj ah aT Sat
attribute [local irreducible] dz bU bV dA bT qv dN mf PrP qOk zOk vP dZ lz vF cq rqv fT dJ eD bX gD jn sq aO qS zS tS tbS plS mdS zmd
abbrev al2:List Atom:=abW v0 0 false
theorem alx{P:Program}{C:Ctx}{st:St}{r:ResultVar}(h:aj P st r (.agg [.c (.val (.int .i64 0)),.c (.val (.bool false)),.c (.val (.slice none 0 0)),.c (.val (.bool false)),.c (.val (.slice none 0 0)),.c (.val (.int .i64 0)),.c (.val (.int .i64 0)),.c (.val (.slice none 0 0)),.c (.val (.slice none 0 0)),.c (.val (.int .u64 0)),.c (.val (.int .i64 0)),.c (.val (.int .i64 0)),.c (.val (.slice none 0 0)),.c (.val (.slice none 0 0)),.c (.val (.slice none 0 0)),.c (.val (.int .i64 0)),.c (.val (.bool false))])):aL C P [r] ⟨.it (.agg al2),[]⟩ st:=
 zm h (xu ⟨aV.refl _,aV.refl _,aV.aeR,aV.refl _,aV.aeR,aV.refl _,aV.refl _,aV.nil,aV.nil,aV.refl _,aV.refl _,aV.refl _,aV.nil,aV.nil,aV.nil,aV.refl _,aV.refl _,trivial⟩)
theorem adY{l:List Int}:gY (l.map fun z:Int=>(z:Rat))=1:=by
 refine Nat.dvd_one.1 (aeF fun v hv=>?_)
 obtain⟨z,_,rfl⟩:=List.mem_map.1 hv;rw[Rat.den_intCast];exact Nat.one_dvd 1
theorem ajX(l:List Int):mU (l.map fun z:Int=>(z:Rat))=l:=by
 unfold mU;rw[adY,List.map_map];refine(List.map_congr_left fun z _=>?_).trans (List.map_id l)
 show ((z:Rat)*qj ((1:Nat):Int)).num=z;rw[afD];have:(z:Rat)*(((1:Nat):Int):Rat)=(z:Rat):=by grind
 rw[this];exact Rat.num_intCast z
section
variable{p:Nat}(hp:PrP p){w:Vl}
include hp
end
end
section
section
variable{P:Program}{C:Ctx}{st:St}{ops rest:List Oper}{acc:List (List Nat×List Nat)}{K:List (List Nat×List Nat)→St→Prop}{dst:Option Tmp}{ty t:TypeId}{x:Operand}
end
attribute [local irreducible] IntKind.wrap Go1 Reg WP aN aQ bM bI aL aC aj ah aT Sat
attribute [local irreducible] dz bU bV dA bT qv dN mf PrP qOk zOk vP dZ lz vF cq rqv fT dJ eD bX gD jn sq aO qS zS tS tbS plS mdS zmd
section
variable{p:Nat}(hp:PrP p)
include hp
end
abbrev groups:List FuncId:=[241,242,243,244,245,246,247]
abbrev vlZ:List Atom:=[.c (.val (.int .i64 0)),.c (.val (.bool false)),.c (.val (.slice none 0 0)),.c (.val (.bool false)),.c (.val (.slice none 0 0)),.c (.val (.int .i64 0)),.c (.val (.int .i64 0)),.c (.val (.slice none 0 0)),.c (.val (.slice none 0 0)),.c (.val (.int .u64 0)),.c (.val (.int .i64 0)),.c (.val (.int .i64 0)),.c (.val (.slice none 0 0)),.c (.val (.slice none 0 0)),.c (.val (.slice none 0 0))]
theorem acJ{t:List UInt8}{vs:List Vl}{r:Vl}{n0:Nat}(htl:t.length≤1000)(hn:n0 < 7)(hl:vs.length≤100000)(hF:∀v∈vs,PureOK Tryz.prog 32 [.agg (vlA v)] (.v (.bool true)))
  (c1:PureOK Tryz.prog 177 [.v (str zx),.v (str (([32]++t)++[32]))] (.v (.bool true))) (c2:PureOK Tryz.prog 177 [.v (str t),.v (str [32])] (.v (.bool false)))
  (hno:∀(k:Nat) f,k < n0→groups[k]? =some f→PureOK Tryz.prog f [.agg (kF t vs)] (.agg al2)) (hyes:∀f,groups[n0]? =some f→PureOK Tryz.prog f [.agg (kF t vs)] (.agg (abW r 0 true))):
  PureOK Tryz.prog 229 [.v (str t),.r (aF 15 vlE vs)] (.tup [.agg (vlA r),eNo 0]):=by
 have hg:groups.length=7:=rfl;refine PureOK.fnF Tryz.func229 Tryz.results229 Tryz.ntmps229 rfl rfl rfl (by simp[AV.ids,AV0.ids,Atom.ids]) rfl (fun w0 T B E0 hB=>?_)
 refine SX.goM ?_;refine W.loop (fun k=>k≤vs.length) (fun k=>[(0,.v (str t)),(1,.r (aF 15 vlE vs)),(4,.ptr 4 0),(12,.r (aF 15 vlE vs)),(13,.v (.int .i64 (vs.length:Int))),(14,.v (.int .i64 (k:Int)))]) (fun k=>[(4,.box 50 vlZ)]) (fun k=>vs.length - k) 0 (Nat.zero_le _) (fun k hk=>?_)
 by_cases h:k < vs.length
 ·obtain⟨v,hv⟩:∃v,vs[k]? =some v:=⟨_,List.getElem?_eq_getElem h⟩
  have cF:=hF v (List.mem_of_getElem? hv);refine SX.goM ?_;exact W.next (k+1) h (by omega)
 ·obtain rfl:k=vs.length:=by omega
  refine SX.goM ?_;refine SX.Go1.acQ (n:=7) (size:=1) (m:=[.val (.func (.func 241) #[] #[]),.val (.func (.func 242) #[] #[]),.val (.func (.func 243) #[] #[]),.val (.func (.func 244) #[] #[]),.val (.func (.func 245) #[] #[]),.val (.func (.func 246) #[] #[]),.val (.func (.func 247) #[] #[])]) (l:=[.c (.val (.func (.func 241) #[] #[])),.c (.val (.func (.func 242) #[] #[])),.c (.val (.func (.func 243) #[] #[])),.c (.val (.func (.func 244) #[] #[])),.c (.val (.func (.func 245) #[] #[])),.c (.val (.func (.func 246) #[] #[])),.c (.val (.func (.func 247) #[] #[]))]) rfl rfl rfl rfl rfl (by kernel_rfl) rfl rfl ?_
  refine SX.goM ?_;refine W.loop (fun k=>k≤n0) (fun k=>[(4,.ptr 4 0),(8,.ptr 8 0),(36,.r (aF 1 fnC groups)),(37,.v (.int .i64 7)),(38,.v (.int .i64 (k:Int)))]) (fun k=>[(4,.box 50 vlZ),(8,.box 258 (kF t vs))]) (fun k=>n0 - k) 0 (Nat.zero_le _) (fun k hk=>?_)
  obtain⟨f,hf⟩:∃f,groups[k]? =some f:=⟨_,List.getElem?_eq_getElem (by omega)⟩
  by_cases h2:k < n0
  ·have cV:=FnV.val (hno k f h2 hf);refine SX.goM ?_;exact W.next (k+1) h2 (by omega)
  ·obtain rfl:k=n0:=by omega
   have cV:=FnV.val (hyes f hf);refine SX.goM ?_;exact .ok (aC.mk2 (aj.gK rfl rfl rfl) (aj.tmp rfl))
end
end
end Go.Proofs.YtegehclknhmkgaaGreatDoor