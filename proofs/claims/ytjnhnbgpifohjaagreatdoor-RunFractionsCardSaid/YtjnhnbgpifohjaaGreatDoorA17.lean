import Derived.Test.YtjnhnbgpifohjaaGreatDoorA12
import Derived.Test.YtjnhnbgpifohjaaGreatDoorA16
import Derived.Test.YtjnhnbgpifohjaaGreatDoorA7
set_option linter.unusedVariables false
set_option linter.unusedSimpArgs false
open Go.Proofs.Tryz
namespace Go.Proofs.YtjnhnbgpifohjaaGreatDoor
open Go.RowKit QM SX LA
section
abbrev gN(t:List UInt8)(vs:List Vl):List Atom:=[.c (.val (str t)),.c (.sat (aA 15 vlE vs))]
abbrev mW(v:Vl)(e:Int)(b:Bool):List Atom:=[.c (.val (.int .i64 v.k)),.c (.val (.bool v.q.1)),.c (.sat (dM v.q.2.1)),.c (.val (.bool v.q.2.2.1)),.c (.sat (dM v.q.2.2.2)),.c (.val (.int .i64 v.r)),.c (.val (.int .i64 v.c)),.c (.sat (aA 4 q4C (v.a.map rq))),.c (.sat (aA 2 z2C (v.po.map rz))),.c (.val (.int .u64 (v.p:Int))),.c (.val (.int .i64 v.fr)),.c (.val (.int .i64 v.fc)),.c (.sat (aA 1 wdC v.fa)),.c (.sat (aA 1 wdC v.ri)),.c (.sat (aA 15 vlC v.li)),.c (.val (.int .i64 e)),.c (.val (.bool b))]
theorem lV{P:Program}{C:Ctx}{st:St}{r:ResultVar}{x y:AV0}(h:ak P st r x)(e:x.imp y):aN C P [r] ⟨.it y,[]⟩ st:= .ok (aF.mk1 (h.imp e))
attribute [local irreducible] IntKind.wrap Go1 Reg WP aR aU bR bO aN aF ak aj aY Sat
attribute [local irreducible] bS dn cK dD dh qv bW mf PrP qOk zOk vP eu lz vF cq rqv fB dw dN d9 gP jn sq aV qS zS tS tbS plS mdS
theorem ql(v:Vl):ah prog 134 [.agg (vlA v),.v (.int .i64 0)] (.agg (mW v 0 true)):=by
 refine ah.fnF func134 results134 ntmps134 rfl rfl rfl (by simp[AV.ids,AV0.ids,Atom.ids]) rfl (fun w0 T B E0 hB=>?_)
 refine SX.goM ?_;refine lV (ak.kT rfl rfl rfl) ?_;exact AV0.imp.refl _
theorem aov(v:Vl):ah prog 130 [.agg (vlA v)] (.agg (mW v 0 true)):=by
 have c:=ql v;refine ah.fnF func130 results130 ntmps130 rfl rfl rfl (by simp[AV.ids,AV0.ids,Atom.ids]) rfl (fun w0 T B E0 hB=>?_)
 refine SX.goM ?_;refine lV (ak.kT rfl rfl rfl) ?_;exact AV0.imp.refl _
theorem aa3{z:Int}{K:Nat}(hz:z.natAbs < WB ^ K)(h1:1≤K)(hK:K≤100000):ah prog 229 [.agg (vlA (fC (z:Rat)))] (.tup [.agg (zN z),.one (.c (.val (.bool true)))]):=by
 have cw:=aqi (RB.ofI hz h1) hK;rw[if_pos (Rat.den_intCast z),decide_eq_true (Rat.den_intCast z),Rat.num_intCast]at cw;refine ah.fnF func229 results229 ntmps229 rfl rfl rfl (by simp[AV.ids,AV0.ids,Atom.ids]) rfl (fun w0 T B E0 hB=>?_)
 refine SX.goM ?_;exact .ok (aF.mk2 (ak.iV rfl rfl rfl) (ak.tmp rfl))
theorem agC(v:Vl):ah prog 152 [.agg (vlA v),.v (.int .u8 120)] (.v (.bool (decide (v.k=2)))):=by
 refine ah.fnF func152 results152 ntmps152 rfl rfl rfl (by simp[AV.ids,AV0.ids,Atom.ids]) rfl (fun w0 T B E0 hB=>?_)
 refine SX.goM ?_;exact aP rfl
theorem aap{v:Vl}{z:Int}{b:Bool}(h:ah prog 229 [.agg (vlA v)] (.tup [.agg (zN z),.one (.c (.val (.bool b)))])):ah prog 152 [.agg (vlA v),.v (.int .u8 110)] (.v (.bool b)):=by
 refine ah.fnF func152 results152 ntmps152 rfl rfl rfl (by simp[AV.ids,AV0.ids,Atom.ids]) rfl (fun w0 T B E0 hB=>?_)
 refine SX.goM ?_;exact aP rfl
theorem af4{t t2 so:List UInt8}{vs:List Vl}(h:(t==t2)=false):ah prog 125 [.agg (gN t vs),.v (str t2),.v (str so)] (.v (.bool false)):=by
 have h2:decide (t=t2)=false:=by simpa using h
 refine ah.fnF func125 results125 ntmps125 rfl rfl rfl (by simp[AV.ids,AV0.ids,Atom.ids]) rfl (fun w0 T B E0 hB=>?_)
 refine SX.goM ?_;exact aP rfl
theorem alP{t so:List UInt8}{vs:List Vl}(f:Nat→Bool)(hl:vs.length=so.length)(hn:vs.length≤1000000)(hf:∀(i:Nat) v,vs[i]? =some v→ah prog 152 [.agg (vlA v),.v (.int .u8 ((byt so i).toNat:Int))] (.v (.bool (f i)))):
  ah prog 125 [.agg (gN t vs),.v (str t),.v (str so)] (.v (.bool ((List.range vs.length).all f))):=by
 have h2:decide (t=t)=true:=decide_eq_true rfl;refine ah.fnF func125 results125 ntmps125 rfl rfl rfl (by simp[AV.ids,AV0.ids,Atom.ids]) rfl (fun w0 T B E0 hB=>?_)
 refine SX.goM ?_;refine W.loop (fun k=>k≤vs.length∧(List.range k).all f=true) (fun k=>[(2,.v (str so)),(22,.r (aA 15 vlE vs)),(23,.v (.int .i64 (vs.length:Int))),(24,.v (.int .i64 (k:Int)))]) (fun _=>[]) (fun k=>vs.length - k) 0 ⟨Nat.zero_le _,rfl⟩ (fun k ⟨hk,ha⟩=>?_)
 by_cases hlt:k < vs.length
 ·obtain⟨v,hv⟩:∃v,vs[k]? =some v:=⟨_,zq2 hlt⟩
  have c:=hf k v hv;cases hb:f k with
  |true=>
   rw[hb]at c;refine SX.goM ?_;exact W.next (k+1) ⟨hlt,by rw[List.range_succ,List.all_append,ha];simp[hb]⟩ (by omega)
  |false=>
   rw[hb]at c;refine SX.goM ?_;refine aP ?_;rw[eq_comm,List.all_eq_false];exact⟨k,List.mem_range.2 hlt,by rw[hb];decide⟩
 ·obtain rfl:k=vs.length:=by omega
  refine SX.goM ?_;exact aP ha.symm
end
section
attribute [local irreducible] IntKind.wrap Go1 Reg WP aR aU bR bO aN aF ak aj aY Sat
attribute [local irreducible] bS dn cK dD dh qv bW mf PrP qOk zOk vP eu lz vF cq rqv fB dw dN d9 gP jn sq aV qS zS tS tbS plS mdS
theorem aoT{t:List UInt8}{vs:List Vl}{i:Nat}{v:Vl}{z:Int}{b:Bool}(hv:vs[i]? =some v)(hi:i≤1000)(h:ah prog 229 [.agg (vlA v)] (.tup [.agg (zN z),.one (.c (.val (.bool b)))])):ah prog 127 [.agg (gN t vs),.v (.int .i64 (i:Int))] (.agg (zN z)):=by
 have hl:=u7 hv;refine ah.fnF func127 results127 ntmps127 rfl rfl rfl (by simp[AV.ids,AV0.ids,Atom.ids]) rfl (fun w0 T B E0 hB=>?_)
 refine SX.goM ?_;exact kR (ak.iV rfl rfl rfl) rfl
theorem abY{z:Int}(h1: -1073741824≤z)(h2:z≤1073741824):ah prog 126 [.agg (zN z)] (.v (.int .i64 z)):=by
 haveI:Bd z 1:=⟨atw (by omega) (by omega)⟩
 have c:=aty (l:=zN z) (z:=z) (k:=1) (by decide)
 have e1:mJ z=true:=by
  unfold mJ;rw[decide_eq_true (by omega),decide_eq_true (by omega)];rfl
 have e2:rW z=z:=by unfold rW;rw[e1];rfl
 rw[e1,e2]at c;refine ah.fnF func126 results126 ntmps126 rfl rfl rfl (by simp[AV.ids,AV0.ids,Atom.ids]) rfl (fun w0 T B E0 hB=>?_)
 refine SX.goM ?_;exact gM rfl
theorem amA{r c:Nat}(hr:r≤64)(hc:c≤64):ah prog 74 [.v (.int .i64 (r:Int)),.v (.int .i64 (c:Int))] (.tup [.agg (sD r c (kV c (fun _ _=>0) r)),eNo 0]):=by
 have s1:=(rM (r:Int)).h trivial;have s2:=(rM (c:Int)).h trivial;rw[decide_eq_true (show 0≤(r:Int)∧(r:Int)≤64 by omega)]at s1
 rw[decide_eq_true (show 0≤(c:Int)∧(c:Int)≤64 by omega)]at s2
 have c0:∀i k:Nat,ah prog 122 [.v (.int .i64 (i:Int)),.v (.int .i64 (k:Int))] (.agg (z2A (false,dM []))):=fun i k=>by
  refine ah.fnF func122 results122 ntmps122 rfl rfl rfl (by simp[AV.ids,AV0.ids,Atom.ids]) rfl (fun w0 T B E0 hB=>?_)
  refine SX.goM ?_;refine aa5 (ak.iV rfl rfl rfl) ?_;exact nT ⟨aO.refl _,aO.acu,trivial⟩
 have cM:=yT (aj5 r c (.sat (dO 122 [] [])) (fun _ _=>(false,dM [])) (fun _ _=>0) 1 (by omega) (by omega) (by decide) (fun i k _ _=>FnV.const (c0 i k)) (fun i k _ _=>ZQ.raw (b:=false) (l:=[]) Sm.nil (by decide)) rfl)
 refine ah.fnF func74 results74 ntmps74 rfl rfl rfl (by simp[AV.ids,AV0.ids,Atom.ids]) rfl (fun w0 T B E0 hB=>?_)
 refine SX.goM ?_;exact .ok (aF.mk2 (ak.aX rfl rfl rfl) (ak.tmp rfl))
theorem atr(r c:Nat)(zs:List Int):sD r c zs=acG r c (zs.map z2v):=by
 show [_,_,Atom.c (.sat (aL 2 zs.length (zs.flatMap zC)))]=[_,_,Atom.c (.sat (aL 2 (zs.map z2v).length ((zs.map z2v).flatMap z2C)))];rw[zq5,List.flatMap_map]
theorem asA(z:Int):qv z 1=(z:Rat):=by unfold qv;grind
theorem ajC{c r:Nat}{l:List Rat}{val:Nat→Nat→Rat}(hl:l.length=r*c)(h:∀i k,i < r→k < c→l[i*c+k]? =some (val i k)):fV c val r=l:=by
 refine List.ext_getElem? fun n=>?_
 by_cases hn:n < r*c
 ·have hc:0 < c:=Nat.pos_of_ne_zero (by rintro rfl;simp at hn)
  have h1:n / c < r:=Nat.div_lt_of_lt_mul (by rwa [Nat.mul_comm]at hn)
  have h2:=Nat.mod_lt n hc;have e:n=n / c*c+n % c:=by rw[Nat.mul_comm];exact(Nat.div_add_mod n c).symm
  rw[e,yP h2 h1,h _ _ h1 h2]
 ·rw[List.getElem?_eq_none (by rw[iZ];omega),List.getElem?_eq_none (by omega)]
theorem amI{r c:Nat}{zs:List Int}(hl:zs.length=r*c):fV c (fun i k=>qv (zat zs c i k) 1) r=zs.map fun z:Int=>(z:Rat):=by
 refine ajC (by rw[zq5];exact hl) fun i k hi hk=>?_
 rw[List.getElem?_map,adx hl hi hk,asA];rfl
theorem ak9{r c K:Nat}{zs:List Int}(hl:zs.length=r*c)(hr:r≤64)(hc:c≤64)(hz:∀z∈zs,z.natAbs < WB ^ K)(hK:K≤10000)(hK1:1≤K):ah prog 136 [.agg (sD r c zs)] (.agg (vlA (dQ r c (zs.map fun z:Int=>(z:Rat))))):=by
 have cF:=aon (MZ.made hz) (by rw[zq5];exact hl) hr hc hK hK1
 rw[←atr,amI hl,nA]at cF;have hb:∀x∈zs.map (fun z:Int=>(z:Rat)),RB x K:=fun x hx=>by
  obtain⟨z,hz',rfl⟩:=List.mem_map.1 hx;exact RB.ofI (hz z hz') hK1
 have cM:=jl (r:=r) (c:=c) (MV.made hb) (by rw[zq5,zq5];exact hl) hr hc (by omega)
 refine ah.fnF func136 results136 ntmps136 rfl rfl rfl (by simp[AV.ids,AV0.ids,Atom.ids]) rfl (fun w0 T B E0 hB=>?_)
 refine SX.goM ?_;refine aa5 (ak.gX rfl rfl rfl) ?_;exact AV0.imp.refl _
theorem adw{r c K:Nat}{zs:List Int}(hl:zs.length=r*c)(hr:r≤64)(hc:c≤64)(hz:∀z∈zs,z.natAbs < WB ^ K)(hK:K≤10000)(hK1:1≤K):ah prog 128 [.agg (sD r c zs),.v (.int .i64 0)] (.agg (mW (dQ r c (zs.map fun z:Int=>(z:Rat))) 0 true)):=by
 have cT:=ak9 hl hr hc hz hK hK1;have cD:=ql (dQ r c (zs.map fun z:Int=>(z:Rat)))
 refine ah.fnF func128 results128 ntmps128 rfl rfl rfl (by simp[AV.ids,AV0.ids,Atom.ids]) rfl (fun w0 T B E0 hB=>?_)
 refine SX.goM ?_;refine lV (ak.kT rfl rfl rfl) ?_;exact AV0.imp.refl _
abbrev lg:List UInt8:=[122,101,114,111]
abbrev vI(z:Int):Vl:=fC (z:Rat)
theorem yY{r:Nat}(h:r≤64):(r:Int).natAbs < WB ^ 1:=by rw[Nat.pow_one,bV];omega
theorem aaq{r c:Nat}(hr:r≤64)(hc:c≤64):ah prog 80 [.agg (gN lg [vI r,vI c])] (.agg (mW (dQ r c ((kV c (fun _ _=>0) r).map fun z:Int=>(z:Rat))) 0 true)):=by
 have w1:=aa3 (yY hr) (Nat.le_refl 1) (by decide)
 have w2:=aa3 (yY hc) (Nat.le_refl 1) (by decide)
 have cA:ah prog 125 [.agg (gN lg [vI r,vI c]),.v (str lg),.v (str [110,110])] (.v (.bool true)):=alP (fun _=>true) rfl (Nat.le_of_ble_eq_true rfl) (fun i v hv=>by
  match i,hv with
  |0,hv=>cases hv;exact aap w1
  |1,hv=>cases hv;exact aap w2)
 have n1:ah prog 127 [.agg (gN lg [vI r,vI c]),.v (.int .i64 0)] (.agg (zN (r:Int))):=aoT (i:=0) rfl (by decide) w1
 have n2:ah prog 127 [.agg (gN lg [vI r,vI c]),.v (.int .i64 1)] (.agg (zN (c:Int))):=aoT (i:=1) rfl (by decide) w2
 have s1:=abY (z:=(r:Int)) (by omega) (by omega)
 have s2:=abY (z:=(c:Int)) (by omega) (by omega)
 have cN:=amA hr hc;have cM:=adw (r:=r) (c:=c) (K:=1) (zs:=kV c (fun _ _=>0) r) (uQ ..) hr hc (apL fun _ _ _ _=>by rw[Nat.pow_one,bV];decide) (by decide) (by decide)
 refine ah.fnF func80 results80 ntmps80 rfl rfl rfl (by simp[AV.ids,AV0.ids,Atom.ids]) rfl (fun w0 T B E0 hB=>?_)
 refine SX.goM ?_;refine lV (ak.kT rfl rfl rfl) ?_;exact AV0.imp.refl _
end
section
section
def zmd(p:Nat)(z:Int):Nat:=(z % (p:Int)).toNat
attribute [local irreducible] IntKind.wrap Go1 Reg WP aR aU bR bO aN aF ak aj aY Sat
attribute [local irreducible] bS dn cK dD dh qv bW mf PrP qOk zOk vP eu lz vF cq rqv fB dw dN d9 gP jn sq aV qS zS tS tbS plS mdS zmd
end
section
def mX:List UInt8:=[32,122,101,114,111,32,105,100,32,116,114,97,110,115,112,111,115,101,32,114,111,119,115,32,99,111,108,115,32,100,101,116,32,105,110,118,32,114,97,110,107,32,116,114,97,99,101,32,97,100,106,32,104,110,102,32,109,111,100,104,110,102,32,115,110,102,32,107,101,114,110,101,108,32,105,109,97,103,101,32,115,97,116,117,114,97,116,101,32,115,111,108,118,101,32,108,108,108,32,99,104,97,114,32,109,105,110,32,102,114,111,98,32,105,110,118,97,114,105,97,110,116,115,32,99,111,109,112,97,110,105,111,110,32,112,111,108,121,32,109,111,100,32,108,105,102,116,32,100,101,103,32,101,118,97,108,32,100,101,114,105,118,101,32,103,99,100,32,120,103,99,100,32,102,108,111,111,114,32,114,111,117,110,100,32,97,98,115,32,110,117,109,32,100,101,110,32,112,114,105,109,101,32,99,114,116,32,112,111,119,109,111,100,32,108,101,110,32,102,97,99,116,111,114,115,32]
abbrev fnC(f:FuncId):List CA:=[.val (.func (.func f) #[] #[])]
instance:dH fnC 1:=⟨fun _=>rfl⟩
theorem FnV.val{P:Program}{f:FuncId}{args:List AV}{r:AV}(h:ah P f args r):FnV P (.val (.func (.func f) #[] #[])) args r:=by
 intro S w v hv;cases hv;exact⟨f,[],[],[],[],rfl,fun E=>trivial,fun E=>trivial,by simpa using h⟩
theorem dR{s t:List UInt8}{b:Bool}(hs:s.length < 4294967281)(hb:Lib.contains s t=b):ah prog 79 [.v (str s),.v (str t)] (.v (.bool b)):=by
 refine⟨⟨_,func79,rfl,rfl⟩,fun E S w vs hl hg hv _ _ _=>?_⟩
 match vs,hv with
 |[x,y],⟨h1,h2,_⟩=>
  have h1':x=str s:=h1;have h2':y=str t:=h2;subst h1' h2';obtain⟨_,_,m,hm⟩:=hg.2 0 (by simp[ar4])
  refine(strings_Contains ⟨⟨s⟩⟩ ⟨⟨t⟩⟩ m w hs hm).mono ?_;rintro e w' ⟨rfl,rfl⟩;refine⟨_,E,S,rfl,{env:=fun _ _=>⟨rfl,rfl⟩,fpe:=fun _ _=>rfl,sub:=fun _ h=>h,new:=fun _ h=> .inl h,lt:=hl,off:=Off.refl _ _,res:=?_,ents:=fun _ _ h=>(by cases h),blk:=fun _ _ _ h=>(by cases h),sep:=fun _ _ _ _ _ _ h=>(by cases h)}⟩
  show Value.bool (Lib.contains s t)=Value.bool b;rw[hb]
instance con_asI(t t2 so:List UInt8)(vs:List Vl):Con prog 125 [.agg (gN t vs),.v (str t2),.v (str so)] ((t==t2)=false) (.v (.bool false)):=⟨fun h=>af4 h⟩
attribute [local irreducible] IntKind.wrap Go1 Reg WP aR aU bR bO aN aF ak aj aY Sat
attribute [local irreducible] bS dn cK dD dh qv bW mf PrP qOk zOk vP eu lz vF cq rqv fB dw dN d9 gP jn sq aV qS zS tS tbS plS mdS zmd
abbrev akP:List Atom:=mW v0 0 false
theorem amf{P:Program}{C:Ctx}{st:St}{r:ResultVar}(h:ak P st r (.agg [.c (.val (.int .i64 0)),.c (.val (.bool false)),.c (.val (.slice none 0 0)),.c (.val (.bool false)),.c (.val (.slice none 0 0)),.c (.val (.int .i64 0)),.c (.val (.int .i64 0)),.c (.val (.slice none 0 0)),.c (.val (.slice none 0 0)),.c (.val (.int .u64 0)),.c (.val (.int .i64 0)),.c (.val (.int .i64 0)),.c (.val (.slice none 0 0)),.c (.val (.slice none 0 0)),.c (.val (.slice none 0 0)),.c (.val (.int .i64 0)),.c (.val (.bool false))])):aN C P [r] ⟨.it (.agg akP),[]⟩ st:=
 lV h (nT ⟨aO.refl _,aO.refl _,aO.acu,aO.refl _,aO.acu,aO.refl _,aO.refl _,aO.nil,aO.nil,aO.refl _,aO.refl _,aO.refl _,aO.nil,aO.nil,aO.nil,aO.refl _,aO.refl _,trivial⟩)
theorem aeg{l:List Int}:gQ (l.map fun z:Int=>(z:Rat))=1:=by
 refine Nat.dvd_one.1 (ags fun v hv=>?_)
 obtain⟨z,_,rfl⟩:=List.mem_map.1 hv;rw[Rat.den_intCast];exact Nat.one_dvd 1
theorem ame(l:List Int):kJ (l.map fun z:Int=>(z:Rat))=l:=by
 unfold kJ;rw[aeg,List.map_map];refine(List.map_congr_left fun z _=>?_).trans (List.map_id l)
 show ((z:Rat)*qj ((1:Nat):Int)).num=z;rw[ahN];have:(z:Rat)*(((1:Nat):Int):Rat)=(z:Rat):=by grind
 rw[this];exact Rat.num_intCast z
section
variable{p:Nat}(hp:PrP p){w:Vl}
include hp
end
end
section
section
variable{P:Program}{C:Ctx}{st:St}{ops rest:List Oper}{acc:List (List Nat×List Nat)}{K:List (List Nat×List Nat)→St→Prop}{dst:Option Tmp}{ty t:TypeId}{x:Operand}
end
attribute [local irreducible] IntKind.wrap Go1 Reg WP aR aU bR bO aN aF ak aj aY Sat
attribute [local irreducible] bS dn cK dD dh qv bW mf PrP qOk zOk vP eu lz vF cq rqv fB dw dN d9 gP jn sq aV qS zS tS tbS plS mdS zmd
section
variable{p:Nat}(hp:PrP p)
include hp
end
abbrev groups:List FuncId:=[80,81,82,83,84,85,86]
abbrev vlZ:List Atom:=[.c (.val (.int .i64 0)),.c (.val (.bool false)),.c (.val (.slice none 0 0)),.c (.val (.bool false)),.c (.val (.slice none 0 0)),.c (.val (.int .i64 0)),.c (.val (.int .i64 0)),.c (.val (.slice none 0 0)),.c (.val (.slice none 0 0)),.c (.val (.int .u64 0)),.c (.val (.int .i64 0)),.c (.val (.int .i64 0)),.c (.val (.slice none 0 0)),.c (.val (.slice none 0 0)),.c (.val (.slice none 0 0))]
theorem af3{t:List UInt8}{vs:List Vl}{r:Vl}{n0:Nat}(htl:t.length≤1000)(hn:n0 < 7)(hl:vs.length≤100000)(hF:∀v∈vs,ah prog 78 [.agg (vlA v)] (.v (.bool true)))
  (c1:ah prog 79 [.v (str mX),.v (str (([32]++t)++[32]))] (.v (.bool true))) (c2:ah prog 79 [.v (str t),.v (str [32])] (.v (.bool false)))
  (hno:∀(k:Nat) f,k < n0→groups[k]? =some f→ah prog f [.agg (gN t vs)] (.agg akP)) (hyes:∀f,groups[n0]? =some f→ah prog f [.agg (gN t vs)] (.agg (mW r 0 true))):
  ah prog 28 [.v (str t),.r (aA 15 vlE vs)] (.tup [.agg (vlA r),eNo 0]):=by
 have hg:groups.length=7:=rfl;refine ah.fnF func28 results28 ntmps28 rfl rfl rfl (by simp[AV.ids,AV0.ids,Atom.ids]) rfl (fun w0 T B E0 hB=>?_)
 refine SX.goM ?_;refine W.loop (fun k=>k≤vs.length) (fun k=>[(0,.v (str t)),(1,.r (aA 15 vlE vs)),(4,.ptr 4 0),(12,.r (aA 15 vlE vs)),(13,.v (.int .i64 (vs.length:Int))),(14,.v (.int .i64 (k:Int)))]) (fun k=>[(4,.box 42 vlZ)]) (fun k=>vs.length - k) 0 (Nat.zero_le _) (fun k hk=>?_)
 by_cases h:k < vs.length
 ·obtain⟨v,hv⟩:∃v,vs[k]? =some v:=⟨_,zq2 h⟩
  have cF:=hF v (zq4 hv);refine SX.goM ?_;exact W.next (k+1) h (by omega)
 ·obtain rfl:k=vs.length:=by omega
  refine SX.goM ?_;refine SX.Go1.xM (n:=7) (size:=1) (m:=[.val (.func (.func 80) #[] #[]),.val (.func (.func 81) #[] #[]),.val (.func (.func 82) #[] #[]),.val (.func (.func 83) #[] #[]),.val (.func (.func 84) #[] #[]),.val (.func (.func 85) #[] #[]),.val (.func (.func 86) #[] #[])]) (l:=[.c (.val (.func (.func 80) #[] #[])),.c (.val (.func (.func 81) #[] #[])),.c (.val (.func (.func 82) #[] #[])),.c (.val (.func (.func 83) #[] #[])),.c (.val (.func (.func 84) #[] #[])),.c (.val (.func (.func 85) #[] #[])),.c (.val (.func (.func 86) #[] #[]))]) rfl rfl rfl rfl rfl (by kernel_rfl) rfl rfl ?_
  refine SX.goM ?_;refine W.loop (fun k=>k≤n0) (fun k=>[(4,.ptr 4 0),(8,.ptr 8 0),(36,.r (aA 1 fnC groups)),(37,.v (.int .i64 7)),(38,.v (.int .i64 (k:Int)))]) (fun k=>[(4,.box 42 vlZ),(8,.box 137 (gN t vs))]) (fun k=>n0 - k) 0 (Nat.zero_le _) (fun k hk=>?_)
  obtain⟨f,hf⟩:∃f,groups[k]? =some f:=⟨_,zq2 (by omega)⟩
  by_cases h2:k < n0
  ·have cV:=FnV.val (hno k f h2 hf);refine SX.goM ?_;exact W.next (k+1) h2 (by omega)
  ·obtain rfl:k=n0:=by omega
   have cV:=FnV.val (hyes f hf);refine SX.goM ?_;exact .ok (aF.mk2 (ak.gX rfl rfl rfl) (ak.tmp rfl))
end
end
end Go.Proofs.YtjnhnbgpifohjaaGreatDoor