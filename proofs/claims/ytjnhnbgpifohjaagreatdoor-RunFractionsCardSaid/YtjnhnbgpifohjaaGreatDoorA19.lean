import Derived.Test.YtjnhnbgpifohjaaGreatDoorA17
import Derived.Test.YtjnhnbgpifohjaaGreatDoorA12
import Derived.Test.YtjnhnbgpifohjaaGreatDoorA21
import Derived.Test.YtjnhnbgpifohjaaGreatDoorA18
import Derived.Test.YtjnhnbgpifohjaaGreatDoorA15
import Derived.Test.YtjnhnbgpifohjaaGreatDoorA14
import Derived.Test.YtjnhnbgpifohjaaGreatDoorA16
set_option linter.unusedVariables false
set_option linter.unusedSimpArgs false
set_option linter.unusedSectionVars false
open Go.Proofs.Tryz
namespace Go.Proofs.YtjnhnbgpifohjaaGreatDoor
open Go.RowKit QM SX LA
section
attribute [local irreducible] bS dn cK dD dh qv bW mf PrP qOk zOk vP eu lz vF cq rqv fB dw dN d9 gP jn sq aV qS zS tS tbS plS mdS zmd
theorem nM:mX.length < 4294967281:=by have e:mX.length=226:=rfl;omega
theorem apO:ah prog 79 [.v (str mX),.v (str (([32]++lg)++[32]))] (.v (.bool true)):=dR nM (by kernel_rfl)
theorem aqJ:ah prog 79 [.v (str lg),.v (str [32])] (.v (.bool false)):=dR (by decide) (by kernel_rfl)
theorem zJ{z:Int}{K:Nat}(h:z.natAbs < WB ^ K)(h1:1≤K)(hK:K≤100000):ah prog 78 [.agg (vlA (vI z))] (.v (.bool true)):=
 (Cv.one (n:=0) (.num _ (RB.ofI h h1):Sh K (fC (z:Rat)))).F hK (by decide)
theorem abd{r c:Nat}(hr:r≤64)(hc:c≤64):ah prog 28 [.v (str lg),.r (aA 15 vlE [vI r,vI c])] (.tup [.agg (vlA (dQ r c ((kV c (fun _ _=>0) r).map fun z:Int=>(z:Rat)))),eNo 0]):=by
 refine af3 (n0:=0) (by decide) (by decide) (Nat.le_of_ble_eq_true rfl) (fun v hv=>?_) apO aqJ (fun k f hk _=>absurd hk (Nat.not_lt_zero _)) (fun f hf=>?_)
 ·rcases List.mem_cons.1 hv with rfl|hv
  ·exact zJ (yY hr) (Nat.le_refl 1) (by decide)
  ·rw[List.mem_singleton]at hv;subst hv;exact zJ (yY hc) (Nat.le_refl 1) (by decide)
 ·cases hf;exact aaq hr hc
end
section
def qdn(x d:Rat):Nat→Rat
 |0=>x
 |k+1=>qdn x d k / d
theorem acv{x d:Rat}{K L:Nat}(hx:RB x K)(hd:RB d L)(h0:d≠0):∀k,RB (qdn x d k) (K+k*L)
 |0=>by rw[Nat.zero_mul];exact hx
 |k+1=>by
  have:=(acv hx hd h0 k).div hd h0;rw[show K+(k+1)*L=K+k*L+L by rw[Nat.succ_mul];omega]
  exact this
def ac3(n:Nat)(zs:List Int):Int:=akp (zgM (zat zs n) n n) n
def afg(n:Nat)(vs:List Rat):Rat:=qdn ((ac3 n (kJ vs):Int):Rat) (((gQ vs:Nat):Int):Rat) n
abbrev ag6:List UInt8:=[116,114,97,110,115,112,111,115,101]
abbrev kY:List UInt8:=[100,101,116]
abbrev acH:List UInt8:=[105,110,118]
abbrev ahe:List UInt8:=[114,97,110,107]
abbrev anZ:List Atom:=[.c (.val (.int .i64 0)),.c (.val (.bool false)),.c (.val (.slice none 0 0)),.c (.val (.bool false)),.c (.val (.slice none 0 0)),.c (.val (.int .i64 0)),.c (.val (.int .i64 0)),.c (.val (.slice none 0 0)),.c (.val (.slice none 0 0)),.c (.val (.int .u64 0)),.c (.val (.int .i64 0)),.c (.val (.int .i64 0)),.c (.val (.slice none 0 0)),.c (.val (.slice none 0 0)),.c (.val (.slice none 0 0)),.c (.val (.int .i64 0)),.c (.val (.bool false))]
attribute [local irreducible] IntKind.wrap Go1 Reg WP aR aU bR bO aN aF ak aj aY Sat
attribute [local irreducible] bS dn cK dD dh qv bW mf PrP qOk zOk vP eu lz vF cq rqv fB dw dN d9 gP jn sq aV qS zS tS tbS plS mdS zmd ac3 qdn
theorem abN{n K:Nat}{zs:List Int}(hl:zs.length=n*n)(hn:n≤64)(hz:∀z∈zs,z.natAbs < WB ^ K)(hK1:1≤K)(hkz:kz K n≤1000000):
  ah prog 13 [.agg (sD n n zs)] (.tup [.agg (zN (ac3 n zs)),eNo 0]):=by
 have hl2:(zs.map z2v).length=n*n:=by rw[zq5];exact hl
 have hKK:=aev n K;have cF:ah prog 105 [.agg (iT n n (aA 2 zC zs))] (.v (.bool true)):=by
  have h:=ag4 (cells:=(zs.map z2v).flatMap z2C) (iO.nat hn hn hl2);have e:ah prog 105 [.agg (acG n n (zs.map z2v))] (.v (.bool true)):=h;rw[←acf]at e;exact e
 unfold ac3;refine alp (x:=aA 2 zC zs) (va:=zat zs n) hn cF (fun i k hi hk=>?_) (fun i k hi hk=>?_) hK1 hkz
 ·have h:=ahU (r:=n) (c:=n) (MZ.made hz) hl2 hn hn hi hk (by omega)
  rw[←acf]at h;exact h
 ·exact hz _ (zq4 (adx hl hi hk))
theorem aiA{n K:Nat}{zs:List Int}(hl:zs.length=n*n)(hz:∀z∈zs,z.natAbs < WB ^ K)(hK1:1≤K):(ac3 n zs).natAbs < WB ^ kz K n:=by
 unfold ac3;exact aq1 (agS (fun i k hi hk=>hz _ (zq4 (adx hl hi hk))) hK1)
theorem yA{n K:Nat}{vs:List Rat}(hl:vs.length=n*n)(hn:n≤64)(hv:∀v∈vs,RB v K)(hK1:1≤K)(hB0:1+(n*n+1)*K≤50000)(hkz:kz (K+(1+vs.length*K)) n≤10000)(hnk:n*(1+vs.length*K)≤10000):
  ah prog 151 [.agg (iE n n ((vs.map cq).map rq))] (.agg (mW (fC (afg n vs)) 0 true)):=by
 have cC:=wG (r:=n) (c:=n) (MV.cq hv) (by rw[zq5,zq5];exact hl) hn hn hK1 hB0
 have hcz:=ahH hv;have hcl:(kJ vs).length=n*n:=by unfold kJ;rw[zq5];exact hl
 have hkk:=aev n (K+(1+vs.length*K));have cD:=abN hcl hn hcz (by omega) (by omega)
 have hdl:=aiA hcl hcz (by omega)
 have hL:=qU hv vs.length;rw[List.take_length]at hL;have hp:=pI vs;unfold afg;generalize ac3 n (kJ vs)=d at*;generalize gQ vs=m at*;generalize kJ vs=zs at*;have hm1:((m:Nat):Int).natAbs < WB ^ (1+vs.length*K):=by rw[Int.natAbs_natCast];exact hL
 haveI iD:Bd d (kz (K+(1+vs.length*K)) n):=⟨hdl⟩
 haveI iM:Bd ((m:Nat):Int) (1+vs.length*K):=⟨hm1⟩
 have rd:RB ((d:Int):Rat) (kz (K+(1+vs.length*K)) n):=RB.ofI hdl (by omega)
 have rm:RB (((m:Nat):Int):Rat) (1+vs.length*K):=RB.ofI hm1 (by omega)
 have hm0:(((m:Nat):Int):Rat)≠0:=fun h=>by
  have:((m:Nat):Int)=0:=by exact_mod_cast h
  omega
 have hRB:=acv rd rm hm0;have cO1:ah prog 14 [.agg (zN d)] (.agg (qA ((d:Int):Rat))):=mM.h (by omega)
 have cO2:ah prog 14 [.agg (zN ((m:Nat):Int))] (.agg (qA (((m:Nat):Int):Rat))):=mM.h (by omega)
 generalize ((d:Int):Rat)=x at*;generalize hy:(((m:Nat):Int):Rat)=y at*;have cN:=sQ (q:=q4v (qdn x y n)) (hRB n).ra (by
  omega)
 have cf:=aov (fC (qdn x y n));have e0:qdn x y 0=x:=by unfold qdn;rfl
 have es:∀k,qdn x y (k+1)=qdn x y k / y:=fun k=>by conv=>lhs;unfold qdn
 refine ah.fnF func151 results151 ntmps151 rfl rfl rfl (by simp[AV.ids,AV0.ids,Atom.ids]) rfl (fun w0 T B E0 hB=>?_)
 refine SX.goM ?_;refine W.loop (fun k=>k≤n) (fun k=>[(1,.ptr 1 0),(2,.ptr 2 0),(4,.ptr 4 0),(8,.ptr 8 0),(28,.v (.int .i64 (n:Int))),(29,.v (.int .i64 (k:Int)))]) (fun k=>[(1,.box 24 (iE n n ((vs.map cq).map rq))),(2,.box 142 anZ),(4,.box 31 (zN ((m:Nat):Int))),(8,.box 33 (qA (qdn x y k)))]) (fun k=>n - k) 0 (Nat.zero_le _) (fun k hk=>?_)
  (by
   rw[e0];refine SX.St.aZ [] (by intro b h;cases h) ?_ ?_ rfl
   ·repeat(first|exact trivial|refine⟨⟨_,rfl,SX.aG.same rfl⟩,?_⟩)
   ·exact⟨SX.ay.same rfl rfl,SX.ay.same rfl rfl,SX.ay.same rfl rfl,SX.ay.same rfl rfl,trivial⟩)
 by_cases h:k < n
 ·have ik:=(hRB k).ra;have iy:=rm.ra;have hkn:=Nat.mul_le_mul_right (1+vs.length*K) (show k+1≤n from h)
  rw[Nat.succ_mul]at hkn;have cQ:ah prog 15 [.agg (qA (qdn x y k)),.agg (qA y)] (.tup [.agg (qA (qdn x y (k+1))),.one (.c (.val (.bool (decide (y≠0)))))]):=by
   rw[es];exact uL.h (by omega)
  refine SX.goM ?_;refine W.next (k+1) h (by omega) (by
   refine SX.St.aZ [] (by intro b h;cases h) ?_ ?_ rfl
   ·repeat(first|exact trivial|refine⟨⟨_,rfl,SX.aG.same rfl⟩,?_⟩)
   ·exact⟨SX.ay.same rfl rfl,SX.ay.same rfl rfl,SX.ay.same rfl rfl,SX.ay.same rfl rfl,trivial⟩)
 ·obtain rfl:k=n:=by omega
  refine SX.goM ?_;refine lV (ak.kT rfl rfl rfl) ?_;exact AV0.imp.refl _
section
variable{t:List UInt8}{vs:List Vl}(ht:t=ag6∨t=kY∨t=acH∨t=ahe)
include ht
theorem abr:ah prog 80 [.agg (gN t vs)] (.agg akP):=by
 rcases ht with rfl|rfl|rfl|rfl <;> (
  refine ah.fnF func80 results80 ntmps80 rfl rfl rfl (by simp[AV.ids,AV0.ids,Atom.ids]) rfl (fun w0 T B E0 hB=>?_)
  refine SX.goM ?_;exact amf (ak.kT rfl rfl rfl)
 )
theorem abU:ah prog 81 [.agg (gN t vs)] (.agg akP):=by
 rcases ht with rfl|rfl|rfl|rfl <;> (
  refine ah.fnF func81 results81 ntmps81 rfl rfl rfl (by simp[AV.ids,AV0.ids,Atom.ids]) rfl (fun w0 T B E0 hB=>?_)
  refine SX.goM ?_;exact amf (ak.kT rfl rfl rfl)
 )
theorem yc:ah prog 82 [.agg (gN t vs)] (.agg akP):=by
 rcases ht with rfl|rfl|rfl|rfl <;> (
  refine ah.fnF func82 results82 ntmps82 rfl rfl rfl (by simp[AV.ids,AV0.ids,Atom.ids]) rfl (fun w0 T B E0 hB=>?_)
  refine SX.goM ?_;exact amf (ak.kT rfl rfl rfl)
 )
end
theorem ajG{t:List UInt8}{r c:Nat}{vs:List Rat}:ah prog 125 [.agg (gN t [dQ r c vs]),.v (str t),.v (str [120])] (.v (.bool true)):=by
 have cS:=agC (dQ r c vs);rw[decide_eq_true rfl]at cS;exact alP (so:=[120]) (fun _=>true) rfl (Nat.le_of_ble_eq_true rfl) fun i v hv=>by
  match i,hv with
  |0,hv=>cases hv;exact cS
theorem vG{n:Nat}{vs:List Rat}{r:Vl}(cD:ah prog 151 [.agg (iE n n ((vs.map cq).map rq))] (.agg (mW r 0 true))):ah prog 83 [.agg (gN kY [dQ n n vs])] (.agg (mW r 0 true)):=by
 have hv:[dQ n n vs][0]? =some (dQ n n vs):=rfl;have ca:=ajG (t:=kY) (r:=n) (c:=n) (vs:=vs);refine ah.fnF func83 results83 ntmps83 rfl rfl rfl (by simp[AV.ids,AV0.ids,Atom.ids]) rfl (fun w0 T B E0 hB=>?_)
 refine SX.goM ?_;refine lV (ak.kT rfl rfl rfl) ?_;exact AV0.imp.refl _
theorem anO:ah prog 79 [.v (str mX),.v (str (([32]++kY)++[32]))] (.v (.bool true)):=dR nM (by kernel_rfl)
theorem amV:ah prog 79 [.v (str kY),.v (str [32])] (.v (.bool false)):=dR (by decide) (by kernel_rfl)
theorem vM{n K:Nat}{vs:List Rat}(hl:vs.length=n*n)(hn:n≤64)(hv:∀v∈vs,RB v K)(hK1:1≤K)(hKK:K≤10000)(hB0:1+(n*n+1)*K≤50000)(hkz:kz (K+(1+vs.length*K)) n≤10000)(hnk:n*(1+vs.length*K)≤10000):
  ah prog 28 [.v (str kY),.r (aA 15 vlE [dQ n n vs])] (.tup [.agg (vlA (fC (afg n vs))),eNo 0]):=by
 refine af3 (n0:=3) (by decide) (by decide) (Nat.le_of_ble_eq_true rfl) (fun u hu=>?_) anO amV (fun k f hk hf=>?_) (fun f hf=>?_)
 ·rw[List.mem_singleton]at hu;subst hu;exact(Cv.one (n:=0) (.mat n n _ (by rw[hl]) hn hn hv:Sh K _)).F (by omega) (by decide)
 ·match k,hk,hf with
  |0,_,hf=>cases hf;exact abr (.inr (.inl rfl))
  |1,_,hf=>cases hf;exact abU (.inr (.inl rfl))
  |2,_,hf=>cases hf;exact yc (.inr (.inl rfl))
 ·cases hf;exact vG (yA hl hn hv hK1 hB0 hkz hnk)
end
section
attribute [local irreducible] IntKind.wrap Go1 Reg WP aR aU bR bO aN aF ak aj aY Sat
attribute [local irreducible] bS dn cK dD dh qv bW mf PrP qOk zOk vP eu lz vF cq rqv fB dw dN d9 gP jn sq aV qS zS tS tbS plS mdS zmd ac3 qdn
theorem ajf{e:Int}:(AV0.agg [.c (.val (.int .i64 0)),.c (.val (.bool false)),.c (.val (.slice none 0 0)),.c (.val (.bool false)),.c (.val (.slice none 0 0)),.c (.val (.int .i64 0)),.c (.val (.int .i64 0)),.c (.val (.slice none 0 0)),.c (.val (.slice none 0 0)),.c (.val (.int .u64 0)),.c (.val (.int .i64 0)),.c (.val (.int .i64 0)),.c (.val (.slice none 0 0)),.c (.val (.slice none 0 0)),.c (.val (.slice none 0 0)),.c (.val (.int .i64 e)),.c (.val (.bool true))]).imp (.agg (mW v0 e true)):=
 nT ⟨aO.refl _,aO.refl _,aO.acu,aO.refl _,aO.acu,aO.refl _,aO.refl _,aO.nil,aO.nil,aO.refl _,aO.refl _,aO.refl _,aO.nil,aO.nil,aO.nil,aO.refl _,aO.refl _,trivial⟩
theorem akU(v:Vl){e:Int}(h:e≠0):ah prog 134 [.agg (vlA v),.v (.int .i64 e)] (.agg (mW v0 e true)):=by
 refine ah.fnF func134 results134 ntmps134 rfl rfl rfl (by simp[AV.ids,AV0.ids,Atom.ids]) rfl (fun w0 T B E0 hB=>?_)
 refine SX.goM ?_;exact lV (ak.kT rfl rfl rfl) ajf
theorem akr{e:Int}(h:e≠0):ah prog 134 [.agg vlZ,.v (.int .i64 e)] (.agg (mW v0 e true)):=by
 refine ah.fnF func134 results134 ntmps134 rfl rfl rfl (by simp[AV.ids,AV0.ids,Atom.ids]) rfl (fun w0 T B E0 hB=>?_)
 refine SX.goM ?_;exact lV (ak.kT rfl rfl rfl) ajf
theorem aj3{n:Nat}(hn:n≤1000000000):ah prog 131 [.v (.int .i64 (n:Int))] (.agg (vlA (vI (n:Int)))):=by
 have cO:ah prog 18 [.v (.int .i64 (n:Int))] (.agg (zN (n:Int))):=ad8.h ⟨by omega,by omega⟩
 have hb:((n:Nat):Int).natAbs < WB ^ 1:=by rw[Nat.pow_one,bV];omega
 have cW:ah prog 17 [.agg (zN (n:Int))] (.agg (vlA (vI (n:Int)))):=wz (q:=z2v (n:Int)) (ZQ.made hb) (Nat.le_refl 1) (by decide)
 refine ah.fnF func131 results131 ntmps131 rfl rfl rfl (by simp[AV.ids,AV0.ids,Atom.ids]) rfl (fun w0 T B E0 hB=>?_)
 refine SX.goM ?_;refine aa5 (ak.gX rfl rfl rfl) ?_;exact AV0.imp.refl _
theorem aku{t:List UInt8}{vs:List Vl}{r:Vl}{e:Int}{n0:Nat}(htl:t.length≤1000)(hn:n0 < 7)(hl:vs.length≤100000)(hF:∀v∈vs,ah prog 78 [.agg (vlA v)] (.v (.bool true)))
  (c1:ah prog 79 [.v (str mX),.v (str (([32]++t)++[32]))] (.v (.bool true))) (c2:ah prog 79 [.v (str t),.v (str [32])] (.v (.bool false)))
  (hno:∀(k:Nat) f,k < n0→groups[k]? =some f→ah prog f [.agg (gN t vs)] (.agg akP)) (hyes:∀f,groups[n0]? =some f→ah prog f [.agg (gN t vs)] (.agg (mW r e true))):
  ah prog 28 [.v (str t),.r (aA 15 vlE vs)] (.tup [.agg (vlA r),eNo e]):=by
 have hg:groups.length=7:=rfl;refine ah.fnF func28 results28 ntmps28 rfl rfl rfl (by simp[AV.ids,AV0.ids,Atom.ids]) rfl (fun w0 T B E0 hB=>?_)
 refine SX.goM ?_;refine W.loop (fun k=>k≤vs.length) (fun k=>[(0,.v (str t)),(1,.r (aA 15 vlE vs)),(4,.ptr 4 0),(12,.r (aA 15 vlE vs)),(13,.v (.int .i64 (vs.length:Int))),(14,.v (.int .i64 (k:Int)))]) (fun k=>[(4,.box 42 vlZ)]) (fun k=>vs.length - k) 0 (Nat.zero_le _) (fun k hk=>?_)
 by_cases h:k < vs.length
 ·obtain⟨v,hv⟩:∃v,vs[k]? =some v:=⟨_,zq2 h⟩
  have cF:=hF v (zq4 hv);refine SX.goM ?_;exact W.next (k+1) h (by omega)
 ·obtain rfl:k=vs.length:=by omega
  refine SX.goM ?_;refine SX.Go1.xM (n:=7) (size:=1) (m:=[.val (.func (.func 80) #[] #[]),.val (.func (.func 81) #[] #[]),.val (.func (.func 82) #[] #[]),.val (.func (.func 83) #[] #[]),.val (.func (.func 84) #[] #[]),.val (.func (.func 85) #[] #[]),.val (.func (.func 86) #[] #[])]) (l:=[.c (.val (.func (.func 80) #[] #[])),.c (.val (.func (.func 81) #[] #[])),.c (.val (.func (.func 82) #[] #[])),.c (.val (.func (.func 83) #[] #[])),.c (.val (.func (.func 84) #[] #[])),.c (.val (.func (.func 85) #[] #[])),.c (.val (.func (.func 86) #[] #[]))]) rfl rfl rfl rfl rfl (by kernel_rfl) rfl rfl ?_
  refine SX.goM ?_;refine W.loop (fun k=>k≤n0) (fun k=>[(4,.ptr 4 0),(8,.ptr 8 0),(36,.r (aA 1 fnC groups)),(37,.v (.int .i64 7)),(38,.v (.int .i64 (k:Int)))]) (fun k=>[(4,.box 42 vlZ),(8,.box 137 (gN t vs))]) (fun k=>n0 - k) 0 (Nat.zero_le _) (fun k hk=>?_)
  obtain⟨f,hf⟩:∃f,groups[k]? =some f:=⟨_,zq2 (by omega)⟩
  by_cases h2:k < n0
  ·have cV:=FnV.val (hno k f h2 hf);refine SX.goM ?_;exact W.next (k+1) h2 (by omega)
  ·obtain rfl:k=n0:=by omega
   have cV:=FnV.val (hyes f hf);refine SX.goM ?_;exact .ok (aF.mk2 (ak.gX rfl rfl rfl) (ak.tmp rfl))
theorem aeJ:ah prog 8 [.agg agQ] (.agg (vlA (dQ 0 0 []))):=
 aoF (jl (r:=0) (c:=0) (l:=[]) (vs:=[]) (K:=1) ⟨rfl,fun i q v h=>by cases h⟩ rfl (by decide) (by decide) (by decide)) ⟨aO.refl _,aO.refl _,aO.nil,trivial⟩
section
variable{r c:Nat}{vs:List Rat}
theorem wP{K:Nat}(hrc:r≠c)(hl:vs.length=r*c)(hr:r≤64)(hc:c≤64)(hv:∀v∈vs,RB v K)(hK1:1≤K)(hB0:1+(r*c+1)*K≤50000):
  ah prog 151 [.agg (iE r c ((vs.map cq).map rq))] (.agg (mW v0 2 true)):=by
 have cC:=wG (r:=r) (c:=c) (MV.cq hv) (by rw[zq5,zq5];exact hl) hr hc hK1 hB0
 have cD:ah prog 13 [.agg (sD r c (kJ vs))] (.tup [.agg (zN 0),eNo 2]):=ab2 (x:=aA 2 zC (kJ vs)) hrc;have cd:=akr (e:=2) (by decide)
 refine ah.fnF func151 results151 ntmps151 rfl rfl rfl (by simp[AV.ids,AV0.ids,Atom.ids]) rfl (fun w0 T B E0 hB=>?_)
 refine SX.goM ?_;refine lV (ak.kT rfl rfl rfl) ?_;exact AV0.imp.refl _
theorem sJ{w:Vl}{e:Int}(cD:ah prog 151 [.agg (iE r c ((vs.map cq).map rq))] (.agg (mW w e true))):ah prog 83 [.agg (gN kY [dQ r c vs])] (.agg (mW w e true)):=by
 have hv:[dQ r c vs][0]? =some (dQ r c vs):=rfl;have ca:=ajG (t:=kY) (r:=r) (c:=c) (vs:=vs);refine ah.fnF func83 results83 ntmps83 rfl rfl rfl (by simp[AV.ids,AV0.ids,Atom.ids]) rfl (fun w0 T B E0 hB=>?_)
 refine SX.goM ?_;refine lV (ak.kT rfl rfl rfl) ?_;exact AV0.imp.refl _
theorem ug{r' c':Nat}{l':List Rat}{w:Vl}(cT:ah prog 9 [.agg (iE r c ((vs.map cq).map rq))] (.tup [.agg (pE r' c' l'),eNo 0]))(cM:ah prog 8 [.agg (pE r' c' l')] (.agg (vlA w))):ah prog 83 [.agg (gN ag6 [dQ r c vs])] (.agg (mW w 0 true)):=by
 have hv:[dQ r c vs][0]? =some (dQ r c vs):=rfl;have ca:=ajG (t:=ag6) (r:=r) (c:=c) (vs:=vs);have cd:=ql w;refine ah.fnF func83 results83 ntmps83 rfl rfl rfl (by simp[AV.ids,AV0.ids,Atom.ids]) rfl (fun w0 T B E0 hB=>?_)
 refine SX.goM ?_;refine lV (ak.kT rfl rfl rfl) ?_;exact AV0.imp.refl _
theorem uw{r' c':Nat}{l':List Rat}{w:Vl}(cT:ah prog 10 [.agg (iE r c ((vs.map cq).map rq))] (.tup [.agg (pE r' c' l'),eNo 0]))(cM:ah prog 8 [.agg (pE r' c' l')] (.agg (vlA w))):ah prog 83 [.agg (gN acH [dQ r c vs])] (.agg (mW w 0 true)):=by
 have hv:[dQ r c vs][0]? =some (dQ r c vs):=rfl;have ca:=ajG (t:=acH) (r:=r) (c:=c) (vs:=vs);have cd:=ql w;refine ah.fnF func83 results83 ntmps83 rfl rfl rfl (by simp[AV.ids,AV0.ids,Atom.ids]) rfl (fun w0 T B E0 hB=>?_)
 refine SX.goM ?_;refine lV (ak.kT rfl rfl rfl) ?_;exact AV0.imp.refl _
theorem mg{e:Int}(he:e≠0)(cT:ah prog 10 [.agg (iE r c ((vs.map cq).map rq))] (.tup [.agg agQ,eNo e])):ah prog 83 [.agg (gN acH [dQ r c vs])] (.agg (mW v0 e true)):=by
 have hv:[dQ r c vs][0]? =some (dQ r c vs):=rfl;have ca:=ajG (t:=acH) (r:=r) (c:=c) (vs:=vs);have cM:=aeJ;have cd:=akU (dQ 0 0 []) he;refine ah.fnF func83 results83 ntmps83 rfl rfl rfl (by simp[AV.ids,AV0.ids,Atom.ids]) rfl (fun w0 T B E0 hB=>?_)
 refine SX.goM ?_;refine lV (ak.kT rfl rfl rfl) ?_;exact AV0.imp.refl _
theorem uf{m:List Rat}{ps:List Nat}(hp:ps.length≤1000)(cT:ah prog 11 [.agg (iE r c ((vs.map cq).map rq))] (.tup [.agg (pE r c m),.one (.c (.sat (aA 1 piC ps))),eNo 0])):ah prog 83 [.agg (gN ahe [dQ r c vs])] (.agg (mW (vI (ps.length:Int)) 0 true)):=by
 have hv:[dQ r c vs][0]? =some (dQ r c vs):=rfl;have ca:=ajG (t:=ahe) (r:=r) (c:=c) (vs:=vs);have cn:=aj3 (n:=ps.length) (by omega)
 have cd:=ql (vI (ps.length:Int));refine ah.fnF func83 results83 ntmps83 rfl rfl rfl (by simp[AV.ids,AV0.ids,Atom.ids]) rfl (fun w0 T B E0 hB=>?_)
 refine SX.goM ?_;refine lV (ak.kT rfl rfl rfl) ?_;exact AV0.imp.refl _
end
theorem kE{t:List UInt8}(ht:t=ag6∨t=kY∨t=acH∨t=ahe){v w:Vl}{e:Int}(hF:ah prog 78 [.agg (vlA v)] (.v (.bool true)))(c1:ah prog 79 [.v (str mX),.v (str (([32]++t)++[32]))] (.v (.bool true)))(c2:ah prog 79 [.v (str t),.v (str [32])] (.v (.bool false)))
  (cf:ah prog 83 [.agg (gN t [v])] (.agg (mW w e true))):ah prog 28 [.v (str t),.r (aA 15 vlE [v])] (.tup [.agg (vlA w),eNo e]):=by
 refine aku (n0:=3) (by rcases ht with rfl|rfl|rfl|rfl <;> decide) (by decide) (Nat.le_of_ble_eq_true rfl) (fun u hu=>?_) c1 c2 (fun k f hk hf=>?_) (fun f hf=>?_)
 ·rw[List.mem_singleton]at hu;subst hu;exact hF
 ·match k,hk,hf with
  |0,_,hf=>cases hf;exact abr ht
  |1,_,hf=>cases hf;exact abU ht
  |2,_,hf=>cases hf;exact yc ht
 ·cases hf;exact cf
theorem asD:ah prog 79 [.v (str mX),.v (str (([32]++ag6)++[32]))] (.v (.bool true)):=dR nM (by kernel_rfl)
theorem asQ:ah prog 79 [.v (str ag6),.v (str [32])] (.v (.bool false)):=dR (by decide) (by kernel_rfl)
theorem agX:ah prog 79 [.v (str mX),.v (str (([32]++acH)++[32]))] (.v (.bool true)):=dR nM (by kernel_rfl)
theorem afV:ah prog 79 [.v (str acH),.v (str [32])] (.v (.bool false)):=dR (by decide) (by kernel_rfl)
theorem arX:ah prog 79 [.v (str mX),.v (str (([32]++ahe)++[32]))] (.v (.bool true)):=dR nM (by kernel_rfl)
theorem as2:ah prog 79 [.v (str ahe),.v (str [32])] (.v (.bool false)):=dR (by decide) (by kernel_rfl)
end
section
section
abbrev vrC(vs:List Vl):List CA:=[.sat (aA 15 vlE vs)]
instance:dH vrC 1:=⟨fun _=>rfl⟩
abbrev rcq(v:Rat):Q4:=rq (cq v)
theorem atA{c n:Nat}{vs:List Rat}{x:Rat}(hx:vs[n]? =some x):((vs.take n).map rcq).flatMap q4C++q4C (rcq x)=((vs.take (n+1)).map rcq).flatMap q4C:=ajK (enc:=q4C) (f:=rcq) hx
attribute [local irreducible] IntKind.wrap Go1 Reg WP aR aU bR bO aN aF ak aj aY Sat
attribute [local irreducible] bS dn cK dD dh qv bW mf PrP qOk zOk vP eu lz vF cq rqv fB dw dN d9 gP jn sq aV qS zS tS tbS plS mdS zmd eG iN nmC
theorem aaZ{L:List (List Vl)}{r c K:Nat}{vs:List Rat}(hL:L.length=r)(hrow:∀(i:Nat) R,L[i]? =some R→R.length=c∧∀k,k < c→∃x,vs[i*c+k]? =some x∧R[k]? =some (fC x))(hl:vs.length=r*c)(hr1:1≤r)(hr:r≤64)(hc:c≤64)(hb:∀v∈vs,RB v K)(hK:K≤10000):
  ah prog 487 [.r (aA 1 vrC L)] (.tup [.agg (vlA (dQ r c vs)),eNo 0]):=by
 have cM:=jl (r:=r) (c:=c) (MV.cq hb) (by rw[zq5,zq5];exact hl) hr hc (by omega)
 obtain⟨R0,h0⟩:∃R,L[0]? =some R:=⟨_,zq2 (by omega)⟩
 obtain⟨hR0,_⟩:=hrow 0 R0 h0;subst hL hR0;have e3:(vs.map cq).map rq=vs.map rcq:=List.map_map ..;have e4:(vs.map rcq).length=vs.length:=zq5 _;have hLc:=Nat.mul_le_mul hr hc;have hd0:decide ((R0.length:Int)≤64)=true:=decide_eq_true (by omega)
 refine ah.fnF func487 results487 ntmps487 rfl rfl rfl (by simp[AV.ids,AV0.ids,Atom.ids]) rfl (fun w0 T B E0 hB=>?_)
 refine SX.goM ?_;rw[hd0];refine W.loop (fun i=>i≤L.length) (fun i=>[(2,.ptr 2 0),(4,.ptr 4 0),(5,.v (.bool true)),(25,.r (aA 1 vrC L)),(26,.v (.int .i64 (L.length:Int))),(27,.v (.int .i64 (i:Int)))]) (fun i=>[(2,.box 42 vlZ),(4,.box 24 [.c (.val (.int .i64 (L.length:Int))),.c (.val (.int .i64 (R0.length:Int))),.own 100]),(100,.row 33 4 (i*R0.length) (((vs.take (i*R0.length)).map rcq).flatMap q4C))]) (fun i=>L.length - i) 0 (Nat.zero_le _) (fun i hi=>?_)
  (by
   refine SX.St.aZ [(100,none)] (by intro b h;cases h) ?_ ?_ rfl
   ·repeat(first|exact trivial|refine⟨⟨_,rfl,SX.aG.same rfl⟩,?_⟩)
   ·exact⟨SX.ay.same rfl rfl,SX.ay.mo rfl rfl ⟨aB.same rfl,aB.same rfl,aB.nil rfl,trivial⟩,by rw[Nat.zero_mul];exact SX.ay.dF rfl,trivial⟩)
 by_cases h:i < L.length
 ·obtain⟨R,hR⟩:∃R,L[i]? =some R:=⟨_,zq2 h⟩
  obtain⟨hRl,hRv⟩:=hrow i R hR;have hd:decide ((R.length:Int)=(R0.length:Int))=true:=decide_eq_true (by omega)
  have hlen:i*R0.length+R0.length≤4096:=by
   have:=Nat.mul_le_mul_right R0.length (show i+1≤L.length by omega)
   rw[Nat.succ_mul]at this;omega
  refine SX.goM ?_;rw[hd];refine W.loop (fun k=>k≤R.length) (fun k=>[(2,.ptr 2 0),(4,.ptr 4 0),(5,.v (.bool true)),(25,.r (aA 1 vrC L)),(26,.v (.int .i64 (L.length:Int))),(27,.v (.int .i64 (i:Int))),(39,.r (aA 15 vlE R)),(40,.v (.int .i64 (R.length:Int))),(41,.v (.int .i64 (k:Int)))]) (fun k=>[(2,.box 42 vlZ),(4,.box 24 [.c (.val (.int .i64 (L.length:Int))),.c (.val (.int .i64 (R0.length:Int))),.own 100]),(100,.row 33 4 (i*R0.length+k) (((vs.take (i*R0.length+k)).map rcq).flatMap q4C))]) (fun k=>R.length - k) 0 (Nat.zero_le _) (fun k hk=>?_)
   (by
    have e:Ent.row 33 4 (i*R0.length) (((vs.take (i*R0.length)).map rcq).flatMap q4C)=Ent.row 33 4 (i*R0.length+0) (((vs.take (i*R0.length+0)).map rcq).flatMap q4C):=by rw[Nat.add_zero]
    refine SX.St.aZ [] (by intro b h;cases h) ?_ ?_ rfl
    ·repeat(first|exact trivial|refine⟨⟨_,rfl,SX.aG.same rfl⟩,?_⟩)
    ·exact⟨SX.ay.same rfl rfl,SX.ay.same rfl rfl,SX.ay.eq rfl e rfl,trivial⟩)
  by_cases h2:k < R.length
  ·obtain⟨x,hx,hv⟩:=hRv k (by omega)
   have e2:=atA (c:=R0.length) hx;refine SX.goM ?_;refine W.next (k+1) h2 (by omega) (by
    refine SX.St.aZ [(100,some 54)] (by intro b h;cases h) ?_ ?_ rfl
    ·repeat(first|exact trivial|refine⟨⟨_,rfl,SX.aG.same rfl⟩,?_⟩)
    ·exact⟨SX.ay.same rfl rfl,SX.ay.mo rfl rfl ⟨aB.same rfl,aB.same rfl,aB.own rfl,trivial⟩,SX.ay.row rfl rfl (by omega) e2,trivial⟩)
  ·have hkR:k=R0.length:=by omega
   subst hkR;refine SX.goM ?_;refine W.next (i+1) h (by omega) (by
    have e2:Ent.row 33 4 (i*R0.length+R0.length) (((vs.take (i*R0.length+R0.length)).map rcq).flatMap q4C)=Ent.row 33 4 ((i+1)*R0.length) (((vs.take ((i+1)*R0.length)).map rcq).flatMap q4C):=by rw[Nat.succ_mul]
    refine SX.St.aZ [] (by intro b h;cases h) ?_ ?_ rfl
    ·repeat(first|exact trivial|refine⟨⟨_,rfl,SX.aG.same rfl⟩,?_⟩)
    ·exact⟨SX.ay.same rfl rfl,SX.ay.same rfl rfl,SX.ay.eq rfl e2 rfl,trivial⟩)
 ·obtain rfl:i=L.length:=by omega
  rw[←hl,List.take_length];rw[e3]at cM;rw[←e4];refine SX.WP.freeze 100 hB rfl ?_;refine SX.goM ?_;exact .ok (aF.mk2 (ak.gX rfl rfl rfl) (ak.tmp rfl))
theorem arT{B:Nat}{nm:Nms}(ns:List Nd)(ks:List Nat)(vss:List (List Vl))(hk:ks.length=ns.length)(hv:vss.length=ns.length)(hl:ns.length≤100000)
  (h:∀(i:Nat) n k vs,ns[i]? =some n→ks[i]? =some k→vss[i]? =some vs→AL B nm n.kids k vs) {v:Vl} (cM:ah prog 487 [.r (aA 1 vrC vss)] (.tup [.agg (vlA v),eNo 0])) (F:Nat) (u:Bool) (la:Vl) (tx:List UInt8) (hF:F+(ks.sum+ns.length)≤1000000000):
  aj prog 459 [.ptr 81 0,.r (aA 3 ndE ns)] (ME (F+(ks.sum+ns.length)) B nm u la tx) ⟨.tup [.agg (vlA v),eNo 0],MO F B nm u la tx⟩:=by
 cases u with
 |false=>
  refine aj.fnM func459 results459 ntmps459 rfl rfl rfl rfl (by first|rfl|(cases u <;> rfl)) (by first|rfl|(cases u <;> rfl)) (by first|rfl|(cases u <;> rfl)) (fun w0 Tw Bw E0 hB=>?_)
  refine SX.goM ?_;refine W.mH (fun k fu=>k≤ns.length∧fu=F+((ks.drop k).sum+(ns.length - k))) (fun k fu=>[(0,.ptr 81 0),(4,.ptr 4 0),(6,.own 100),(9,.r (aA 3 ndE ns)),(10,.v (.int .i64 (ns.length:Int))),(11,.v (.int .i64 (k:Int)))]) (fun k fu=>[(81,MB fu B false la),(82,.abs (gV (nmC nm))),(84,tC tx),(4,.box 42 vlZ),(100,.row 40 1 k ((vss.take k).flatMap vrC))]) (fun k _=>ns.length - k) 0 (F+(ks.sum+ns.length)) ⟨Nat.zero_le _,rfl⟩ (fun k fu ⟨hkn,hfu⟩=>?_)
   (by
    refine SX.St.aZ [(100,none)] (by intro b h;exact SX.bU h rfl) ?_ ?_ rfl
    ·repeat(first|exact trivial|refine⟨⟨_,rfl,SX.aG.same rfl⟩,?_⟩|refine⟨⟨_,rfl,SX.aG.nil rfl⟩,?_⟩)
    ·exact⟨SX.ay.same rfl rfl,SX.ay.same rfl rfl,SX.ay.same rfl rfl,SX.ay.same rfl rfl,SX.ay.dF rfl,trivial⟩)
  by_cases hlt:k < ns.length
  ·obtain⟨n,hn⟩:∃n,ns[k]? =some n:=⟨_,zq2 hlt⟩
   obtain⟨c,hc⟩:∃c,ks[k]? =some c:=⟨_,zq2 (by omega)⟩
   obtain⟨vs,hvk⟩:∃vs,vss[k]? =some vs:=⟨_,zq2 (by omega)⟩
   have hsum:(ks.drop k).sum=c+(ks.drop (k+1)).sum:=by
    obtain⟨hk2,e⟩:=List.getElem?_eq_some_iff.1 hc
    rw[List.drop_eq_getElem_cons hk2,e,List.sum_cons]
   have hle:(ks.drop k).sum≤ks.sum:=by
    conv=>rhs;rw[←List.take_append_drop k ks,List.sum_append]
    omega
   obtain⟨f',rfl⟩:∃f',fu=f'+c+1:=⟨F+((ks.drop (k+1)).sum+(ns.length - (k+1))),by omega⟩
   have c1:=mP (f'+c) B nm false la tx (by omega)
   have cE:aj prog 460 [.ptr 81 0,.r (aA 3 ndC n.kids)] (ME (f'+c) B nm false la tx) ⟨.r (aA 15 vlE vs),MO f' B nm false la tx⟩:=by rw[show ndC=ndE from funext aH];exact h k n c vs hn hc hvk f' false la tx (by omega)
   have e2:(vss.take k).flatMap vrC++vrC vs=(vss.take (k+1)).flatMap vrC:=by rw[jQ hvk];simp
   refine SX.goM ?_;refine W.lS (k+1) f' ⟨hlt,by omega⟩ (by omega) (by
    refine SX.St.aZ [(100,some 29)] (by intro b h;exact SX.bU h rfl) ?_ ?_ rfl
    ·repeat(first|exact trivial|refine⟨⟨_,rfl,SX.aG.same rfl⟩,?_⟩|refine⟨⟨_,rfl,SX.aG.own rfl⟩,?_⟩)
    ·exact⟨SX.ay.same rfl rfl,SX.ay.same rfl rfl,SX.ay.same rfl rfl,SX.ay.same rfl rfl,SX.ay.row rfl rfl rfl e2,trivial⟩)
  ·obtain rfl:k=vss.length:=by omega
   rw[List.drop_of_length_le (by omega),List.sum_nil]at hfu
   obtain rfl:fu=F:=by omega
   rw[List.take_length];refine SX.WP.ajj 100 hB rfl rfl rfl rfl ?_;refine SX.goM ?_;exact gI (xs:=[.agg (vlA v),eNo 0]) ⟨ak.gX rfl rfl rfl,ak.tmp rfl,trivial⟩ ⟨rfl,rfl,rfl,trivial⟩
 |true=>
  refine aj.fnM func459 results459 ntmps459 rfl rfl rfl rfl (by first|rfl|(cases u <;> rfl)) (by first|rfl|(cases u <;> rfl)) (by first|rfl|(cases u <;> rfl)) (fun w0 Tw Bw E0 hB=>?_)
  refine SX.goM ?_;refine W.mH (fun k fu=>k≤ns.length∧fu=F+((ks.drop k).sum+(ns.length - k))) (fun k fu=>[(0,.ptr 81 0),(4,.ptr 4 0),(6,.own 100),(9,.r (aA 3 ndE ns)),(10,.v (.int .i64 (ns.length:Int))),(11,.v (.int .i64 (k:Int)))]) (fun k fu=>[(81,MB fu B true la),(82,.abs (gV (nmC nm))),(84,tC tx),(4,.box 42 vlZ),(100,.row 40 1 k ((vss.take k).flatMap vrC))]) (fun k _=>ns.length - k) 0 (F+(ks.sum+ns.length)) ⟨Nat.zero_le _,rfl⟩ (fun k fu ⟨hkn,hfu⟩=>?_)
   (by
    refine SX.St.aZ [(100,none)] (by intro b h;exact SX.bU h rfl) ?_ ?_ rfl
    ·repeat(first|exact trivial|refine⟨⟨_,rfl,SX.aG.same rfl⟩,?_⟩|refine⟨⟨_,rfl,SX.aG.nil rfl⟩,?_⟩)
    ·exact⟨SX.ay.same rfl rfl,SX.ay.same rfl rfl,SX.ay.same rfl rfl,SX.ay.same rfl rfl,SX.ay.dF rfl,trivial⟩)
  by_cases hlt:k < ns.length
  ·obtain⟨n,hn⟩:∃n,ns[k]? =some n:=⟨_,zq2 hlt⟩
   obtain⟨c,hc⟩:∃c,ks[k]? =some c:=⟨_,zq2 (by omega)⟩
   obtain⟨vs,hvk⟩:∃vs,vss[k]? =some vs:=⟨_,zq2 (by omega)⟩
   have hsum:(ks.drop k).sum=c+(ks.drop (k+1)).sum:=by
    obtain⟨hk2,e⟩:=List.getElem?_eq_some_iff.1 hc
    rw[List.drop_eq_getElem_cons hk2,e,List.sum_cons]
   have hle:(ks.drop k).sum≤ks.sum:=by
    conv=>rhs;rw[←List.take_append_drop k ks,List.sum_append]
    omega
   obtain⟨f',rfl⟩:∃f',fu=f'+c+1:=⟨F+((ks.drop (k+1)).sum+(ns.length - (k+1))),by omega⟩
   have c1:=mP (f'+c) B nm true la tx (by omega)
   have cE:aj prog 460 [.ptr 81 0,.r (aA 3 ndC n.kids)] (ME (f'+c) B nm true la tx) ⟨.r (aA 15 vlE vs),MO f' B nm true la tx⟩:=by rw[show ndC=ndE from funext aH];exact h k n c vs hn hc hvk f' true la tx (by omega)
   have e2:(vss.take k).flatMap vrC++vrC vs=(vss.take (k+1)).flatMap vrC:=by rw[jQ hvk];simp
   refine SX.goM ?_;refine W.lS (k+1) f' ⟨hlt,by omega⟩ (by omega) (by
    refine SX.St.aZ [(100,some 29)] (by intro b h;exact SX.bU h rfl) ?_ ?_ rfl
    ·repeat(first|exact trivial|refine⟨⟨_,rfl,SX.aG.same rfl⟩,?_⟩|refine⟨⟨_,rfl,SX.aG.own rfl⟩,?_⟩)
    ·exact⟨SX.ay.same rfl rfl,SX.ay.same rfl rfl,SX.ay.same rfl rfl,SX.ay.same rfl rfl,SX.ay.row rfl rfl rfl e2,trivial⟩)
  ·obtain rfl:k=vss.length:=by omega
   rw[List.drop_of_length_le (by omega),List.sum_nil]at hfu
   obtain rfl:fu=F:=by omega
   rw[List.take_length];refine SX.WP.ajj 100 hB rfl rfl rfl rfl ?_;refine SX.goM ?_;exact gI (xs:=[.agg (vlA v),eNo 0]) ⟨ak.gX rfl rfl rfl,ak.tmp rfl,trivial⟩ ⟨rfl,rfl,rfl,trivial⟩
end
section
theorem zM{B:Nat}:∀{l:List Nat} {b:Nat},(∀x∈l,x≤B)→b≤B→l.foldl max b≤B
 |[],b,_,h=>h
 |x::l,b,h,hb=>zM (l:=l) (b:=max b x) (fun y hy=>h y (List.mem_cons_of_mem _ hy)) (by have:=h x List.mem_cons_self;omega)
theorem aeF{α β:Type}[Inhabited β]{l:List α}{P:α→β→Prop}(h:∀x∈l,∃b,P x b):∃g:α→β,∀x∈l,P x (g x):=by
 classical
 exact⟨fun x=>if hx:x∈l then(h x hx).choose else default,fun x hx=>by simp only[dif_pos hx];exact(h x hx).choose_spec⟩
theorem asa{x K:Nat}(h:x < 2 ^ K):bitLen x≤K:=by
 by_cases h0:x=0
 ·rw[mE.2 h0];omega
 ·have h1:=(bitLen_spec x).2 h0;have h2:2 ^ (bitLen x - 1) < 2 ^ K:=Nat.lt_of_le_of_lt h1 h;have:=(Nat.pow_lt_pow_iff_right (a:=2) (by omega)).1 h2
  omega
theorem rE{x k:Nat}(h:x < WB ^ k):bitLen x≤64*k:=by
 refine asa (Nat.lt_of_lt_of_le h ?_);rw[jG,←Nat.pow_mul];exact Nat.le_refl _
theorem ag3{x:Rat}{K:Nat}(h:RB x K):qB x≤64*K:=by
 have h1:=rE h.n;have h2:=rE h.d;unfold qB;omega
attribute [local irreducible] IntKind.wrap Go1 Reg WP aR aU bR bO aN aF ak aj aY Sat
attribute [local irreducible] bS dn cK dD dh qv bW mf PrP qOk zOk vP eu lz vF cq rqv fB dw dN d9 gP jn sq aV qS zS tS tbS plS mdS zmd eG iN nmC qB
theorem bN0:ah prog 102 [.r (bI (0:Int).natAbs)] (.v (.int .i64 0)):=by
 haveI:BdN 0 1:=⟨by rw[bV];decide⟩
 exact(wY (a:= .sat (bI 0))).h (by decide)
theorem aj6{r c:Nat}{vs:List Rat}{K:Nat}(h:∀v∈vs,RB v K)(hK:K≤1000)(hl:vs.length≤10000):ah prog 505 [.agg (vlA (dQ r c vs))] (.v (.int .i64 (((vs.map qB).foldl max 0:Nat):Int))):=by
 have cO:=amM 0 (by decide) (by decide)
 have cB:=bN0;have m1:((vs.map cq).map rq).length=vs.length:=afL vs;have m2:((dQ r c vs).a.map rq).length=vs.length:=afL vs;refine ah.fnF func505 results505 ntmps505 rfl rfl rfl (by simp[AV.ids,AV0.ids,Atom.ids]) rfl (fun w0 T B E0 hB=>?_)
 refine SX.goM ?_;refine W.mH (fun k m=>k≤vs.length∧m≤64000∧m=((vs.take k).map qB).foldl max 0) (fun k m=>[(3,.v (.int .i64 (m:Int))),(25,.r (aA 4 q4C (mq vs))),(26,.v (.int .i64 (vs.length:Int))),(27,.v (.int .i64 (k:Int)))]) (fun _ _=>[]) (fun k _=>vs.length - k) 0 0 ⟨Nat.zero_le _,Nat.zero_le _,rfl⟩ (fun k m ⟨hk,hm,hmm⟩=>?_)
  (by
   refine SX.St.aZ [] (by intro b h;cases h) ?_ ?_ rfl
   ·repeat(first|exact trivial|refine⟨⟨_,rfl,SX.aG.same rfl⟩,?_⟩|refine⟨⟨_,rfl,SX.aG.int (by omega)⟩,?_⟩)
   ·exact trivial)
 by_cases hk2:k < vs.length
 ·obtain⟨x,hx⟩:∃x,vs[k]? =some x:=⟨_,zq2 hk2⟩
  have hx':(mq vs)[k]? =some (rq (cq x)):=by rw[List.getElem?_map,List.getElem?_map,hx];rfl
  have h':k < (mq vs).length:=by rw[afL];exact hk2
  have hb:=h x (zq4 hx);have cx:=aco (q:=cq x) (by have:=(vZ0.num hb (show K≤100000 by omega)).q.2;dsimp only at this;omega)
  rw[jL]at cx;have hq:=ag3 hb;have e1:((vs.take (k+1)).map qB).foldl max 0=max m (qB x):=by rw[List.take_add_one,hx,hmm];simp
  refine SX.goM ?_;exact W.lS (k+1) (max m (qB x)) ⟨hk2,by omega,e1.symm⟩ (by omega)
 ·obtain rfl:k=vs.length:=by omega
  rw[List.take_length]at hmm;refine SX.goM ?_;refine gM ?_;rw[←hmm]
theorem akE{zs:List Int}{K:Nat}(h:∀z∈zs,z.natAbs < WB ^ K)(hK:K≤1000)(hl:zs.length≤10000):ah prog 505 [.agg (vlA (sH zs))] (.v (.int .i64 (((zs.map fun z=>bitLen z.natAbs).foldl max 0:Nat):Int))):=by
 have cO:=amM 0 (by decide) (by decide)
 have cB:=bN0;have m1:((zs.map cz).map rz).length=zs.length:=ahj zs;have m2:((sH zs).po.map rz).length=zs.length:=ahj zs;refine ah.fnF func505 results505 ntmps505 rfl rfl rfl (by simp[AV.ids,AV0.ids,Atom.ids]) rfl (fun w0 T B E0 hB=>?_)
 refine SX.goM ?_;refine W.mH (fun k m=>k≤zs.length∧m≤64000∧m=((zs.take k).map fun z=>bitLen z.natAbs).foldl max 0) (fun k m=>[(3,.v (.int .i64 (m:Int))),(39,.r (aA 2 z2C (mz zs))),(40,.v (.int .i64 (zs.length:Int))),(41,.v (.int .i64 (k:Int)))]) (fun _ _=>[]) (fun k _=>zs.length - k) 0 0 ⟨Nat.zero_le _,Nat.zero_le _,rfl⟩ (fun k m ⟨hk,hm,hmm⟩=>?_)
  (by
   refine SX.St.aZ [] (by intro b h;cases h) ?_ ?_ rfl
   ·repeat(first|exact trivial|refine⟨⟨_,rfl,SX.aG.same rfl⟩,?_⟩|refine⟨⟨_,rfl,SX.aG.int (by omega)⟩,?_⟩)
   ·exact trivial)
 by_cases hk2:k < zs.length
 ·obtain⟨z,hz⟩:∃z,zs[k]? =some z:=⟨_,zq2 hk2⟩
  have hz':(mz zs)[k]? =some (rz (cz z)):=by rw[List.getElem?_map,List.getElem?_map,hz];rfl
  have h':k < (mz zs).length:=by rw[ahj];exact hk2
  have hb:=h z (zq4 hz);have hlen:(cz z).2.length≤K:=mQ hb;have cx:ah prog 314 [.agg [.c (.val (.bool (cz z).1)),.c (.sat (dM (cz z).2))]] (.v (.int .i64 (bitLen (rzv (cz z)).natAbs:Int))):=(dX (h:=ZI.raw (cz z).1 (cz z).2)).h (by omega)
  rw[oK]at cx;have hq:=rE hb;have e1:((zs.take (k+1)).map fun z=>bitLen z.natAbs).foldl max 0=max m (bitLen z.natAbs):=by rw[List.take_add_one,hz,hmm];simp
  refine SX.goM ?_;exact W.lS (k+1) (max m (bitLen z.natAbs)) ⟨hk2,by omega,e1.symm⟩ (by omega)
 ·obtain rfl:k=zs.length:=by omega
  rw[List.take_length]at hmm;refine SX.goM ?_;refine gM ?_;rw[←hmm]
theorem ais(v:Vl)(h:v.k=4∨v.k=5)(hp:v.p < WB):ah prog 505 [.agg (vlA v)] (.v (.int .i64 (bitLen v.p:Int))):=by
 have cO:=nOf v.p hp;have cB:ah prog 102 [.r (bI v.p)] (.v (.int .i64 (bitLen v.p:Int))):=by
  haveI:BdN v.p 1:=⟨by rw[Nat.pow_one];exact hp⟩
  exact(wY (a:= .sat (bI v.p))).h (by decide)
 have hk:¬v.k=1∧¬v.k=2∧¬v.k=3∧¬v.k=6:=by omega
 obtain⟨h1,h2,h3,h6⟩:=hk;refine ah.fnF func505 results505 ntmps505 rfl rfl rfl (by simp[AV.ids,AV0.ids,Atom.ids]) rfl (fun w0 T B E0 hB=>?_)
 refine SX.goM ?_;exact gM rfl
theorem aqr(v:Vl)(g:Vl→Nat)(h:v.k=6)(hp:v.p=0)(hl:v.li.length≤1000000)(hg:∀x∈v.li,g x≤64000)(hx:∀x∈v.li,ah prog 505 [.agg (vlA x)] (.v (.int .i64 (g x:Int)))):
  ah prog 505 [.agg (vlA v)] (.v (.int .i64 (((v.li.map g).foldl max 0:Nat):Int))):=by
 have cO:ah prog 60 [.v (.int .u64 (v.p:Int))] (.r (bI (0:Int).natAbs)):=by rw[hp];exact amM 0 (by decide) (by decide)
 have cB:=bN0;rw[aoh];refine ah.fnF func505 results505 ntmps505 rfl rfl rfl (by simp[AV.ids,AV0.ids,Atom.ids]) rfl (fun w0 T B E0 hB=>?_)
 refine SX.goM ?_;refine W.mH (fun k m=>k≤v.li.length∧m≤64000∧m=((v.li.take k).map g).foldl max 0) (fun k m=>[(3,.v (.int .i64 (m:Int))),(53,.r (aA 15 vlE v.li)),(54,.v (.int .i64 (v.li.length:Int))),(55,.v (.int .i64 (k:Int)))]) (fun _ _=>[]) (fun k _=>v.li.length - k) 0 0 ⟨Nat.zero_le _,Nat.zero_le _,rfl⟩ (fun k m ⟨hk,hm,hmm⟩=>?_)
 by_cases hlt:k < v.li.length
 ·obtain⟨x,hx'⟩:∃x,v.li[k]? =some x:=⟨_,zq2 hlt⟩
  have c:=hx x (zq4 hx');have hgx:=hg x (zq4 hx');have e1:((v.li.take (k+1)).map g).foldl max 0=max m (g x):=by rw[List.take_add_one,hx',hmm];simp
  refine SX.goM ?_;exact W.lS (k+1) (max m (g x)) ⟨hlt,by omega,e1.symm⟩ (by omega)
 ·obtain rfl:k=v.li.length:=by omega
  rw[List.take_length]at hmm;refine SX.goM ?_;refine gM ?_;rw[←hmm]
theorem asb{v:Vl}{b:Nat}(hF:ah prog 78 [.agg (vlA v)] (.v (.bool true)))(h:ah prog 505 [.agg (vlA v)] (.v (.int .i64 (b:Int)))):ah prog 485 [.agg (vlA v)] (.v (.int .i64 (b:Int))):=by
 refine ah.fnF func485 results485 ntmps485 rfl rfl rfl (by simp[AV.ids,AV0.ids,Atom.ids]) rfl (fun w0 T B E0 hB=>?_)
 refine SX.goM ?_;exact gM rfl
end
inductive eB:List UInt8→List Wrd→Prop
 |nil {s:List UInt8} (h:s.drop (gp false s)=[]):eB s []
 |cons {s t:List UInt8} {w:Wrd} {ws:List Wrd} (h:s.drop (gp false s)=w.2++t) (h1:fst (w.2++t)=⟨w.1,w.2,0⟩) (h2:w.1≠0) (h3:w.2≠[]) (k:eB t ws):eB s (w::ws)
theorem eB.W{l s:List UInt8}{ws:List Wrd}(h:eB s ws):∀k,l.drop k=s→(p9 l (k+gp false s)).2=none∧(p9 l (k+gp false s)).1.map kt=ws:=by
 induction h with
 | @nil s h=>
  intro k hk;have hl:l.length≤k+gp false s:=by
   rw[←hk,List.drop_drop,hk]at h;exact List.drop_eq_nil_iff.1 h
  rw[p9.eq_1,dif_pos hl];exact⟨rfl,rfl⟩
 | @cons s t w ws h h1 h2 h3 _ ih=>
  intro k hk;have hd:l.drop (k+gp false s)=w.2++t:=by rw[←List.drop_drop,hk,h]
  have hd2:l.drop (k+gp false s+w.2.length)=t:=by rw[←List.drop_drop,hd,List.drop_left' rfl]
  have ih:=ih _ hd2;have hw:w.2.length≠0:=by simpa using h3
  have hlen:=congrArg List.length hd;rw[List.length_drop,List.length_append]at hlen;generalize k+gp false s=j at*;have hf:fst (l.drop j)=⟨w.1,w.2,0⟩:=by rw[hd];exact h1
  rw[p9.eq_1,dif_neg (by omega),hf]
  rw[dif_neg (by
   rintro(h4|h4)
   ·exact h2 h4
   ·exact hw h4)]
  show ((p9 l (j+w.2.length+gp false (l.drop (j+w.2.length)))).2=none∧(kt ⟨w.1,w.2,j⟩::(p9 l (j+w.2.length+gp false (l.drop (j+w.2.length)))).1.map kt)=w::ws);rw[hd2];exact⟨ih.1,by rw[ih.2];rfl⟩
theorem eB.R{l:List UInt8}{ws:List Wrd}(h:eB l ws)(hl:l.length≤20000):∃ts,acW l=(ts,0,0)∧ts.map kt=ws∧ts.all gY=true:=by
 obtain⟨h1,h2⟩:=h.W 0 List.drop_zero;rw[Nat.zero_add]at h1 h2;refine⟨(p9 l (gp false l)).1,?_,h2,(aiq l _).2.1⟩;unfold acW;rw[if_neg (by omega),h1]
def NW(r:List UInt8):Prop:=r=[]∨∃c m,r=c::m∧wrd c=false
theorem gp_c{c:UInt8}{r:List UInt8}(h:srt c≠1)(h2:c.toNat≠35):gp false (c::r)=0:=by
 rw[gp,if_neg h,if_neg h2]
theorem eB.sp{c:UInt8}{r:List UInt8}{ws:List Wrd}(hc:srt c=1)(h:eB r ws):eB (c::r) ws:=by
 have e:(c::r).drop (gp false (c::r))=r.drop (gp false r):=by
  rw[gp,if_pos hc,Nat.add_comm,List.drop_succ_cons]
 cases h with
 |nil h=>exact .nil (by rw[e];exact h)
 |cons h h1 h2 h3 k=>exact .cons (by rw[e];exact h) h1 h2 h3 k
theorem aoX(l r:List UInt8)(h:l.all wrd=true)(hr:NW r):run (l++r)=l.length:=by
 have hr0:r.takeWhile wrd=[]:=by
  rcases hr with rfl|⟨c,m,rfl,hc⟩
  ·rfl
  ·rw[List.takeWhile_cons,hc];rfl
 unfold run;rw[List.takeWhile_append_of_pos (by simpa using h),hr0,List.append_nil]
theorem eB.num{w r:List UInt8}{ws:List Wrd}(hw:num w=true)(hr:NW r)(h:eB r ws):eB (w++r) ((1,w)::ws):=by
 obtain⟨h1,c,m,e,hc⟩:=aby hw;have hg:gp false (w++r)=0:=by
  rw[e,List.cons_append];exact gp_c (by omega) (by rw[srt2]at hc;omega)
 refine .cons (by rw[hg];rfl) ?_ (by decide:(1:Int)≠0) (by rw[e];simp) h
 show fst (w++r)=_;unfold fst;rw[aoX w r h1 hr,List.take_left' rfl,if_pos hw]
theorem eB.nam{w r:List UInt8}{ws:List Wrd}(hw:nam w=true)(hr:NW r)(h:eB r ws):eB (w++r) ((2,w)::ws):=by
 obtain⟨h1,c,m,e,hc⟩:=abX hw;have hg:gp false (w++r)=0:=by
  rw[e,List.cons_append];exact gp_c (by omega) (by rw[srt3]at hc;omega)
 have hn:Go.Proofs.YtjnhnbgpifohjaaGreatDoor.num w=false:=by
  cases h2:Go.Proofs.YtjnhnbgpifohjaaGreatDoor.num w with
  |false=>rfl
  |true=>
   obtain⟨_,c',m',e',hc'⟩:=aby h2;rw[e]at e';cases e';omega
 refine .cons (by rw[hg];rfl) ?_ (by decide:(2:Int)≠0) (by rw[e];simp) h
 show fst (w++r)=_;unfold fst;rw[aoX w r h1 hr,List.take_left' rfl,hn,if_neg (by decide),if_pos hw]
def sgc(c:UInt8):Bool:=!wrd c&&sg1 [c]&&!decide (srt c=1)&&!decide (c.toNat=35)&&!decide (c=61)&&!decide (c=33)&&!decide (c=60)&&!decide (c=46)
theorem eB.sg{c:UInt8}{r:List UInt8}{ws:List Wrd}(hc:sgc c=true)(h:eB r ws):eB (c::r) (Go.Proofs.YtjnhnbgpifohjaaGreatDoor.sg [c]::ws):=by
 unfold sgc at hc;simp only[Bool.and_eq_true,Bool.not_eq_true',decide_eq_false_iff_not]at hc;obtain⟨⟨⟨⟨⟨⟨⟨h1,h2⟩,h3⟩,h4⟩,h5⟩,h6⟩,h7⟩,h8⟩:=hc;refine .cons (w:=Go.Proofs.YtjnhnbgpifohjaaGreatDoor.sg [c]) (t:=r) (by rw[gp_c h3 h4];rfl) ?_ (fun e=>by have e':(3:Int)=0:=e;omega) (fun e=>by cases e) h
 show fst (c::r)=_;have hr:run (c::r)=0:=by unfold run;rw[List.takeWhile_cons,h1];rfl
 have hn:Go.Proofs.YtjnhnbgpifohjaaGreatDoor.num []=false:=by unfold Go.Proofs.YtjnhnbgpifohjaaGreatDoor.num;rfl
 have hm:Go.Proofs.YtjnhnbgpifohjaaGreatDoor.nam []=false:=by unfold Go.Proofs.YtjnhnbgpifohjaaGreatDoor.nam;rfl
 unfold fst;rw[hr,List.take_zero,hn,if_neg (by decide),hm,if_neg (by decide),if_neg ?_,show (c::r).take 1=[c]from rfl,if_pos h2]
 rintro⟨_,h9⟩;have hh:∀d:UInt8,c≠d→∀e,(c::r).take 2≠[d,e]:=fun d hd e h=>by
  rw[List.take_succ_cons]at h;exact hd (List.cons.inj h).1
 rcases h9 with h9|h9|h9|h9
 ·exact hh _ h5 _ h9
 ·exact hh _ h6 _ h9
 ·exact hh _ h7 _ h9
 ·exact hh _ h8 _ h9
theorem pW{x:Nat}(h:(aV x).length≤2000):num (aV x)=true:=by
 have hk:∀l:List UInt8,l.all isD=true→dgL l=true:=fun l hl=>by
  unfold dgL;rw[List.all_eq_true]at*;intro c hc;have:=hl c hc;unfold isD at this;rw[decide_eq_true_iff,srt2];simpa using this
 unfold num;rw[Bool.and_eq_true,decide_eq_true_iff];unfold aV at h ⊢;by_cases h0:x=0
 ·rw[if_pos h0];exact⟨⟨by decide,by decide,.inl rfl⟩,by unfold dgL;simp only[List.all_cons,List.all_nil,Bool.and_true,decide_eq_true_iff,srt2];decide⟩
 ·rw[if_neg h0]at h ⊢;obtain⟨f1,f2,f3⟩:=wm x;exact⟨⟨(f3 h0).2,h,.inr (f3 h0).1⟩,hk _ f1⟩
def LV(s:List UInt8)(ws:List Wrd):Prop:=∀r rw,NW r→eB r rw→eB (s++r) (ws++rw)
theorem ag0{c:UInt8}{r:List UInt8}(h:wrd c=false):NW (c::r):= .inr ⟨c,r,rfl,h⟩
theorem LV.num{w:List UInt8}(h:num w=true):LV w [(1,w)]:=fun r rw hr h2=>eB.num h hr h2
theorem LV.sg{c:UInt8}{s:List UInt8}{ws:List Wrd}(hc:sgc c=true)(h:LV s ws):LV (c::s) (Go.Proofs.YtjnhnbgpifohjaaGreatDoor.sg [c]::ws):=fun r rw hr h2=>eB.sg hc (h r rw hr h2)
theorem LV.nil:LV [] []:=fun r rw hr h2=>h2
theorem aci{c:UInt8}(h:sgc c=true):wrd c=false:=by
 unfold sgc at h;simp only[Bool.and_eq_true,Bool.not_eq_true']at h;exact h.1.1.1.1.1.1.1
theorem LV.mid{c:UInt8}{s t:List UInt8}{us ws:List Wrd}(h1:LV s us)(hc:sgc c=true)(h:LV t ws):LV (s++c::t) (us++Go.Proofs.YtjnhnbgpifohjaaGreatDoor.sg [c]::ws):=fun r rw hr h2=>by
 have h3:=h1 (c::(t++r)) _ (ag0 (aci hc)) (eB.sg hc (h r rw hr h2));simpa using h3
theorem LV.midB{c:UInt8}{s t:List UInt8}{us ws:List Wrd}(h1:LV s us)(hc:sgc c=true)(h:LV t ws):LV (s++c::32::t) (us++Go.Proofs.YtjnhnbgpifohjaaGreatDoor.sg [c]::ws):=fun r rw hr h2=>by
 have h3:=h1 (c::32::(t++r)) _ (ag0 (aci hc)) (eB.sg hc (eB.sp (by unfold srt;decide) (h r rw hr h2)))
 simpa using h3
theorem LV.nam{c:UInt8}{w t:List UInt8}{ws:List Wrd}(hw:nam w=true)(hc:sgc c=true)(h:LV t ws):LV (w++c::t) ((2,w)::Go.Proofs.YtjnhnbgpifohjaaGreatDoor.sg [c]::ws):=fun r rw hr h2=>by
 have h3:=eB.nam hw (ag0 (aci hc)) (eB.sg hc (h r rw hr h2));simpa using h3
theorem LV.end{c:UInt8}{s:List UInt8}{us:List Wrd}(h1:LV s us)(hc:sgc c=true):LV (s++[c]) (us++[Go.Proofs.YtjnhnbgpifohjaaGreatDoor.sg [c]]):=LV.mid h1 hc LV.nil
theorem LV.jn{c:UInt8}(hc:sgc c=true):∀(l:List (List UInt8×List Wrd)),(∀x∈l,LV x.1 x.2)→LV (jn c (l.map (·.1))) (aat (Go.Proofs.YtjnhnbgpifohjaaGreatDoor.sg [c]) (l.map (·.2)))
 |[],_=>LV.nil
 |[x],h=>h x (List.mem_cons_self ..)
 |x::y::l,h=>LV.midB (h x (List.mem_cons_self ..)) hc (LV.jn hc (y::l) fun z hz=>h z (List.mem_cons_of_mem _ hz))
theorem gu:sgc 45=true∧sgc 47=true∧sgc 44=true∧sgc 59=true∧sgc 91=true∧sgc 93=true∧sgc 40=true∧sgc 41=true∧sgc 123=true∧sgc 125=true:=by
 refine⟨?_,?_,?_,?_,?_,?_,?_,?_,?_,?_⟩ <;> (unfold sgc wrd sg1 srt;decide)
theorem ae5:nam [122,101,114,111]=true∧nam [112,111,108,121]=true∧nam [109,111,100]=true:=by
 refine⟨?_,?_,?_⟩ <;> (unfold nam run wrd srt;decide)
theorem LV.zS{z:Int}(h:(aV z.natAbs).length≤2000):LV (zS z) (if z < 0 then [Go.Proofs.YtjnhnbgpifohjaaGreatDoor.sg [45],(1,aV z.natAbs)]else [(1,aV z.natAbs)]):=by
 unfold Go.Proofs.YtjnhnbgpifohjaaGreatDoor.zS
 split
 ·exact LV.sg gu.1 (LV.num (pW h))
 ·exact LV.num (pW h)
def PW(ws:List Wrd)(m:Nd):Prop:=∀(l:List Tok) f o r,aem r→(ws++r).length < f→o+2*dep m+1≤600→∀a,rst l a=ws++r→(lev 600 l f).1 a o= .ok m (a+ws.length)
abbrev WN:=List Wrd×Nd
abbrev jW(ks:List WN):List Wrd:=aat (sg [44]) (ks.map (·.1))
abbrev kN(ks:List WN):List Nd:=ks.map (·.2)
abbrev noE:List (List UInt8):=[[91],[94],[42],[47],[43],[45],[61,61],[33,61],[60],[60,61],[40],[44]]
theorem arU{e:List UInt8}(he:e∉noE)(r:List Wrd):aem (sg e::r):=rG (fun h=>he (List.mem_append_left [[44]] h)) r
theorem afi{l:List Tok}{f o:Nat}{e:List UInt8}(he:e∉noE):∀(ks:List WN) (acc:List Nd) (g a:Nat) (r:List Wrd),ks≠[]→(∀k∈ks,PW k.1 k.2∧o+2*dep k.2+1≤600)→
  (jW ks++sg e::r).length < f→(jW ks++sg e::r).length < g+1→rst l a=jW ks++sg e::r→qx l (lev 600 l f).1 e g acc a o= .ok (.mk 0 [] (acc++kN ks)) (a+(jW ks).length+1)
 |[],_,_,_,_,h,_,_,_,_=>absurd rfl h
 |[k],acc,g,a,r,_,hP,hf,hg,hr=>by
  obtain⟨h1,h2⟩:=hP k (by simp)
  have hj:jW [k]=k.1:=rfl;rw[hj]at hf hg hr ⊢;rw[List.length_append,List.length_cons]at hg;obtain⟨g,rfl⟩:∃k,g=k+1:=⟨g - 1,by omega⟩
  unfold qx;rw[h1 l f o _ (arU he r) hf h2 a hr];show (if isS l (a+k.1.length) e then _ else _)=_
  rw[bL,jC hr,if_pos (by simp[hS])];rfl
 |k::k2::ks,acc,g,a,r,_,hP,hf,hg,hr=>by
  obtain⟨h1,h2⟩:=hP k (by simp)
  have hj:jW (k::k2::ks)=k.1++sg [44]::jW (k2::ks):=rfl;have hr':rst l a=k.1++sg [44]::(jW (k2::ks)++sg e::r):=by rw[hr,hj];simp
  have hlen:(k.1++sg [44]::(jW (k2::ks)++sg e::r)).length=(jW (k::k2::ks)++sg e::r).length:=by rw[hj];simp
  have hlen2:(jW (k::k2::ks)++sg e::r).length=k.1.length+1+(jW (k2::ks)++sg e::r).length:=by rw[hj];simp;omega
  obtain⟨g,rfl⟩:∃k,g=k+1:=⟨g - 1,by omega⟩
  have he':aem (sg [44]::(jW (k2::ks)++sg e::r)):=rG (by decide) _
  unfold qx;rw[h1 l f o _ he' (by rw[hlen];exact hf) h2 a hr']
  show (if isS l (a+k.1.length) e then _ else if isS l (a+k.1.length) [44]then _ else _)=_
  have hrr:=jC hr';have hne:e≠[44]:=fun h=>he (by rw[h];decide)
  rw[bL,hrr,if_neg (by simp[hS,Ne.symm hne]),bL,hrr,if_pos (by simp[hS])]
  rw[afi he (k2::ks) (acc++[k.2]) g (a+k.1.length+1) r (by simp) (fun x hx=>hP x (by simp at hx ⊢;exact .inr hx)) (by omega) (by omega) (mK hrr)]
  rw[hj];simp;omega
def HD(ws:List Wrd)(e:List UInt8):Prop:=∃w r,ws=w::r∧∀r',hS (w::r') e=false
theorem ajx{l:List Tok}{f o:Nat}{e:List UInt8}(he:e∉noE){ks:List WN}{a:Nat}{r:List Wrd}(hP:∀k∈ks,PW k.1 k.2∧o+2*dep k.2+1≤600∧HD k.1 e)
  (hf:(jW ks++sg e::r).length < f) (hr:rst l a=jW ks++sg e::r):jD l (lev 600 l f).1 e a o= .ok (.mk 0 [] (kN ks)) (a+(jW ks).length+1):=by
 unfold jD;cases ks with
 |nil=>
  have hr:rst l a=sg e::r:=hr;rw[bL,hr,if_pos (by simp[hS])];rfl
 |cons k ks=>
  have hh:∀r',hS (jW (k::ks)++r') e=false:=by
   intro r';obtain⟨w,u,hw,h1⟩:=(hP k (by simp)).2.2
   cases ks with
   |nil=>rw[show jW [k]=k.1 from rfl,hw];exact h1 _
   |cons k2 ks=>rw[show jW (k::k2::ks)=k.1++sg [44]::jW (k2::ks)from rfl,hw];exact h1 _
  have hl:=aib hr (by simp)
  rw[bL,hr,if_neg (by rw[hh];decide),afi he (k::ks) [] (l.length+1) a r (by simp) (fun x hx=>⟨(hP x hx).1,(hP x hx).2.1⟩) hf (by omega) hr];rfl
theorem ac0{l:List Tok}{f o:Nat}{e:List UInt8}(he:e=[59]∨e=[93])(rs:List Nd):∀(ks:List WN) (acc:List Nd) (g a:Nat) (r:List Wrd),ks≠[]→(∀k∈ks,PW k.1 k.2∧o+2*dep k.2+1≤600)→
  (jW ks++sg e::r).length < f→(jW ks++sg e::r).length < g+1→rst l a=jW ks++sg e::r→∃g',(sg e::r).length < g'+2∧
  qF l (lev 600 l f).1 g rs acc a o=if e=[59]then qF l (lev 600 l f).1 g' (rs++[.mk 15 [] (acc++kN ks)]) [] (a+(jW ks).length+1) o else .ok (.mk 14 [] (rs++[.mk 15 [] (acc++kN ks)])) (a+(jW ks).length+1)
 |[],_,_,_,_,h,_,_,_,_=>absurd rfl h
 |[k],acc,g,a,r,_,hP,hf,hg,hr=>by
  obtain⟨h1,h2⟩:=hP k (by simp)
  have hj:jW [k]=k.1:=rfl;rw[hj]at hf hg hr ⊢;rw[List.length_append]at hg;have hgl:1≤(sg e::r).length:=by simp
  obtain⟨g,rfl⟩:∃k,g=k+1:=⟨g - 1,by omega⟩
  refine⟨g,by omega,?_⟩
  have he':aem (sg e::r):=rG (by rcases he with rfl|rfl <;> decide) r
  rw[qF]
  dsimp only
  rw[h1 l f o _ he' hf h2 a hr];show (if isS l (a+k.1.length) [44]then _ else if isS l (a+k.1.length) [59]then _ else if isS l (a+k.1.length) [93]then _ else _)=_
  rw[bL,bL,bL,jC hr];rcases he with rfl|rfl
  ·rfl
  ·rfl
 |k::k2::ks,acc,g,a,r,_,hP,hf,hg,hr=>by
  obtain⟨h1,h2⟩:=hP k (by simp)
  have hj:jW (k::k2::ks)=k.1++sg [44]::jW (k2::ks):=rfl;have hr':rst l a=k.1++sg [44]::(jW (k2::ks)++sg e::r):=by rw[hr,hj];simp
  have hlen:(k.1++sg [44]::(jW (k2::ks)++sg e::r)).length=(jW (k::k2::ks)++sg e::r).length:=by rw[hj];simp
  have hlen2:(jW (k::k2::ks)++sg e::r).length=k.1.length+1+(jW (k2::ks)++sg e::r).length:=by rw[hj];simp;omega
  obtain⟨g,rfl⟩:∃k,g=k+1:=⟨g - 1,by omega⟩
  have he':aem (sg [44]::(jW (k2::ks)++sg e::r)):=rG (by decide) _
  have hrr:=jC hr';obtain⟨g',hg',ih⟩:=ac0 (f:=f) (o:=o) he rs (k2::ks) (acc++[k.2]) g (a+k.1.length+1) r (by simp) (fun x hx=>hP x (by simp at hx ⊢;exact .inr hx)) (by omega) (by omega) (mK hrr)
  refine⟨g',hg',?_⟩;rw[qF]
  dsimp only
  rw[h1 l f o _ he' (by rw[hlen];exact hf) h2 a hr']
  show (if isS l (a+k.1.length) [44]then _ else _)=_
  rw[bL,hrr,if_pos (by rfl),ih]
  have e1:a+k.1.length+1+(jW (k2::ks)).length+1=a+(jW (k::k2::ks)).length+1:=by rw[hj];simp;omega
  rw[e1,List.append_assoc];rfl
abbrev jM(rs:List (List WN)):List Wrd:=aat (sg [59]) (rs.map jW)
abbrev kM(rs:List (List WN)):List Nd:=rs.map fun ks=> .mk 15 [] (kN ks)
theorem aiY{l:List Tok}{f o:Nat}:∀(rs:List (List WN)) (acc:List Nd) (g a:Nat) (r:List Wrd),rs≠[]→(∀x∈rs,x≠[])→(∀x∈rs,∀k∈x,PW k.1 k.2∧o+2*dep k.2+1≤600)→
  (jM rs++sg [93]::r).length < f→(jM rs++sg [93]::r).length < g+1→rst l a=jM rs++sg [93]::r→
  qF l (lev 600 l f).1 g acc [] a o= .ok (.mk 14 [] (acc++kM rs)) (a+(jM rs).length+1)
 |[],_,_,_,_,h,_,_,_,_,_=>absurd rfl h
 |[x],acc,g,a,r,_,hx,hP,hf,hg,hr=>by
  have hj:jM [x]=jW x:=rfl;rw[hj]at hf hg hr ⊢;obtain⟨g',_,h1⟩:=ac0 (f:=f) (o:=o) (.inr rfl) acc x [] g a r (hx x (by simp)) (hP x (by simp)) hf hg hr
  rw[h1,if_neg (by decide)];rfl
 |x::y::rs,acc,g,a,r,_,hx,hP,hf,hg,hr=>by
  have hj:jM (x::y::rs)=jW x++sg [59]::jM (y::rs):=rfl;have hr':rst l a=jW x++sg [59]::(jM (y::rs)++sg [93]::r):=by rw[hr,hj];simp
  have hlen:(jW x++sg [59]::(jM (y::rs)++sg [93]::r)).length=(jM (x::y::rs)++sg [93]::r).length:=by rw[hj];simp
  have hlen2:(jW x++sg [59]::(jM (y::rs)++sg [93]::r)).length=(jW x).length+1+(jM (y::rs)++sg [93]::r).length:=by simp;omega
  obtain⟨g',hg',h1⟩:=ac0 (f:=f) (o:=o) (.inl rfl) acc x [] g a _ (hx x (by simp)) (hP x (by simp)) (by rw[hlen];exact hf) (by rw[hlen];exact hg) hr'
  rw[List.length_cons]at hg';rw[h1,if_pos rfl,List.nil_append,aiY (f:=f) (o:=o) (y::rs) (acc++[Nd.mk 15 [] (kN x)]) g' (a+(jW x).length+1) r (by simp) (fun z hz=>hx z (by simp at hz ⊢;exact .inr hz)) (fun z hz=>hP z (by simp at hz ⊢;exact .inr hz)) (by omega) (by omega) (mK (jC hr'))]
  rw[hj];simp;omega
theorem PW.prim{w:Wrd}{u:List Wrd}{m:Nd}(hh:∀r,hS (w::r) [45]=false)
  (h:∀(l:List Tok) f o r,hS r [40]=false→(w::(u++r)).length < f+1→o+2*dep m+1≤600→∀a,rst l a=w::(u++r)→oZ 600 l (lev 600 l f).1 a o= .ok m (a+(u.length+1))):PW (w::u) m:=fun l f o r hr hf ho a ha=>by
 have hpos:1≤(w::u++r).length:=by simp
 obtain⟨f,rfl⟩:∃k,f=k+1:=⟨f - 1,by omega⟩
 show aaW l (unG 600 l (lev 600 l f).1 (lev 600 l f).2) a o=_;have hend:=jC ha;have hp:=h l f o r (hr [40] (by decide)) (by simpa using hf) ho a (by simpa using ha)
 have hlen:(w::u).length=u.length+1:=rfl;rw[hlen]at hend ⊢;exact agl (aas (aas (afm hp (by rw[ha];exact hh _) (by rw[hend];exact hr _ (by decide)) (by rw[hend];exact hr _ (by decide))) (by rw[hend];exact hr _ (by decide)) (by rw[hend];exact hr _ (by decide))) (by rw[hend];exact hr _ (by decide)) (by rw[hend];exact hr _ (by decide))) (by rw[hend];exact hr _ (by decide)) (by rw[hend];exact hr _ (by decide)) (by rw[hend];exact hr _ (by decide)) (by rw[hend];exact hr _ (by decide))
abbrev nmN(t:List UInt8):Nd:= .mk 1 t []
theorem PW.num(t:List UInt8):PW [(1,t)] (nmN t):=PW.prim (w:=(1,t)) (u:=[]) (fun r=>rfl) fun l f o r _ _ _ a ha=>by
 rw[qz (w:=(1,t)) (r:=r) ha,if_pos rfl];rfl
theorem PW.call{t:List UInt8}(ht:tx 2 t=true){ks:List WN}(hk:∀k∈ks,PW k.1 k.2∧HD k.1 [41]):PW ((2,t)::sg [40]::(jW ks++[sg [41]])) (.mk 13 t (kN ks)):=
 PW.prim (w:=(2,t)) (u:=sg [40]::(jW ks++[sg [41]])) (fun r=>by
  show (!decide ((2:Int)=1)&&decide (t=[45]))=false;simp[ar6 ht (c:=45) (m:=[]) (by decide)]) fun l f o r hr hf ho a h=>by
 have h:rst l a=(2,t)::sg [40]::(jW ks++sg [41]::r):=by rw[h];simp
 have hf:((2,t)::sg [40]::(jW ks++sg [41]::r)).length < f+1:=by simpa using hf
 rw[qz h,if_neg (show¬(2:Int)=1 by decide),ahd ht,if_pos rfl,if_pos (by rfl)]
 have hL:=ajx (l:=l) (f:=f) (o:=o+1) (e:=[41]) (by decide) (ks:=ks) (a:=a+2) (r:=r) (fun k hkm=>⟨(hk k hkm).1,by have:=acS (o:=13) (t:=t) (show k.2∈kN ks from List.mem_map_of_mem hkm);omega,(hk k hkm).2⟩) (by simp only[List.length_cons]at hf;omega) (mK (mK h))
 refine afW (by omega) ?_
 show iH _ (jD l (lev 600 l f).1 [41] (a+2) (o+1))=_;rw[hL];show Res.ok _ _=_
 congr 1;simp;omega
theorem PW.mat{rs:List (List WN)}(h0:rs≠[])(hx:∀x∈rs,x≠[])(hk:∀x∈rs,∀k∈x,PW k.1 k.2):PW (sg [91]::(jM rs++[sg [93]])) (.mk 14 [] (kM rs)):=
 PW.prim (w:=sg [91]) (u:=jM rs++[sg [93]]) (fun r=>rfl) fun l f o r hr hf ho a h=>by
 have h:rst l a=sg [91]::(jM rs++sg [93]::r):=by rw[h];simp
 have hf:(sg [91]::(jM rs++sg [93]::r)).length < f+1:=by simpa using hf
 rw[qz h,if_neg (by decide),if_neg (by simp[hN]),if_neg (by simp[hS]),if_pos (by rfl)]
 rw[List.length_cons]at hf;have hl:=aib h (by simp)
 rw[List.length_cons]at hl;have hL:=aiY (l:=l) (f:=f) (o:=o+1) rs [] (l.length+1) (a+1) r h0 hx (fun x hx k hkx=>by
  have d1:=acS (o:=15) (t:=[]) (show k.2∈kN x from List.mem_map_of_mem hkx)
  have d2:=acS (o:=14) (t:=[]) (k:= .mk 15 [] (kN x)) (ks:=kM rs) (List.mem_map.2 ⟨x,hx,rfl⟩);exact⟨hk x hx k hkx,by omega⟩) (by omega) (by omega) (mK h)
 refine afW (by omega) ?_
 rw[hL];show Res.ok _ _=_
 congr 1;simp;omega
theorem agO{l:List Tok}{f o a:Nat}{t:List UInt8}{r:List Wrd}(h:rst l a=(1,t)::r)(h1:hS r [91]=false)(h2:hS r [94]=false)(U:Gr):unG 600 l (lev 600 l f).1 U a o= .ok (nmN t) (a+1):=by
 refine afm (by rw[qz (w:=(1,t)) (r:=r) h,if_pos rfl]) (by rw[h];rfl) ?_ ?_
 ·rw[mK h];exact h1
 ·rw[mK h];exact h2
theorem asf{l:List Tok}{f o a:Nat}{t:List UInt8}{r:List Wrd}(h:rst l a=sg [45]::(1,t)::r)(h1:hS r [91]=false)(h2:hS r [94]=false)(ho:o+1≤600)(hf:1≤f):unG 600 l (lev 600 l f).1 (lev 600 l f).2 a o= .ok (.mk 3 [] [nmN t]) (a+2):=by
 obtain⟨f,rfl⟩:∃k,f=k+1:=⟨f - 1,by omega⟩
 unfold unG;rw[bL,h,if_pos (by rfl)]
 refine afW ho ?_;show iH _ (unG 600 l (lev 600 l f).1 (lev 600 l f).2 (a+1) (o+1))=_;rw[agO (mK h) h1 h2];rfl
def zWd(z:Int):List Wrd:=if z < 0 then [sg [45],(1,aV z.natAbs)]else [(1,aV z.natAbs)]
def zNd(z:Int):Nd:=if z < 0 then .mk 3 [] [nmN (aV z.natAbs)]else nmN (aV z.natAbs)
theorem un_z{l:List Tok}{f o a:Nat}{z:Int}{r:List Wrd}(h:rst l a=zWd z++r)(h1:hS r [91]=false)(h2:hS r [94]=false)(ho:o+1≤600)(hf:1≤f):unG 600 l (lev 600 l f).1 (lev 600 l f).2 a o= .ok (zNd z) (a+(zWd z).length):=by
 unfold zWd at h ⊢;unfold zNd
 split at h
 ·rename_i hz;rw[if_pos hz,if_pos hz];exact asf h h1 h2 ho hf
 ·rename_i hz;rw[if_neg hz,if_neg hz];exact agO h h1 h2 _
theorem PW.z(z:Int):PW (zWd z) (zNd z):=fun l f o r hr hf ho a ha=>by
 have hpos:1≤(zWd z).length:=by unfold zWd;split <;> simp
 rw[List.length_append]at hf;obtain⟨f,rfl⟩:∃k,f=k+1:=⟨f - 1,by omega⟩
 show aaW l (unG 600 l (lev 600 l f).1 (lev 600 l f).2) a o=_;have hend:=jC ha;exact agl (aas (aas (un_z ha (hr _ (by decide)) (hr _ (by decide)) (by omega) (by omega)) (by rw[hend];exact hr _ (by decide)) (by rw[hend];exact hr _ (by decide))) (by rw[hend];exact hr _ (by decide)) (by rw[hend];exact hr _ (by decide))) (by rw[hend];exact hr _ (by decide)) (by rw[hend];exact hr _ (by decide)) (by rw[hend];exact hr _ (by decide)) (by rw[hend];exact hr _ (by decide))
theorem PW.frac(z:Int)(t:List UInt8):PW (zWd z++sg [47]::[(1,t)]) (.mk 7 [] [zNd z,nmN t]):=fun l f o r hr hf ho a ha=>by
 have hpos:1≤(zWd z).length:=by unfold zWd;split <;> simp
 rw[List.length_append,List.length_append]at hf;obtain⟨f,rfl⟩:∃k,f=k+1:=⟨f - 1,by omega⟩
 show aaW l (unG 600 l (lev 600 l f).1 (lev 600 l f).2) a o=_;have ha:rst l a=zWd z++(sg [47]::((1,t)::r)):=by rw[ha];simp
 have e1:=jC ha;have e2:=mK e1;have e3:=mK e2;have u1:=un_z (f:=f) (o:=o) ha rfl rfl (by omega) (by omega)
 have u2:=agO (f:=f) (o:=o) e2 (hr _ (by decide)) (hr _ (by decide)) (lev 600 l f).2
 have hc:=aoA (l:=l) (s1:=[42]) (s2:=[47]) (x:=6) (y:=7) u1 (by rw[e1];rfl) (by rw[e1];rfl) u2 (by rw[e3];exact hr _ (by decide)) (by rw[e3];exact hr _ (by decide))
 have hfin:a+(zWd z).length+1+1=a+(zWd z++sg [47]::[(1,t)]).length:=by simp;omega
 rw[←hfin];exact agl (aas hc (by rw[e3];exact hr _ (by decide)) (by rw[e3];exact hr _ (by decide))) (by rw[e3];exact hr _ (by decide)) (by rw[e3];exact hr _ (by decide)) (by rw[e3];exact hr _ (by decide)) (by rw[e3];exact hr _ (by decide))
theorem aeW{t s:List UInt8}(h:tx 2 t=true)(hs:ownB s=true):t≠s:=fun e=>by
 have:=anb h;rw[e,hs]at this;cases this
theorem aey{t s:List UInt8}(h:tx 2 t=true)(hs:ownB s=true)(r:List Wrd):hS ((2,t)::r) s=false:=by
 show (!decide ((2:Int)=1)&&decide (t=s))=false;simp[aeW h hs]
def SW(ws:List Wrd)(n:Nd):Prop:=∀(l:List Tok) (a:Nat) (r:List Wrd),rst l a=ws++r→afU 600 l (l.length+1) a 0= .ok n (a+ws.length)
def HX(ws:List Wrd):Prop:=∀r,hS (ws++sg [59]::r) [105,102]=false∧hS (ws++sg [59]::r) [102,111,114]=false∧(hN (ws++sg [59]::r)&&hS ((ws++sg [59]::r).drop 1) [61])=false
theorem aiG{l:List Tok}{a:Nat}{u:List Wrd}(h:rst l a=u):u.length≤l.length:=by
 rw[←h];unfold rst;rw[List.length_drop,zq5];omega
theorem SW.show{ws:List Wrd}{m:Nd}(h:PW ws m)(hd:dep m≤200)(hx:HX ws):SW (ws++[sg [59]]) (.mk 19 [] [m]):=fun l a r hr=>by
 have hr:rst l a=ws++sg [59]::r:=by rw[hr];simp
 obtain⟨h1,h2,h3⟩:=hx r;have hle:=aiG hr;have he:aem (sg [59]::r):=rG (by decide) r
 have hm:=h l (l.length+1) 0 (sg [59]::r) he (by omega) (by omega) a hr
 have hend:=jC hr;show stG l (lev 600 l (l.length+1)).1 _ a 0=_;have h31:(mD l a&&isS l (a+1) [61])=false:=by
  rw[zy,bL,hr,←h3];unfold rst at hr ⊢;rw[←List.drop_drop,hr]
 unfold stG;rw[bL,hr,h1,if_neg (by decide),bL,hr,h2,if_neg (by decide),h31,if_neg (by decide),hm]
 show (if isS l (a+ws.length) [59]then _ else _)=_
 rw[bL,hend,if_pos (by rfl)]
 congr 1;simp;omega
theorem SW.set{t:List UInt8}{ws:List Wrd}{m:Nd}(ht:tx 2 t=true)(h:PW ws m)(hd:dep m≤200):SW ((2,t)::sg [61]::(ws++[sg [59]])) (.mk 18 t [m]):=fun l a r hr=>by
 have hr:rst l a=(2,t)::sg [61]::(ws++sg [59]::r):=by rw[hr];simp
 have hle:=aiG hr;have he:aem (sg [59]::r):=rG (by decide) r
 have r1:=mK hr;have r2:=mK r1;rw[List.length_cons,List.length_cons]at hle;have hm:=h l (l.length+1) 0 (sg [59]::r) he (by omega) (by omega) (a+1+1) r2
 have hend:=jC r2;have n1:hS ((2,t)::sg [61]::(ws++sg [59]::r)) [105,102]=false:=aey ht (by rfl) _
 have n2:hS ((2,t)::sg [61]::(ws++sg [59]::r)) [102,111,114]=false:=aey ht (by rfl) _
 have h31:(mD l a&&isS l (a+1) [61])=true:=by
  rw[zy,bL,hr,r1,ahd ht];rfl
 show stG l (lev 600 l (l.length+1)).1 _ a 0=_;unfold stG;rw[bL,hr,n1,if_neg (by decide),bL,hr,n2,if_neg (by decide),h31,if_pos rfl,aqE hr,hm]
 show (if isS l (a+1+1+ws.length) [59]then _ else _)=_
 rw[bL,hend,if_pos (by rfl)]
 congr 1;simp;omega
theorem af8{l:List Tok}:∀(ks:List WN) (acc:List Nd) (g a:Nat),(∀k∈ks,SW k.1 k.2∧1≤k.1.length)→
  ks.length < g→rst l a=(ks.map (·.1)).flatten→a+(ks.map (·.1)).flatten.length=l.length→tQ l (afU 600 l (l.length+1)) g acc a 0= .ok (.mk 0 [] (acc++kN ks)) l.length
 |[],acc,g,a,hk,hg,h,hl=>by
  obtain⟨g,rfl⟩:∃k,g=k+1:=⟨g - 1,by simp at hg;omega⟩
  have hl:a=l.length:=by simpa using hl
  rw[tQ]
  dsimp only
  rw[if_neg (by omega),hl];simp
 |k::ks,acc,g,a,hk,hg,h,hl=>by
  rw[List.length_cons]at hg;obtain⟨g,rfl⟩:∃k,g=k+1:=⟨g - 1,by omega⟩
  obtain⟨k3,hp⟩:=hk k (by simp)
  have h:rst l a=k.1++(ks.map (·.1)).flatten:=by rw[h];simp
  rw[List.map_cons,List.flatten_cons,List.length_append]at hl;rw[tQ]
  dsimp only
  rw[if_pos (by omega),k3 l a _ h]
  dsimp only
  rw[af8 ks (acc++[k.2]) g (a+k.1.length) (fun x hx=>hk x (by simp[hx])) (by omega) (jC h) (by omega)]
  simp
theorem ae2:∀{ks:List WN},(∀k∈ks,1≤k.1.length)→ks.length≤(ks.map (·.1)).flatten.length
 |[],_=>by simp
 |k::ks,h=>by
  have:=h k (by simp)
  have:=ae2 (ks:=ks) fun x hx=>h x (by simp[hx])
  simp only[List.map_cons,List.flatten_cons,List.length_append,List.length_cons];omega
theorem adY{l:List Tok}{ks:List WN}(hw:l.map kt=(ks.map (·.1)).flatten)(ht:l.all gY=true)(hk:∀k∈ks,SW k.1 k.2∧1≤k.1.length)(hd:jU (kN ks)≤200):sU l 200=(kN ks,0,0):=by
 have hlen:l.length=(ks.map (·.1)).flatten.length:=by rw[←zq5 (f:=kt),hw]
 have hg:=ae2 fun k hkm=>(hk k hkm).2
 have h0:rst l 0=(ks.map (·.1)).flatten:=by unfold rst;rw[List.drop_zero,hw]
 have hp:afA l= .ok (.mk 0 [] (kN ks)) l.length:=by
  unfold afA;rw[af8 ks [] (l.length+1) 0 hk (by omega) h0 (by omega)]
  simp
 unfold sU;rw[if_neg (by omega),ht,if_pos rfl,hp]
 show aj8 (kN ks) 200=_;unfold aj8;rw[if_neg (by omega)]
theorem eB.len{s:List UInt8}{ws:List Wrd}(h:eB s ws):ws.length≤s.length∧∀w∈ws,w.2.length≤s.length:=by
 induction h with
 |nil h=>exact⟨Nat.zero_le _,by simp⟩
 | @cons s t w ws h h1 h2 h3 _ ih=>
  have hl:=congrArg List.length h;rw[List.length_drop,List.length_append]at hl;have hw:w.2.length≠0:=by simpa using h3
  refine⟨by rw[List.length_cons];omega,fun x hx=>?_⟩
  rcases List.mem_cons.1 hx with rfl|hx
  ·omega
  ·have:=ih.2 x hx;omega
theorem agz{s:List UInt8}{ks:List WN}(hs:eB s (ks.map (·.1)).flatten)(hl:s.length≤20000)(hk:∀k∈ks,SW k.1 k.2∧1≤k.1.length)(hd:jU (kN ks)≤200):∃ts,acW s=(ts,0,0)∧(ts.length≤1000000∧∀t∈ts,t.text.length≤9223372036854775807)∧sU ts 200=(kN ks,0,0):=by
 obtain⟨ts,h1,h2,h3⟩:=hs.R hl;have hb:=hs.len;refine⟨ts,h1,⟨?_,fun t ht=>?_⟩,adY h2 h3 hk hd⟩
 ·have:=hb.1;rw[←h2,zq5]at this;omega
 ·have:=hb.2 (kt t) (h2▸List.mem_map_of_mem ht);have e:(kt t).2=t.text:=rfl;rw[e]at this;omega
theorem ai6{α:Type}{f:α→Nat}:∀{l:List α} {x:α},x∈l→f x≤(l.map f).sum
 |y::l,x,h=>by
  rw[List.map_cons,List.sum_cons];rcases List.mem_cons.1 h with rfl|h
  ·omega
  ·have:=ai6 (f:=f) h;omega
theorem oD{α:Type}{f g:α→Nat}:∀{l:List α},(∀x∈l,f x≤g x)→(l.map f).sum≤(l.map g).sum
 |[],_=>Nat.le_refl _
 |x::l,h=>by
  rw[List.map_cons,List.map_cons,List.sum_cons,List.sum_cons];have h1:=h x List.mem_cons_self;have h2:=oD (l:=l) fun y hy=>h y (List.mem_cons_of_mem _ hy)
  omega
theorem xV(s:UInt8):∀l:List (List UInt8),(l.map List.length).sum≤(jn s l).length
 |[]=>Nat.le_refl _
 |[a]=>by simp[jn]
 |a::b::l=>by
  have:=xV s (b::l);rw[List.map_cons,List.sum_cons];show a.length+((b::l).map List.length).sum≤(a++(s::32::jn s (b::l))).length;rw[List.length_append,List.length_cons,List.length_cons];omega
theorem aiC{l:List (List UInt8)}(h:∀x∈l,1≤x.length):l.length≤(l.map List.length).sum:=by
 have h2:=oD (f:=fun _=>1) (g:=List.length) (l:=l) h
 have e:(l.map fun _=>1).sum=l.length:=by
  clear h h2
  induction l with
  |nil=>rfl
  |cons a l ih=>rw[List.map_cons,List.sum_cons,ih,List.length_cons];omega
 omega
theorem agd{c:Nat}:∀{r:Nat} {l:List (List UInt8)},l.length=r*c→(∀x∈l,1≤x.length)→r*c≤(((chk c r l).map (jn 44)).map List.length).sum
 |0,l,_,_=>by rw[Nat.zero_mul];exact Nat.zero_le _
 |r+1,l,hl,h=>by
  rw[Nat.succ_mul]at hl ⊢;show _≤(((l.take c::chk c r (l.drop c)).map (jn 44)).map List.length).sum;rw[List.map_cons,List.map_cons,List.sum_cons];have h1:=agd (c:=c) (r:=r) (l:=l.drop c) (by rw[List.length_drop];omega) (fun x hx=>h x (List.mem_of_mem_drop hx))
  have h2:=xV 44 (l.take c);have h3:=aiC (l:=l.take c) fun x hx=>h x (List.mem_of_mem_take hx)
  rw[List.length_take]at h3;omega
theorem aoU{r c:Nat}{l:List (List UInt8)}(hl:l.length=r*c)(h:∀x∈l,1≤x.length):l.length≤(tbS r c l).length:=by
 unfold tbS
 split
 ·next h0=>
  have:r*c=0:=by rcases h0 with rfl|rfl <;> simp
  omega
 ·have h1:=agd hl h;have h2:=xV 59 ((chk c r l).map (jn 44));rw[List.length_cons,List.length_append];omega
theorem amn{l:List (List UInt8)}(h:∀x∈l,1≤x.length):l.length≤(plS l).length:=by
 have h1:=xV 44 l;have h2:=aiC h;unfold plS;rw[List.length_append,List.length_append];omega
theorem aoa(s:List UInt8)(p:Nat):s.length≤(mdS s p).length:=by
 unfold mdS;rw[List.length_append,List.length_append];omega
theorem ne1{l:List UInt8}{c:UInt8}{m:List UInt8}(h:l=c::m):1≤l.length:=by rw[h];simp
theorem qS_1(x:Rat):1≤(qS x).length:=by obtain⟨c,m,h,_⟩:=qS_ne x;exact ne1 h
theorem zS_1(x:Int):1≤(zS x).length:=by obtain⟨c,m,h,_⟩:=arB x;exact ne1 h
theorem afM(x:Nat):1≤(aV x).length:=by obtain⟨c,m,h,_⟩:=ahP x;exact ne1 h
theorem aeT{α:Type}{f:α→List UInt8}{l:List α}(h:∀x,1≤(f x).length):∀y∈l.map f,1≤y.length:=fun y hy=>by
 obtain⟨x,_,rfl⟩:=List.mem_map.1 hy;exact h x
theorem atj{l:List Vl}{x:Vl}(h:x∈l):(tS x).length+2≤(tS (pU l)).length:=by
 rw[alo,List.length_cons,List.length_append];have h1:=xV 44 (l.map tS);have h2:=ai6 (f:=List.length) (List.mem_map_of_mem (f:=tS) h);have e:([125]:List UInt8).length=1:=rfl;omega
structure IV(d b s:Nat)(v:Vl):Prop where
 n:ah prog 484 [.agg (vlA v)] (.v (.int .i64 (d:Int)))
 b:ah prog 505 [.agg (vlA v)] (.v (.int .i64 (b:Int)))
 s:ah prog 486 [.agg (vlA v)] (.v (.int .i64 (s:Int)))
theorem IV.of{K n:Nat}{v:Vl}(h:Cv K n v)(hK:K≤100)(hn:n≤15):(tS v).length≤100000→∃d b s:Nat,d≤n∧b≤64000∧s≤(tS v).length∧IV d b s v:=by
 induction h with
 | @one n v h=>
  intro hl;cases h with
  |num x h=>
   have hq:=ag3 h;refine⟨0,qB x,1,Nat.zero_le _,by omega,by rw[agf];exact qS_1 x,kW _ (fun h=>by have h':(1:Int)=6:=h;omega),ajD h (by omega),?_⟩
   exact ab9 (fC x) (fun _=>0) ⟨fun h=>by have h':(1:Int)=2:=h;omega,fun h=>by have h':(1:Int)=3:=h;omega,fun h=>by have h':(1:Int)=4:=h;omega,fun h=>by have h':(1:Int)=5:=h;omega⟩ (Nat.le_of_ble_eq_true rfl) (Nat.le_of_ble_eq_true rfl) (fun x hx=>by cases hx)
  |mat r c vs hvl hr hc h=>
   have hrc:=Nat.mul_le_mul hr hc;have e:((dQ r c vs).a).length=vs.length:=zq5 _;refine⟨0,_,vs.length,Nat.zero_le _,zM (fun x hx=>?_) (Nat.zero_le _),?_,kW _ (fun h=>by have h':(2:Int)=6:=h;omega),aj6 h (by omega) (by omega),?_⟩
   ·obtain⟨y,hy,rfl⟩:=List.mem_map.1 hx;have:=ag3 (h y hy);omega
   ·rw[tH];have:=aoU (r:=r) (c:=c) (l:=vs.map qS) (by rw[zq5];exact hvl) (aeT qS_1)
    rwa [zq5]at this
   ·have:=akh (dQ r c vs) rfl (by rw[e];omega)
    rwa [e]at this
  |pol zs hzl hpn h=>
   have e:((sH zs).po).length=zs.length:=zq5 _;refine⟨0,_,zs.length,Nat.zero_le _,zM (fun x hx=>?_) (Nat.zero_le _),?_,kW _ (fun h=>by have h':(3:Int)=6:=h;omega),akE h (by omega) hzl,?_⟩
   ·obtain⟨y,hy,rfl⟩:=List.mem_map.1 hx;have:=rE (h y hy);omega
   ·rw[asL];have:=amn (l:=zs.map zS) (aeT zS_1)
    rwa [zq5]at this
   ·have:=akK (sH zs) rfl (by rw[e];omega)
    rwa [e]at this
  |fld p r c l hp hll hr hc h=>
   have hrc:=Nat.mul_le_mul hr hc;have hpl:=hp.lt;have hpW:p < WB:=by rw[bV];omega
   refine⟨0,bitLen p,l.length,Nat.zero_le _,?_,?_,kW _ (fun h=>by have h':(4:Int)=6:=h;omega),ais (tu p r c l) (.inl rfl) hpW,ajJ (tu p r c l) rfl (show l.length≤1000000 by omega)⟩
   ·have:=rE (k:=1) (by rw[Nat.pow_one];exact hpW);omega
   ·rw[ash];have:=aoU (r:=r) (c:=c) (l:=l.map aV) (by rw[zq5];exact hll) (aeT afM)
    rw[zq5]at this;exact Nat.le_trans this (aoa _ _)
  |rng p l hp hll hwn h=>
   have hpl:=hp.lt;have hpW:p < WB:=by rw[bV];omega
   refine⟨0,bitLen p,l.length,Nat.zero_le _,?_,?_,kW _ (fun h=>by have h':(5:Int)=6:=h;omega),ais (uO p l) (.inr rfl) hpW,ajy (uO p l) rfl (show l.length≤1000000 by omega)⟩
   ·have:=rE (k:=1) (by rw[Nat.pow_one];exact hpW);omega
   ·rw[aso];have:=amn (l:=l.map aV) (aeT afM);rw[zq5]at this;exact Nat.le_trans this (aoa _ _)
 | @lst n l hll h ih=>
  intro hl;obtain⟨g,hg⟩:=aeF (β:=Nat×Nat×Nat) (P:=fun x t=>t.1≤n∧t.2.1≤64000∧t.2.2≤(tS x).length∧IV t.1 t.2.1 t.2.2 x) (l:=l) (fun x hx=>by
   have hm:=atj hx;obtain⟨d,b,s,h1,h2,h3,h4⟩:=ih x hx (by omega) (by omega)
   exact⟨(d,b,s),h1,h2,h3,h4⟩)
  have hs:(l.map fun x=>(g x).2.2).sum+2≤(tS (pU l)).length:=by
   rw[alo,List.length_cons,List.length_append];have h1:=xV 44 (l.map tS);have h2:=oD (f:=fun x=>(g x).2.2) (g:=fun x=>(tS x).length) (l:=l) (fun x hx=>(hg x hx).2.2.1)
   rw[List.map_map]at h1;have h3:(l.map (List.length ∘ tS)).sum=(l.map fun x=>(tS x).length).sum:=rfl
   have e:([125]:List UInt8).length=1:=rfl;omega
  refine⟨1+(l.map fun x=>(g x).1).foldl max 0,(l.map fun x=>(g x).2.1).foldl max 0,1+(l.map fun x=>(g x).2.2).sum,?_,?_,by omega,?_,?_,?_⟩
  ·have:=zM (B:=n) (l:=l.map fun x=>(g x).1) (b:=0) (fun y hy=>by obtain⟨x,hx,rfl⟩:=List.mem_map.1 hy;exact(hg x hx).1) (Nat.zero_le _)
   omega
  ·exact zM (fun y hy=>by obtain⟨x,hx,rfl⟩:=List.mem_map.1 hy;exact(hg x hx).2.1) (Nat.zero_le _)
  ·exact ae4 (pU l) (fun x=>(g x).1) rfl (show l.length≤1000000 by omega) (fun x hx=>by have:=(hg x hx).1;omega) (fun x hx=>(hg x hx).2.2.2.n)
  ·exact aqr (pU l) (fun x=>(g x).2.1) rfl rfl (show l.length≤1000000 by omega) (fun x hx=>(hg x hx).2.1) (fun x hx=>(hg x hx).2.2.2.b)
  ·exact ab9 (pU l) (fun x=>(g x).2.2) ⟨fun h=>by have h':(6:Int)=2:=h;omega,fun h=>by have h':(6:Int)=3:=h;omega,fun h=>by have h':(6:Int)=4:=h;omega,fun h=>by have h':(6:Int)=5:=h;omega⟩ (show (l.map fun x=>(g x).2.2).sum≤1000000 by omega) (show l.length≤1000000 by omega) (fun x hx=>(hg x hx).2.2.2.s)
theorem VI.of{K n B:Nat}{v:Vl}(h:Cv K n v)(hK:K≤100)(hn:n≤15)(hl:(tS v).length≤100000)(hB:64000≤B):∃s:Nat,s≤(tS v).length∧VI B s v:=by
 obtain⟨d,b,s,h1,h2,h3,h4⟩:=IV.of h hK hn hl;exact⟨s,h3,⟨d,by omega,h4.n⟩,⟨b,by omega,asb (h.F (by omega) hn) h4.b⟩,h4.s⟩
section
theorem kF{x k:Nat}(h:x < WB ^ k):(aV x).length≤20*k+1:=by
 unfold aV
 split
 ·simp
 ·have:WB ^ k≤10 ^ (20*k):=by rw[Nat.pow_mul];exact Nat.pow_le_pow_left (by rw[bV];decide) _
  have:=acK (Nat.lt_of_lt_of_le h this);omega
attribute [local irreducible] IntKind.wrap Go1 Reg WP aR aU bR bO aN aF ak aj aY Sat
attribute [local irreducible] bS dn cK dD dh qv bW mf PrP qOk zOk vP eu lz vF cq rqv fB dw dN d9 gP jn sq aV qS zS tS tbS plS mdS zmd eG iN nmC qB
theorem al9{v n:Vl}{e:Int}(hF:ah prog 78 [.agg (vlA v)] (.v (.bool true)))(h:ah prog 506 [.agg (vlA v)] (.tup [.agg (vlA n),eNo e])):
  ah prog 488 [.v (.int .i64 3),.agg (vlA v)] (.tup [.agg (vlA n),eNo e]):=by
 refine ah.fnF func488 results488 ntmps488 rfl rfl rfl (by simp[AV.ids,AV0.ids,Atom.ids]) rfl (fun w0 T B E0 hB=>?_)
 refine SX.goM ?_;exact .ok (aF.mk2 (ak.gX rfl rfl rfl) (ak.tmp rfl))
theorem AL.one{B:Nat}{nm:Nms}{m:Nd}{k:Nat}{v:Vl}(h:EX B nm m k v):AL B nm [m] k [v]:=by
 have:=anG B nm [m] [k] [v] rfl rfl (Nat.le_of_ble_eq_true rfl) (fun i n k' v' h1 h2 h3=>by
  match i,h1,h2,h3 with
  |0,h1,h2,h3=>cases h1;cases h2;cases h3;exact h)
 simpa using this
theorem AL.two{B:Nat}{nm:Nms}{m m':Nd}{k k':Nat}{v v':Vl}(h:EX B nm m k v)(h':EX B nm m' k' v'):AL B nm [m,m'] (k+k') [v,v']:=by
 have:=anG B nm [m,m'] [k,k'] [v,v'] rfl rfl (Nat.le_of_ble_eq_true rfl) (fun i n k1 v1 h1 h2 h3=>by
  match i,h1,h2,h3 with
  |0,h1,h2,h3=>cases h1;cases h2;cases h3;exact h
  |1,h1,h2,h3=>cases h1;cases h2;cases h3;exact h')
 simpa using this
section
variable{B K:Nat}(hB:64000≤B)(hB0:B≤1000000000)(h1:1≤K)(hK:K≤90)
include hB hB0 h1 hK
omit hB0 in
theorem VI.num{x:Rat}(hx:RB x K):∃s:Nat,s≤(qS x).length∧VI B s (fC x):=by
 have hl:(tS (fC x)).length≤100000:=by
  rw[agf,xW];have d1:=kF hx.n;have d2:=kF hx.d;have z1:(zS x.num).length≤(aV x.num.natAbs).length+1:=by unfold zS;split <;> simp
  have z2:(zS (x.den:Int)).length=(aV x.den).length:=by rw[zK]
  split
  ·omega
  ·rw[List.length_append,List.length_cons];omega
 have h:=VI.of (B:=B) (Cv.one (n:=0) (.num x hx)) (by omega) (by omega) hl hB
 rwa [agf]at h
theorem adN{x:Nat}(hx:x < WB ^ K):∃k:Nat,k≤2*(aV x).length∧∀nm,EX B nm (nmN (aV x)) k (vI x):=by
 have hb:((x:Nat):Int).natAbs < WB ^ K:=hx;have hd:=kF hx;obtain⟨s,hs,hv⟩:=VI.num hB h1 hK (RB.ofI hb h1);have e:qS ((x:Int):Rat)=aV x:=by rw[xW,if_pos (Rat.den_intCast _),Rat.num_intCast,zK]
 rw[e]at hs;have hp:=afM x;have cZ:=ahn (aV x) (by omega)
 have hz:=al0 (z:=(x:Int)) (k:=K) ⟨hb⟩ (by omega)
 rw[zK]at hz;rw[hz.1,hz.2]at cZ;have cW:ah prog 17 [.agg (zN (x:Int))] (.agg (vlA (vI x))):=wz (q:=z2v (x:Int)) (ZQ.made hb) h1 (by omega)
 exact⟨s+1,by omega,fun nm=>EX.num hB0 (n:=nmN (aV x)) rfl cZ cW hv⟩
theorem asG{z:Int}(hz:z.natAbs < WB ^ K):∃k:Nat,k≤3*(zS z).length∧∀nm,EX B nm (zNd z) k (vI z):=by
 obtain⟨k,hk,hE⟩:=adN hB hB0 h1 hK hz;by_cases h:z < 0
 ·have e1:zNd z= .mk 3 [] [nmN (aV z.natAbs)]:=by unfold zNd;rw[if_pos h]
  have e2:zS z=45::aV z.natAbs:=by unfold zS;rw[if_pos h]
  have e3:(z:Rat)= -(((z.natAbs:Nat):Int):Rat):=by
   rw[←Rat.intCast_neg];congr 1;omega
  have hb:(((z.natAbs:Nat):Int)).natAbs < WB ^ K:=by simpa using hz
  obtain⟨s,hs,hv⟩:=VI.num hB h1 hK (RB.ofI hz h1);have e4:qS (z:Rat)=zS z:=by rw[xW,if_pos (Rat.den_intCast _),Rat.num_intCast]
  rw[e4]at hs;have cN:=al9 (zJ hb h1 (by omega)) (an6 (RB.ofI hb h1) (by omega))
  have e5:fC (-(((z.natAbs:Nat):Int):Rat))=vI z:=by rw[←e3]
  rw[e5]at cN;refine⟨s+k+1,by rw[e2]at hs ⊢;rw[List.length_cons]at*;omega,fun nm=>?_⟩
  rw[e1];exact EX.opr hB0 (n:= .mk 3 [] [nmN (aV z.natAbs)]) ⟨fun h=>by have h':(3:Int)=1:=h;omega,fun h=>by have h':(3:Int)=2:=h;omega,fun h=>by have h':(3:Int)=14:=h;omega⟩ (AL.one (hE nm)) (alh rfl cN) hv
 ·have e1:zNd z=nmN (aV z.natAbs):=by unfold zNd;rw[if_neg h]
  have e2:zS z=aV z.natAbs:=by unfold zS;rw[if_neg h]
  have e3:((z.natAbs:Nat):Int)=z:=by omega
  rw[e3]at hE;refine⟨k,by rw[e2];omega,fun nm=>?_⟩
  rw[e1];exact hE nm
end
end
section
def FW(ws:List Wrd):Prop:=HD ws [41]∧HD ws [125]∧HX ws
theorem FW.num(t:List UInt8)(r:List Wrd):FW ((1,t)::r):=⟨⟨_,_,rfl,fun r'=>rfl⟩,⟨_,_,rfl,fun r'=>rfl⟩,fun r'=>⟨rfl,rfl,rfl⟩⟩
theorem FW.min(r:List Wrd):FW (sg [45]::r):=⟨⟨_,_,rfl,fun r'=>rfl⟩,⟨_,_,rfl,fun r'=>rfl⟩,fun r'=>⟨rfl,rfl,rfl⟩⟩
theorem FW.mat(r:List Wrd):FW (sg [91]::r):=⟨⟨_,_,rfl,fun r'=>rfl⟩,⟨_,_,rfl,fun r'=>rfl⟩,fun r'=>⟨rfl,rfl,rfl⟩⟩
theorem FW.zero(r:List Wrd):FW ((2,lg)::sg [40]::r):=⟨⟨_,_,rfl,fun r'=>rfl⟩,⟨_,_,rfl,fun r'=>rfl⟩,fun r'=>⟨rfl,rfl,rfl⟩⟩
theorem FW.z(z:Int)(r:List Wrd):FW (zWd z++r):=by
 unfold zWd
 split
 ·exact FW.min _
 ·exact FW.num _ _
def OP(m:Nd):Prop:=m.op≤8∨13≤m.op
theorem op_z(z:Int):OP (zNd z):=by
 unfold zNd
 split
 ·exact .inl (show (3:Int)≤8 by decide)
 ·exact .inl (show (1:Int)≤8 by decide)
structure RD(B:Nat)(s:List UInt8)(v:Vl)(c d:Nat):Prop where
 h:∃(ws:List Wrd) (m:Nd) (k:Nat),LV s ws∧PW ws m∧FW ws∧dep m≤d∧k≤c*s.length∧(∀nm,EX B nm m k v)∧OP m
theorem aae(t:List UInt8):dep (nmN t)=0:=by rw[aa1];rfl
theorem arw(z:Int):dep (zNd z)≤1:=by
 unfold zNd
 split
 ·rw[aa1];show (if([nmN (aV z.natAbs)]:List Nd).isEmpty then 0 else 1+jU [nmN (aV z.natAbs)])≤1
  rw[kC,kU,aae];exact Nat.le_refl 1
 ·rw[aae];omega
theorem aaP{d:Nat}:∀{ks:List Nd},(∀k∈ks,dep k≤d)→jU ks≤d
 |[],_=>by rw[kU];omega
 |k::ks,h=>by
  rw[kC];have h1:=h k (by simp)
  have h2:=aaP (ks:=ks) fun x hx=>h x (by simp[hx])
  omega
theorem sI{o:Int}{t:List UInt8}{ks:List Nd}{d:Nat}(h:∀k∈ks,dep k≤d):dep (.mk o t ks)≤d+1:=by
 rw[aa1];show (if ks.isEmpty then 0 else 1+jU ks)≤d+1
 have:=aaP h
 split <;> omega
attribute [local irreducible] bS dn cK dD dh qv bW mf PrP qOk zOk vP eu lz vF cq rqv fB dw dN d9 gP jn sq aV qS zS tS tbS plS mdS zmd eG iN nmC qB
section
variable{B K:Nat}(hB:64000≤B)(hB0:B≤1000000000)(h1:1≤K)(hK:K≤90)
include hB hB0 h1 hK
theorem RD.q{x:Rat}(hx:RB x K):RD B (qS x) (fC x) 4 2:=by
 obtain⟨kz,hkz,hEz⟩:=asG hB hB0 h1 hK hx.n;obtain⟨kd,hkd,hEd⟩:=adN hB hB0 h1 hK hx.d;have hdn:=kF hx.n;have hdd:=kF hx.d;obtain⟨s,hs,hv⟩:=VI.num hB h1 hK hx;have hself:=gL x;unfold qv at hself;by_cases h:x.den=1
 ·have e:qS x=zS x.num:=by rw[xW,if_pos h]
  have e2:((x.num:Int):Rat)=x:=by rw[h]at hself;rw[←hself];grind
  have hw:=FW.z x.num [];rw[List.append_nil]at hw;refine⟨zWd x.num,zNd x.num,kz,by rw[e];exact LV.zS (by omega),PW.z _,hw,by have:=arw x.num;omega,by rw[e];omega,fun nm=>?_,op_z _⟩
  have:=hEz nm
  rwa [show vI x.num=fC x from congrArg fC e2]at this
 ·have e:qS x=zS x.num++47::aV x.den:=by rw[xW,if_neg h,zK]
  have hd0:((x.den:Int):Rat)≠0:=c0 (kI x);have hbn:=RB.ofI hx.n h1;have hbd:RB ((x.den:Int):Rat) K:=RB.ofI (z:=(x.den:Int)) hx.d h1;have cQ:=ang hbn hbd (by omega) hd0
  rw[hself]at cQ;have cB:=ao3 (zJ hx.n h1 (by omega)) (zJ (z:=(x.den:Int)) hx.d h1 (by omega)) cQ
  have hlen:(qS x).length=(zS x.num).length+1+(aV x.den).length:=by rw[e,List.length_append,List.length_cons];omega
  refine⟨zWd x.num++sg [47]::[(1,aV x.den)],.mk 7 [] [zNd x.num,nmN (aV x.den)],s+(kz+kd)+1,?_,PW.frac _ _,FW.z _ _,?_,by omega,fun nm=>?_,.inl (show (7:Int)≤8 by decide)⟩
  ·rw[e];exact LV.mid (LV.zS (by omega)) gu.2.1 (LV.num (pW (by omega)))
  ·refine sI (d:=1) fun k hk=>?_
   rcases List.mem_cons.1 hk with rfl|hk
   ·exact arw _
   ·rw[List.mem_singleton]at hk;subst hk;rw[aae];omega
  ·exact EX.opr hB0 (n:= .mk 7 [] [zNd x.num,nmN (aV x.den)]) ⟨fun h=>by have h':(7:Int)=1:=h;omega,fun h=>by have h':(7:Int)=2:=h;omega,fun h=>by have h':(7:Int)=14:=h;omega⟩ (AL.two (hEz nm) (hEd nm)) (asH (n:= .mk 7 [] [zNd x.num,nmN (aV x.den)]) ⟨show (4:Int)≤7 by decide,show (7:Int)≤12 by decide⟩ cB) hv
end
end
section
instance:Inhabited (WN×Nat):=⟨(([],nmN []),0)⟩
structure RG(B:Nat)(s:List UInt8)(v:Vl)(c d:Nat)(g:WN×Nat):Prop where
 lv:LV s g.1.1
 pw:PW g.1.1 g.1.2
 fw:FW g.1.1
 dp:dep g.1.2≤d
 k:g.2≤c*s.length
 ex:∀nm,EX B nm g.1.2 g.2 v
 op:OP g.1.2
theorem RD.g{B:Nat}{s:List UInt8}{v:Vl}{c d:Nat}(h:RD B s v c d):∃g,RG B s v c d g:=by
 obtain⟨ws,m,k,h1,h2,h3,h4,h5,h6,h7⟩:=h.h;exact⟨((ws,m),k),h1,h2,h3,h4,h5,h6,h7⟩
section
variable{α:Type}{B c d:Nat}{l:List α}{s:α→List UInt8}{v:α→Vl}{g:α→WN×Nat}(h:∀x∈l,RG B (s x) (v x) c d (g x))
include h
theorem RG.al(nm:Nms)(hl:l.length≤100000):AL B nm (l.map fun x=>(g x).1.2) ((l.map fun x=>(g x).2).sum) (l.map v):=by
 refine anG B nm _ _ _ (by rw[zq5,zq5]) (by rw[zq5,zq5]) (by rw[zq5];exact hl) fun i n k w h1 h2 h3=>?_
 rw[List.getElem?_map]at h1 h2 h3
 cases hx:l[i]? with
 |none=>rw[hx]at h1;cases h1
 |some x=>
  rw[hx]at h1 h2 h3;cases h1;cases h2;cases h3;exact(h x (zq4 hx)).ex nm
theorem RG.sum:(l.map fun x=>(g x).2).sum≤c*(l.map fun x=>(s x).length).sum:=by
 induction l with
 |nil=>exact Nat.zero_le _
 |cons x l ih=>
  rw[List.map_cons,List.map_cons,List.sum_cons,List.sum_cons,Nat.mul_add];have h1:=(h x List.mem_cons_self).k;have h2:=ih fun y hy=>h y (List.mem_cons_of_mem _ hy)
  omega
theorem RG.jn:LV (jn 44 (l.map s)) (jW (l.map fun x=>(g x).1)):=by
 have:=LV.jn gu.2.2.1 (l.map fun x=>(s x,(g x).1.1)) (fun y hy=>by
  obtain⟨x,hx,rfl⟩:=List.mem_map.1 hy;exact(h x hx).lv)
 rw[List.map_map,List.map_map]at this;show LV _ (aat _ ((l.map fun x=>(g x).1).map (·.1)))
 rw[List.map_map];exact this
end
theorem aqL:tx 2 lg=true:=by
 have h:=ae5.1;have h2:ownB lg=false:=by rfl
 unfold tx gY;rw[h2];simp[h]
theorem aeX{α β:Type}(f:α→β)(c:Nat):∀(r:Nat) (l:List α),chk c r (l.map f)=(chk c r l).map (List.map f)
 |0,_=>rfl
 |r+1,l=>by
  show (l.map f).take c::chk c r ((l.map f).drop c)=(l.take c).map f::(chk c r (l.drop c)).map (List.map f);rw[←List.map_take,←List.map_drop,aeX f c r]
theorem lW{α:Type}(c:Nat):∀(r:Nat) (l:List α),(chk c r l).length=r
 |0,_=>rfl
 |r+1,l=>by
  show (l.take c::chk c r (l.drop c)).length=_;rw[List.length_cons,lW c r]
theorem adJ{α:Type}{c:Nat}:∀{r i:Nat} {l:List α},i < r→(chk c r l)[i]? =some ((l.drop (i*c)).take c)
 |0,i,l,h=>absurd h (Nat.not_lt_zero _)
 |r+1,0,l,h=>by
  show (l.take c::chk c r (l.drop c))[0]? =_;rw[Nat.zero_mul];rfl
 |r+1,i+1,l,h=>by
  show (l.take c::chk c r (l.drop c))[i+1]? =_;rw[List.getElem?_cons_succ,adJ (by omega),List.drop_drop]
  congr 3
  rw[Nat.succ_mul];omega
theorem aei{α:Type}{c:Nat}:∀{r:Nat} {l row:List α} {x:α},row∈chk c r l→x∈row→x∈l
 |0,l,row,x,h,_=>by cases h
 |r+1,l,row,x,h,hx=>by
  rcases List.mem_cons.1 h with rfl|h
  ·exact List.mem_of_mem_take hx
  ·exact List.mem_of_mem_drop (aei h hx)
theorem apA{α:Type}{c r:Nat}{l row:List α}(hl:l.length=r*c)(h:row∈chk c r l):row.length=c:=by
 obtain⟨i,hi⟩:=List.mem_iff_getElem?.1 h;have hir:i < r:=by have:=u7 hi;rwa [lW]at this
 rw[adJ hir]at hi;cases hi;rw[List.length_take,List.length_drop];have:=Nat.mul_le_mul_right c (show i+1≤r by omega)
 rw[Nat.succ_mul]at this;omega
attribute [local irreducible] bS dn cK dD dh qv bW mf PrP qOk zOk vP eu lz vF cq rqv fB dw dN d9 gP sq aV qS zS tS mdS zmd eG iN nmC qB
section
variable{B K:Nat}(hB:64000≤B)(hB0:B≤1000000000)(h1:1≤K)(hK:K≤90)
include hB hB0 h1 hK
end
end
end
end Go.Proofs.YtjnhnbgpifohjaaGreatDoor