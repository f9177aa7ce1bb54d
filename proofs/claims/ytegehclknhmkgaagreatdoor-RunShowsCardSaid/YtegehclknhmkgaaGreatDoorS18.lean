import Derived.Test.YtegehclknhmkgaaGreatDoorS16
import Derived.Test.YtegehclknhmkgaaGreatDoorS11
import Derived.Test.YtegehclknhmkgaaGreatDoorS20
import Derived.Test.YtegehclknhmkgaaGreatDoorS17
import Derived.Test.YtegehclknhmkgaaGreatDoorS14
import Derived.Test.YtegehclknhmkgaaGreatDoorS13
import Derived.Test.YtegehclknhmkgaaGreatDoorS15
set_option linter.unusedVariables false
set_option linter.unusedSimpArgs false
set_option linter.unusedSectionVars false
open Go.Proofs.Tryz
namespace Go.Proofs.YtegehclknhmkgaaGreatDoor
open Go.RowKit QM SX LA
section
attribute [local irreducible] bT bX bY dw bZ qv dR mf PrP qOk zOk vP dQ lz vF cq rqv eY bW dL dh gD jn sq aO qS zS tS tbS plS mdS zmd
theorem rE:sK.length < 4294967281:=by have e:sK.length=226:=rfl;omega
theorem aqU:ah prog 177 [.v (str sK),.v (str (([32]++kQ)++[32]))] (.v (.bool true)):=eX rE (by kernel_rfl)
theorem apY:ah prog 177 [.v (str sK),.v (str (([32]++jF)++[32]))] (.v (.bool true)):=eX rE (by kernel_rfl)
theorem at0:ah prog 177 [.v (str sK),.v (str (([32]++iC)++[32]))] (.v (.bool true)):=eX rE (by kernel_rfl)
theorem aqE:ah prog 177 [.v (str kQ),.v (str [32])] (.v (.bool false)):=eX (by decide) (by kernel_rfl)
theorem apO:ah prog 177 [.v (str jF),.v (str [32])] (.v (.bool false)):=eX (by decide) (by kernel_rfl)
theorem ate:ah prog 177 [.v (str iC),.v (str [32])] (.v (.bool false)):=eX (by decide) (by kernel_rfl)
theorem qw{z:Int}{K:Nat}(h:z.natAbs < WB ^ K)(h1:1≤K)(hK:K≤100000):ah prog 32 [.agg (vlA (vI z))] (.v (.bool true)):=
 (Cv.one (n:=0) (.num _ (RB.ofI h h1):Sh K (fJ (z:Rat)))).F hK (by decide)
theorem abw{r c:Nat}(hr:r≤64)(hc:c≤64):ah prog 229 [.v (str kQ),.r (aA 15 vlE [vI r,vI c])] (.tup [.agg (vlA (eF r c ((kH c (fun _ _=>0) r).map fun z:Int=>(z:Rat)))),eNo 0]):=by
 refine uM (n0:=0) (by decide) (by decide) (Nat.le_of_ble_eq_true rfl) (fun v hv=>?_) aqU aqE (fun k f hk _=>absurd hk (Nat.not_lt_zero _)) (fun f hf=>?_)
 ·rcases List.mem_cons.1 hv with rfl|hv
  ·exact qw (yH hr) (Nat.le_refl 1) (by decide)
  ·rw[List.mem_singleton]at hv;subst hv;exact qw (yH hc) (Nat.le_refl 1) (by decide)
 ·cases hf;exact aa4 hr hc
theorem ab6{K:Nat}{zs:List Int}(hz:∀z∈zs,z.natAbs < WB ^ K)(h1:1≤K)(hK:K≤100000)(hl:zs.length≤10000)(hn:pN zs):ah prog 229 [.v (str jF),.r (aA 15 vlE (zs.map vI))] (.tup [.agg (vlA (iO zs)),eNo 0]):=by
 refine uM (n0:=5) (by decide) (by decide) (by rw[zq5];omega) (fun v hv=>?_) apY apO (fun k f hk hf=>?_) (fun f hf=>?_)
 ·obtain⟨z,hz',rfl⟩:=List.mem_map.1 hv;exact qw (hz z hz') h1 hK
 ·match k,hk,hf with
  |0,_,hf=>cases hf;exact afE (.inl rfl)
  |1,_,hf=>cases hf;exact aeG (.inl rfl)
  |2,_,hf=>cases hf;exact aay (.inl rfl)
  |3,_,hf=>cases hf;exact vH (.inl rfl)
  |4,_,hf=>
   cases hf;by_cases h:(zs.map vI).length=1
   ·match zs,h with
    |[z],_=>exact ah9 ⟨fun h=>by have h':(1:Int)=4:=h;omega,fun h=>by have h':(1:Int)=5:=h;omega⟩
   ·exact abS h (by rw[zq5];omega)
 ·cases hf;exact zK hz h1 hK hl hn
theorem uW{v w r:Vl}{z:Int}(hF:ah prog 32 [.agg (vlA v)] (.v (.bool true)))(hF':ah prog 32 [.agg (vlA w)] (.v (.bool true)))(h:ah prog 363 [.agg (vlA v)] (.tup [.agg (zN z),.one (.c (.val (.bool false)))]))(hM:ah prog 326 [.agg (dX iC [v,w])] (.agg (mo r 0 true))):
  ah prog 229 [.v (str iC),.r (aA 15 vlE [v,w])] (.tup [.agg (vlA r),eNo 0]):=by
 refine uM (n0:=5) (by decide) (by decide) (Nat.le_of_ble_eq_true rfl) (fun u hu=>?_) at0 ate (fun k f hk hf=>?_) (fun f hf=>?_)
 ·rcases List.mem_cons.1 hu with rfl|hu
  ·exact hF
  ·rw[List.mem_singleton]at hu;subst hu;exact hF'
 ·match k,hk,hf with
  |0,_,hf=>cases hf;exact afE (.inr rfl)
  |1,_,hf=>cases hf;exact aeG (.inr rfl)
  |2,_,hf=>cases hf;exact aay (.inr rfl)
  |3,_,hf=>cases hf;exact vH (.inr rfl)
  |4,_,hf=>cases hf;exact abS (fun h=>by have h':2=1:=h;omega) (Nat.le_of_ble_eq_true rfl)
 ·cases hf;exact ab7 h hM
theorem aiB{p:Nat}{l:List Nat}(h:∀x∈l,x < p):(l.map fun x:Nat=>(x:Int)).map (zmd p)=l:=by
 rw[List.map_map];refine(List.map_congr_left fun x hx=>?_).trans (List.map_id l)
 exact amP (h x hx)
theorem akc{p:Nat}{l:List Nat}(h:∀x∈l,x < p)(hn:wN l):p8 p l=l:=by
 unfold p8;rw[agL h];exact ahF hn
theorem asa{l:List Nat}(hn:wN l):pN (l.map fun x:Nat=>(x:Int)):=by
 unfold pN;rw[zq5];rcases hn with h0|h0
 ·exact .inl h0
 ·refine .inr ?_;rw[zq3,List.getElem?_map]
  rw[zq3]at h0
  cases hx:l[l.length - 1]? with
  |none=>rw[hx]at h0;exact absurd rfl h0
  |some x=>
   rw[hx]at h0;have h1:x≠0:=h0;show ((x:Nat):Int)≠0;omega
theorem ab5{p:Nat}(hp:PrP p){l:List Nat}(hl:l.length≤10000)(hn:wN l)(h:∀x∈l,x < p):ah prog 229 [.v (str iC),.r (aA 15 vlE [iO (l.map fun x:Nat=>(x:Int)),vI p])] (.tup [.agg (vlA (lu p l)),eNo 0]):=by
 have hpl:=hp.lt;have hz:∀z∈l.map (fun x:Nat=>(x:Int)),z.natAbs < WB ^ 1:=fun z hz=>by
  obtain⟨x,hx,rfl⟩:=List.mem_map.1 hz;have:=h x hx;rw[Nat.pow_one,bB];omega
 have hn':=asa hn;obtain⟨z,w1⟩:=oH (v:=iO (l.map fun x:Nat=>(x:Int))) qD.1 qD.2 (fun h=>by have h':(3:Int)=1:=h;omega)
 have hM:=al7 hp hz (by decide) (by rw[zq5];exact hl)
 rw[aiB h,akc h hn]at hM;exact uW ((Cv.one (n:=0) (.pol _ (by rw[zq5];exact hl) hn' hz)).F (by decide) (by decide)) (qw (K:=1) (by rw[Nat.pow_one,bB];omega) (by decide) (by decide)) w1 hM
theorem ad6{p r c:Nat}(hp:PrP p){l:List Nat}(hl:l.length=r*c)(hr:r≤64)(hc:c≤64)(h:∀x∈l,x < p):ah prog 229 [.v (str iC),.r (aA 15 vlE [eF r c ((l.map fun x:Nat=>(x:Int)).map fun z:Int=>(z:Rat)),vI p])] (.tup [.agg (vlA (kS p r c l)),eNo 0]):=by
 have hpl:=hp.lt;have hz:∀z∈l.map (fun x:Nat=>(x:Int)),z.natAbs < WB ^ 1:=fun z hz=>by
  obtain⟨x,hx,rfl⟩:=List.mem_map.1 hz;have:=h x hx;rw[Nat.pow_one,bB];omega
 have hrc:=Nat.mul_le_mul hr hc;obtain⟨z,w1⟩:=oH (v:=eF r c ((l.map fun x:Nat=>(x:Int)).map fun z:Int=>(z:Rat))) qD.1 qD.2 (fun h=>by have h':(2:Int)=1:=h;omega)
 have hM:=akO hp (by rw[zq5];exact hl) hr hc hz (by decide) (by omega) (by decide)
 rw[aiB h]at hM;refine uW ((Cv.one (n:=0) (.mat r c _ (by rw[zq5,zq5];exact hl) hr hc fun v hv=>?_:Sh 1 _)).F (by decide) (by decide)) (qw (K:=1) (by rw[Nat.pow_one,bB];omega) (by decide) (by decide)) w1 hM
 obtain⟨z,hz',rfl⟩:=List.mem_map.1 hv;exact RB.ofI (hz z hz') (by decide)
end
section
section
def qdn(x d:Rat):Nat→Rat
 |0=>x
 |k+1=>qdn x d k / d
theorem apr{x d:Rat}{K L:Nat}(hx:RB x K)(hd:RB d L)(h0:d≠0):∀k,RB (qdn x d k) (K+k*L)
 |0=>by rw[Nat.zero_mul];exact hx
 |k+1=>by
  have:=(apr hx hd h0 k).div hd h0;rw[show K+(k+1)*L=K+k*L+L by rw[Nat.succ_mul];omega]
  exact this
def ahe(n:Nat)(zs:List Int):Int:=akS (zgM (zat zs n) n n) n
def akq(n:Nat)(vs:List Rat):Rat:=qdn ((ahe n (nP vs):Int):Rat) (((iB vs:Nat):Int):Rat) n
abbrev nTra:List UInt8:=[116,114,97,110,115,112,111,115,101]
abbrev mW:List UInt8:=[100,101,116]
abbrev nInv:List UInt8:=[105,110,118]
abbrev nRnk:List UInt8:=[114,97,110,107]
abbrev anZ:List Atom:=[.c (.val (.int .i64 0)),.c (.val (.bool false)),.c (.val (.slice none 0 0)),.c (.val (.bool false)),.c (.val (.slice none 0 0)),.c (.val (.int .i64 0)),.c (.val (.int .i64 0)),.c (.val (.slice none 0 0)),.c (.val (.slice none 0 0)),.c (.val (.int .u64 0)),.c (.val (.int .i64 0)),.c (.val (.int .i64 0)),.c (.val (.slice none 0 0)),.c (.val (.slice none 0 0)),.c (.val (.slice none 0 0)),.c (.val (.int .i64 0)),.c (.val (.bool false))]
attribute [local irreducible] IntKind.wrap Go1 Reg WP aS aT bR bO aQ aC ak aj aX Sat
attribute [local irreducible] bT bX bY dw bZ qv dR mf PrP qOk zOk vP dQ lz vF cq rqv eY bW dL dh gD jn sq aO qS zS tS tbS plS mdS zmd ahe qdn
theorem alf{n K:Nat}{zs:List Int}(hl:zs.length=n*n)(hn:n≤64)(hz:∀z∈zs,z.natAbs < WB ^ K)(hK1:1≤K)(hkz:kz K n≤1000000):
  ah prog 392 [.agg (wS n n zs)] (.tup [.agg (zN (ahe n zs)),eNo 0]):=by
 have hl2:(zs.map z2v).length=n*n:=by rw[zq5];exact hl
 have hKK:=aiH n K;have cF:ah prog 365 [.agg (y8 n n (aA 2 zC zs))] (.v (.bool true)):=by
  have h:=adM (cells:=(zs.map z2v).flatMap z2C) (mF.nat hn hn hl2);have e:ah prog 365 [.agg (aed n n (zs.map z2v))] (.v (.bool true)):=h;rw[←xk]at e;exact e
 unfold ahe;refine aoP (x:=aA 2 zC zs) (va:=zat zs n) hn cF (fun i k hi hk=>?_) (fun i k hi hk=>?_) hK1 hkz
 ·have h:=adu (r:=n) (c:=n) (MZ.made hz) hl2 hn hn hi hk (by omega)
  rw[←xk]at h;exact h
 ·exact hz _ (zq4 (wL hl hi hk))
theorem apZ{n K:Nat}{zs:List Int}(hl:zs.length=n*n)(hz:∀z∈zs,z.natAbs < WB ^ K)(hK1:1≤K):(ahe n zs).natAbs < WB ^ kz K n:=by
 unfold ahe;exact ar7 (ah6 (fun i k hi hk=>hz _ (zq4 (wL hl hi hk))) hK1)
theorem yB{n K:Nat}{vs:List Rat}(hl:vs.length=n*n)(hn:n≤64)(hv:∀v∈vs,RB v K)(hK1:1≤K)(hB0:1+(n*n+1)*K≤50000)(hkz:kz (K+(1+vs.length*K)) n≤10000)(hnk:n*(1+vs.length*K)≤10000):
  ah prog 301 [.agg (um n n ((vs.map cq).map rq))] (.agg (mo (fJ (akq n vs)) 0 true)):=by
 have cC:=acM (r:=n) (c:=n) (MV.cq hv) (by rw[zq5,zq5];exact hl) hn hn hK1 hB0
 have hcz:=aq3 hv;have hcl:(nP vs).length=n*n:=by unfold nP;rw[zq5];exact hl
 have hkk:=aiH n (K+(1+vs.length*K));have cD:=alf hcl hn hcz (by omega) (by omega)
 have hdl:=apZ hcl hcz (by omega)
 have hL:=uL hv vs.length;rw[List.take_length]at hL;have hp:=uH vs;unfold akq;generalize ahe n (nP vs)=d at*;generalize iB vs=m at*;generalize nP vs=zs at*;have hm1:((m:Nat):Int).natAbs < WB ^ (1+vs.length*K):=by rw[Int.natAbs_natCast];exact hL
 haveI iD:Bd d (kz (K+(1+vs.length*K)) n):=⟨hdl⟩
 haveI iM:Bd ((m:Nat):Int) (1+vs.length*K):=⟨hm1⟩
 have rd:RB ((d:Int):Rat) (kz (K+(1+vs.length*K)) n):=RB.ofI hdl (by omega)
 have rm:RB (((m:Nat):Int):Rat) (1+vs.length*K):=RB.ofI hm1 (by omega)
 have hm0:(((m:Nat):Int):Rat)≠0:=fun h=>by
  have:((m:Nat):Int)=0:=by exact_mod_cast h
  omega
 have hRB:=apr rd rm hm0;have cO1:ah prog 226 [.agg (zN d)] (.agg (qA ((d:Int):Rat))):=rJ.h (by omega)
 have cO2:ah prog 226 [.agg (zN ((m:Nat):Int))] (.agg (qA (((m:Nat):Int):Rat))):=rJ.h (by omega)
 generalize ((d:Int):Rat)=x at*;generalize hy:(((m:Nat):Int):Rat)=y at*;have cN:=aa1 (q:=q4v (qdn x y n)) (hRB n).ra (by
  omega)
 have cf:=afy (fJ (qdn x y n));have e0:qdn x y 0=x:=by unfold qdn;rfl
 have es:∀k,qdn x y (k+1)=qdn x y k / y:=fun k=>by conv=>lhs;unfold qdn
 refine ah.fnF func301 results301 ntmps301 rfl rfl rfl (by simp[AV.ids,AV0.ids,Atom.ids]) rfl (fun w0 T B E0 hB=>?_)
 refine SX.goM ?_;refine W.loop (fun k=>k≤n) (fun k=>[(1,.ptr 1 0),(2,.ptr 2 0),(4,.ptr 4 0),(8,.ptr 8 0),(28,.v (.int .i64 (n:Int))),(29,.v (.int .i64 (k:Int)))]) (fun k=>[(1,.box 41 (um n n ((vs.map cq).map rq))),(2,.box 263 anZ),(4,.box 27 (zN ((m:Nat):Int))),(8,.box 38 (qA (qdn x y k)))]) (fun k=>n - k) 0 (Nat.zero_le _) (fun k hk=>?_)
  (by
   rw[e0];refine SX.St.aY [] (by intro b h;cases h) ?_ ?_ rfl
   ·repeat(first|exact trivial|refine⟨⟨_,rfl,SX.aG.same rfl⟩,?_⟩)
   ·exact⟨SX.ay.same rfl rfl,SX.ay.same rfl rfl,SX.ay.same rfl rfl,SX.ay.same rfl rfl,trivial⟩)
 by_cases h:k < n
 ·have ik:=(hRB k).ra;have iy:=rm.ra;have hkn:=Nat.mul_le_mul_right (1+vs.length*K) (show k+1≤n from h)
  rw[Nat.succ_mul]at hkn;have cQ:ah prog 340 [.agg (qA (qdn x y k)),.agg (qA y)] (.tup [.agg (qA (qdn x y (k+1))),.one (.c (.val (.bool (decide (y≠0)))))]):=by
   rw[es];exact af7.h (by omega)
  refine SX.goM ?_;refine W.next (k+1) h (by omega) (by
   refine SX.St.aY [] (by intro b h;cases h) ?_ ?_ rfl
   ·repeat(first|exact trivial|refine⟨⟨_,rfl,SX.aG.same rfl⟩,?_⟩)
   ·exact⟨SX.ay.same rfl rfl,SX.ay.same rfl rfl,SX.ay.same rfl rfl,SX.ay.same rfl rfl,trivial⟩)
 ·obtain rfl:k=n:=by omega
  refine SX.goM ?_;refine mI (ak.iT rfl rfl rfl) ?_;exact AV0.imp.refl _
section
variable{t:List UInt8}{vs:List Vl}(ht:t=nTra∨t=mW∨t=nInv∨t=nRnk)
include ht
theorem ajW:ah prog 241 [.agg (dX t vs)] (.agg aa7):=by
 rcases ht with rfl|rfl|rfl|rfl <;> (
  refine ah.fnF func241 results241 ntmps241 rfl rfl rfl (by simp[AV.ids,AV0.ids,Atom.ids]) rfl (fun w0 T B E0 hB=>?_)
  refine SX.goM ?_;exact vS (ak.iT rfl rfl rfl)
 )
theorem akW:ah prog 242 [.agg (dX t vs)] (.agg aa7):=by
 rcases ht with rfl|rfl|rfl|rfl <;> (
  refine ah.fnF func242 results242 ntmps242 rfl rfl rfl (by simp[AV.ids,AV0.ids,Atom.ids]) rfl (fun w0 T B E0 hB=>?_)
  refine SX.goM ?_;exact vS (ak.iT rfl rfl rfl)
 )
theorem agm:ah prog 243 [.agg (dX t vs)] (.agg aa7):=by
 rcases ht with rfl|rfl|rfl|rfl <;> (
  refine ah.fnF func243 results243 ntmps243 rfl rfl rfl (by simp[AV.ids,AV0.ids,Atom.ids]) rfl (fun w0 T B E0 hB=>?_)
  refine SX.goM ?_;exact vS (ak.iT rfl rfl rfl)
 )
end
theorem as_x{t:List UInt8}{r c:Nat}{vs:List Rat}:ah prog 272 [.agg (dX t [eF r c vs]),.v (str t),.v (str [120])] (.v (.bool true)):=by
 have cS:=ahg (eF r c vs);rw[decide_eq_true rfl]at cS;exact ql (so:=[120]) (fun _=>true) rfl (Nat.le_of_ble_eq_true rfl) fun i v hv=>by
  match i,hv with
  |0,hv=>cases hv;exact cS
theorem vQ{n:Nat}{vs:List Rat}{r:Vl}(cD:ah prog 301 [.agg (um n n ((vs.map cq).map rq))] (.agg (mo r 0 true))):ah prog 244 [.agg (dX mW [eF n n vs])] (.agg (mo r 0 true)):=by
 have hv:[eF n n vs][0]? =some (eF n n vs):=rfl;have ca:=as_x (t:=mW) (r:=n) (c:=n) (vs:=vs);refine ah.fnF func244 results244 ntmps244 rfl rfl rfl (by simp[AV.ids,AV0.ids,Atom.ids]) rfl (fun w0 T B E0 hB=>?_)
 refine SX.goM ?_;refine mI (ak.iT rfl rfl rfl) ?_;exact AV0.imp.refl _
theorem atl:ah prog 177 [.v (str sK),.v (str (([32]++mW)++[32]))] (.v (.bool true)):=eX rE (by kernel_rfl)
theorem at7:ah prog 177 [.v (str mW),.v (str [32])] (.v (.bool false)):=eX (by decide) (by kernel_rfl)
theorem acV{n K:Nat}{vs:List Rat}(hl:vs.length=n*n)(hn:n≤64)(hv:∀v∈vs,RB v K)(hK1:1≤K)(hKK:K≤10000)(hB0:1+(n*n+1)*K≤50000)(hkz:kz (K+(1+vs.length*K)) n≤10000)(hnk:n*(1+vs.length*K)≤10000):
  ah prog 229 [.v (str mW),.r (aA 15 vlE [eF n n vs])] (.tup [.agg (vlA (fJ (akq n vs))),eNo 0]):=by
 refine uM (n0:=3) (by decide) (by decide) (Nat.le_of_ble_eq_true rfl) (fun u hu=>?_) atl at7 (fun k f hk hf=>?_) (fun f hf=>?_)
 ·rw[List.mem_singleton]at hu;subst hu;exact(Cv.one (n:=0) (.mat n n _ (by rw[hl]) hn hn hv:Sh K _)).F (by omega) (by decide)
 ·match k,hk,hf with
  |0,_,hf=>cases hf;exact ajW (.inr (.inl rfl))
  |1,_,hf=>cases hf;exact akW (.inr (.inl rfl))
  |2,_,hf=>cases hf;exact agm (.inr (.inl rfl))
 ·cases hf;exact vQ (yB hl hn hv hK1 hB0 hkz hnk)
end
section
abbrev vrC(vs:List Vl):List CA:=[.sat (aA 15 vlE vs)]
instance:dO vrC 1:=⟨fun _=>rfl⟩
abbrev rcq(v:Rat):Q4:=rq (cq v)
theorem auz{c n:Nat}{vs:List Rat}{x:Rat}(hx:vs[n]? =some x):((vs.take n).map rcq).flatMap q4C++q4C (rcq x)=((vs.take (n+1)).map rcq).flatMap q4C:=xE (enc:=q4C) (f:=rcq) hx
attribute [local irreducible] IntKind.wrap Go1 Reg WP aS aT bR bO aQ aC ak aj aX Sat
attribute [local irreducible] bT bX bY dw bZ qv dR mf PrP qOk zOk vP dQ lz vF cq rqv eY bW dL dh gD jn sq aO qS zS tS tbS plS mdS zmd eO iJ nmC
theorem ab4{L:List (List Vl)}{r c K:Nat}{vs:List Rat}(hL:L.length=r)(hrow:∀(i:Nat) R,L[i]? =some R→R.length=c∧∀k,k < c→∃x,vs[i*c+k]? =some x∧R[k]? =some (fJ x))(hl:vs.length=r*c)(hr1:1≤r)(hr:r≤64)(hc:c≤64)(hb:∀v∈vs,RB v K)(hK:K≤10000):
  ah prog 227 [.r (aA 1 vrC L)] (.tup [.agg (vlA (eF r c vs)),eNo 0]):=by
 have cM:=aaS (r:=r) (c:=c) (MV.cq hb) (by rw[zq5,zq5];exact hl) hr hc (by omega)
 obtain⟨R0,h0⟩:∃R,L[0]? =some R:=⟨_,zq2 (by omega)⟩
 obtain⟨hR0,_⟩:=hrow 0 R0 h0;subst hL hR0;have e3:(vs.map cq).map rq=vs.map rcq:=List.map_map ..;have e4:(vs.map rcq).length=vs.length:=zq5 _;have hLc:=Nat.mul_le_mul hr hc;have hd0:decide ((R0.length:Int)≤64)=true:=decide_eq_true (by omega)
 refine ah.fnF func227 results227 ntmps227 rfl rfl rfl (by simp[AV.ids,AV0.ids,Atom.ids]) rfl (fun w0 T B E0 hB=>?_)
 refine SX.goM ?_;rw[hd0];refine W.loop (fun i=>i≤L.length) (fun i=>[(2,.ptr 2 0),(4,.ptr 4 0),(5,.v (.bool true)),(25,.r (aA 1 vrC L)),(26,.v (.int .i64 (L.length:Int))),(27,.v (.int .i64 (i:Int)))]) (fun i=>[(2,.box 50 vlZ),(4,.box 41 [.c (.val (.int .i64 (L.length:Int))),.c (.val (.int .i64 (R0.length:Int))),.own 100]),(100,.row 38 4 (i*R0.length) (((vs.take (i*R0.length)).map rcq).flatMap q4C))]) (fun i=>L.length - i) 0 (Nat.zero_le _) (fun i hi=>?_)
  (by
   refine SX.St.aY [(100,none)] (by intro b h;cases h) ?_ ?_ rfl
   ·repeat(first|exact trivial|refine⟨⟨_,rfl,SX.aG.same rfl⟩,?_⟩)
   ·exact⟨SX.ay.same rfl rfl,SX.ay.mh rfl rfl ⟨aD.same rfl,aD.same rfl,aD.nil rfl,trivial⟩,by rw[Nat.zero_mul];exact SX.ay.bV rfl,trivial⟩)
 by_cases h:i < L.length
 ·obtain⟨R,hR⟩:∃R,L[i]? =some R:=⟨_,zq2 h⟩
  obtain⟨hRl,hRv⟩:=hrow i R hR;have hd:decide ((R.length:Int)=(R0.length:Int))=true:=decide_eq_true (by omega)
  have hlen:i*R0.length+R0.length≤4096:=by
   have:=Nat.mul_le_mul_right R0.length (show i+1≤L.length by omega)
   rw[Nat.succ_mul]at this;omega
  refine SX.goM ?_;rw[hd];refine W.loop (fun k=>k≤R.length) (fun k=>[(2,.ptr 2 0),(4,.ptr 4 0),(5,.v (.bool true)),(25,.r (aA 1 vrC L)),(26,.v (.int .i64 (L.length:Int))),(27,.v (.int .i64 (i:Int))),(39,.r (aA 15 vlE R)),(40,.v (.int .i64 (R.length:Int))),(41,.v (.int .i64 (k:Int)))]) (fun k=>[(2,.box 50 vlZ),(4,.box 41 [.c (.val (.int .i64 (L.length:Int))),.c (.val (.int .i64 (R0.length:Int))),.own 100]),(100,.row 38 4 (i*R0.length+k) (((vs.take (i*R0.length+k)).map rcq).flatMap q4C))]) (fun k=>R.length - k) 0 (Nat.zero_le _) (fun k hk=>?_)
   (by
    have e:Ent.row 38 4 (i*R0.length) (((vs.take (i*R0.length)).map rcq).flatMap q4C)=Ent.row 38 4 (i*R0.length+0) (((vs.take (i*R0.length+0)).map rcq).flatMap q4C):=by rw[Nat.add_zero]
    refine SX.St.aY [] (by intro b h;cases h) ?_ ?_ rfl
    ·repeat(first|exact trivial|refine⟨⟨_,rfl,SX.aG.same rfl⟩,?_⟩)
    ·exact⟨SX.ay.same rfl rfl,SX.ay.same rfl rfl,SX.ay.eq rfl e rfl,trivial⟩)
  by_cases h2:k < R.length
  ·obtain⟨x,hx,hv⟩:=hRv k (by omega)
   have e2:=auz (c:=R0.length) hx;refine SX.goM ?_;refine W.next (k+1) h2 (by omega) (by
    refine SX.St.aY [(100,some 54)] (by intro b h;cases h) ?_ ?_ rfl
    ·repeat(first|exact trivial|refine⟨⟨_,rfl,SX.aG.same rfl⟩,?_⟩)
    ·exact⟨SX.ay.same rfl rfl,SX.ay.mh rfl rfl ⟨aD.same rfl,aD.same rfl,aD.own rfl,trivial⟩,SX.ay.row rfl rfl (by omega) e2,trivial⟩)
  ·have hkR:k=R0.length:=by omega
   subst hkR;refine SX.goM ?_;refine W.next (i+1) h (by omega) (by
    have e2:Ent.row 38 4 (i*R0.length+R0.length) (((vs.take (i*R0.length+R0.length)).map rcq).flatMap q4C)=Ent.row 38 4 ((i+1)*R0.length) (((vs.take ((i+1)*R0.length)).map rcq).flatMap q4C):=by rw[Nat.succ_mul]
    refine SX.St.aY [] (by intro b h;cases h) ?_ ?_ rfl
    ·repeat(first|exact trivial|refine⟨⟨_,rfl,SX.aG.same rfl⟩,?_⟩)
    ·exact⟨SX.ay.same rfl rfl,SX.ay.same rfl rfl,SX.ay.eq rfl e2 rfl,trivial⟩)
 ·obtain rfl:i=L.length:=by omega
  rw[←hl,List.take_length];rw[e3]at cM;rw[←e4];refine SX.WP.freeze 100 hB rfl ?_;refine SX.goM ?_;exact .ok (aC.mk2 (ak.gJ rfl rfl rfl) (ak.tmp rfl))
theorem asN{B:Nat}{nm:Nms}(ns:List Nd)(ks:List Nat)(vss:List (List Vl))(hk:ks.length=ns.length)(hv:vss.length=ns.length)(hl:ns.length≤100000)
  (h:∀(i:Nat) n k vs,ns[i]? =some n→ks[i]? =some k→vss[i]? =some vs→AL B nm n.kids k vs) {v:Vl} (cM:ah prog 227 [.r (aA 1 vrC vss)] (.tup [.agg (vlA v),eNo 0])) (F:Nat) (u:Bool) (la:Vl) (tx:List UInt8) (hF:F+(ks.sum+ns.length)≤1000000000):
  aj prog 189 [.ptr 81 0,.r (aA 3 ndE ns)] (ME (F+(ks.sum+ns.length)) B nm u la tx) ⟨.tup [.agg (vlA v),eNo 0],MO F B nm u la tx⟩:=by
 cases u with
 |false=>
  refine aj.fnM func189 results189 ntmps189 rfl rfl rfl rfl (by first|rfl|(cases u <;> rfl)) (by first|rfl|(cases u <;> rfl)) (by first|rfl|(cases u <;> rfl)) (fun w0 Tw Bw E0 hB=>?_)
  refine SX.goM ?_;refine W.mO (fun k fu=>k≤ns.length∧fu=F+((ks.drop k).sum+(ns.length - k))) (fun k fu=>[(0,.ptr 81 0),(4,.ptr 4 0),(6,.own 100),(9,.r (aA 3 ndE ns)),(10,.v (.int .i64 (ns.length:Int))),(11,.v (.int .i64 (k:Int)))]) (fun k fu=>[(81,MB fu B false la),(82,.abs (gT (nmC nm))),(84,sP tx),(4,.box 50 vlZ),(100,.row 48 1 k ((vss.take k).flatMap vrC))]) (fun k _=>ns.length - k) 0 (F+(ks.sum+ns.length)) ⟨Nat.zero_le _,rfl⟩ (fun k fu ⟨hkn,hfu⟩=>?_)
   (by
    refine SX.St.aY [(100,none)] (by intro b h;exact SX.dB h rfl) ?_ ?_ rfl
    ·repeat(first|exact trivial|refine⟨⟨_,rfl,SX.aG.same rfl⟩,?_⟩|refine⟨⟨_,rfl,SX.aG.nil rfl⟩,?_⟩)
    ·exact⟨SX.ay.same rfl rfl,SX.ay.same rfl rfl,SX.ay.same rfl rfl,SX.ay.same rfl rfl,SX.ay.bV rfl,trivial⟩)
  by_cases hlt:k < ns.length
  ·obtain⟨n,hn⟩:∃n,ns[k]? =some n:=⟨_,zq2 hlt⟩
   obtain⟨c,hc⟩:∃c,ks[k]? =some c:=⟨_,zq2 (by omega)⟩
   obtain⟨vs,hvk⟩:∃vs,vss[k]? =some vs:=⟨_,zq2 (by omega)⟩
   have hsum:(ks.drop k).sum=c+(ks.drop (k+1)).sum:=by
    obtain⟨hk2,e⟩:=List.getElem?_eq_some_iff.1 hc
    rw[List.drop_eq_getElem_cons hk2,e,List.sum_cons]
   have hle:(ks.drop k).sum≤ks.sum:=by
    conv=>rhs;rw[←List.take_append_drop k ks,List.sum_append]
    omega
   obtain⟨f',rfl⟩:∃f',fu=f'+c+1:=⟨F+((ks.drop (k+1)).sum+(ns.length - (k+1))),by omega⟩
   have c1:=mM (f'+c) B nm false la tx (by omega)
   have cE:aj prog 190 [.ptr 81 0,.r (aA 3 ndC n.kids)] (ME (f'+c) B nm false la tx) ⟨.r (aA 15 vlE vs),MO f' B nm false la tx⟩:=by rw[show ndC=ndE from funext aH];exact h k n c vs hn hc hvk f' false la tx (by omega)
   have e2:(vss.take k).flatMap vrC++vrC vs=(vss.take (k+1)).flatMap vrC:=by rw[jV hvk];simp
   refine SX.goM ?_;refine W.lX (k+1) f' ⟨hlt,by omega⟩ (by omega) (by
    refine SX.St.aY [(100,some 29)] (by intro b h;exact SX.dB h rfl) ?_ ?_ rfl
    ·repeat(first|exact trivial|refine⟨⟨_,rfl,SX.aG.same rfl⟩,?_⟩|refine⟨⟨_,rfl,SX.aG.own rfl⟩,?_⟩)
    ·exact⟨SX.ay.same rfl rfl,SX.ay.same rfl rfl,SX.ay.same rfl rfl,SX.ay.same rfl rfl,SX.ay.row rfl rfl rfl e2,trivial⟩)
  ·obtain rfl:k=vss.length:=by omega
   rw[List.drop_of_length_le (by omega),List.sum_nil]at hfu
   obtain rfl:fu=F:=by omega
   rw[List.take_length];refine SX.WP.ahV 100 hB rfl rfl rfl rfl ?_;refine SX.goM ?_;exact gY (xs:=[.agg (vlA v),eNo 0]) ⟨ak.gJ rfl rfl rfl,ak.tmp rfl,trivial⟩ ⟨rfl,rfl,rfl,trivial⟩
 |true=>
  refine aj.fnM func189 results189 ntmps189 rfl rfl rfl rfl (by first|rfl|(cases u <;> rfl)) (by first|rfl|(cases u <;> rfl)) (by first|rfl|(cases u <;> rfl)) (fun w0 Tw Bw E0 hB=>?_)
  refine SX.goM ?_;refine W.mO (fun k fu=>k≤ns.length∧fu=F+((ks.drop k).sum+(ns.length - k))) (fun k fu=>[(0,.ptr 81 0),(4,.ptr 4 0),(6,.own 100),(9,.r (aA 3 ndE ns)),(10,.v (.int .i64 (ns.length:Int))),(11,.v (.int .i64 (k:Int)))]) (fun k fu=>[(81,MB fu B true la),(82,.abs (gT (nmC nm))),(84,sP tx),(4,.box 50 vlZ),(100,.row 48 1 k ((vss.take k).flatMap vrC))]) (fun k _=>ns.length - k) 0 (F+(ks.sum+ns.length)) ⟨Nat.zero_le _,rfl⟩ (fun k fu ⟨hkn,hfu⟩=>?_)
   (by
    refine SX.St.aY [(100,none)] (by intro b h;exact SX.dB h rfl) ?_ ?_ rfl
    ·repeat(first|exact trivial|refine⟨⟨_,rfl,SX.aG.same rfl⟩,?_⟩|refine⟨⟨_,rfl,SX.aG.nil rfl⟩,?_⟩)
    ·exact⟨SX.ay.same rfl rfl,SX.ay.same rfl rfl,SX.ay.same rfl rfl,SX.ay.same rfl rfl,SX.ay.bV rfl,trivial⟩)
  by_cases hlt:k < ns.length
  ·obtain⟨n,hn⟩:∃n,ns[k]? =some n:=⟨_,zq2 hlt⟩
   obtain⟨c,hc⟩:∃c,ks[k]? =some c:=⟨_,zq2 (by omega)⟩
   obtain⟨vs,hvk⟩:∃vs,vss[k]? =some vs:=⟨_,zq2 (by omega)⟩
   have hsum:(ks.drop k).sum=c+(ks.drop (k+1)).sum:=by
    obtain⟨hk2,e⟩:=List.getElem?_eq_some_iff.1 hc
    rw[List.drop_eq_getElem_cons hk2,e,List.sum_cons]
   have hle:(ks.drop k).sum≤ks.sum:=by
    conv=>rhs;rw[←List.take_append_drop k ks,List.sum_append]
    omega
   obtain⟨f',rfl⟩:∃f',fu=f'+c+1:=⟨F+((ks.drop (k+1)).sum+(ns.length - (k+1))),by omega⟩
   have c1:=mM (f'+c) B nm true la tx (by omega)
   have cE:aj prog 190 [.ptr 81 0,.r (aA 3 ndC n.kids)] (ME (f'+c) B nm true la tx) ⟨.r (aA 15 vlE vs),MO f' B nm true la tx⟩:=by rw[show ndC=ndE from funext aH];exact h k n c vs hn hc hvk f' true la tx (by omega)
   have e2:(vss.take k).flatMap vrC++vrC vs=(vss.take (k+1)).flatMap vrC:=by rw[jV hvk];simp
   refine SX.goM ?_;refine W.lX (k+1) f' ⟨hlt,by omega⟩ (by omega) (by
    refine SX.St.aY [(100,some 29)] (by intro b h;exact SX.dB h rfl) ?_ ?_ rfl
    ·repeat(first|exact trivial|refine⟨⟨_,rfl,SX.aG.same rfl⟩,?_⟩|refine⟨⟨_,rfl,SX.aG.own rfl⟩,?_⟩)
    ·exact⟨SX.ay.same rfl rfl,SX.ay.same rfl rfl,SX.ay.same rfl rfl,SX.ay.same rfl rfl,SX.ay.row rfl rfl rfl e2,trivial⟩)
  ·obtain rfl:k=vss.length:=by omega
   rw[List.drop_of_length_le (by omega),List.sum_nil]at hfu
   obtain rfl:fu=F:=by omega
   rw[List.take_length];refine SX.WP.ahV 100 hB rfl rfl rfl rfl ?_;refine SX.goM ?_;exact gY (xs:=[.agg (vlA v),eNo 0]) ⟨ak.gJ rfl rfl rfl,ak.tmp rfl,trivial⟩ ⟨rfl,rfl,rfl,trivial⟩
end
section
theorem aaz{B:Nat}:∀{l:List Nat} {b:Nat},(∀x∈l,x≤B)→b≤B→l.foldl max b≤B
 |[],b,_,h=>h
 |x::l,b,h,hb=>aaz (l:=l) (b:=max b x) (fun y hy=>h y (List.mem_cons_of_mem _ hy)) (by have:=h x List.mem_cons_self;omega)
theorem uR{α β:Type}[Inhabited β]{l:List α}{P:α→β→Prop}(h:∀x∈l,∃b,P x b):∃g:α→β,∀x∈l,P x (g x):=by
 classical
 exact⟨fun x=>if hx:x∈l then(h x hx).choose else default,fun x hx=>by simp only[dif_pos hx];exact(h x hx).choose_spec⟩
theorem auk{x K:Nat}(h:x < 2 ^ K):bitLen x≤K:=by
 by_cases h0:x=0
 ·rw[mJ.2 h0];omega
 ·have h1:=(bitLen_spec x).2 h0;have h2:2 ^ (bitLen x - 1) < 2 ^ K:=Nat.lt_of_le_of_lt h1 h;have:=(Nat.pow_lt_pow_iff_right (a:=2) (by omega)).1 h2
  omega
theorem qZ{x k:Nat}(h:x < WB ^ k):bitLen x≤64*k:=by
 refine auk (Nat.lt_of_lt_of_le h ?_);rw[jD,←Nat.pow_mul];exact Nat.le_refl _
theorem ag3{x:Rat}{K:Nat}(h:RB x K):qB x≤64*K:=by
 have h1:=qZ h.n;have h2:=qZ h.d;unfold qB;omega
attribute [local irreducible] IntKind.wrap Go1 Reg WP aS aT bR bO aQ aC ak aj aX Sat
attribute [local irreducible] bT bX bY dw bZ qv dR mf PrP qOk zOk vP dQ lz vF cq rqv eY bW dL dh gD jn sq aO qS zS tS tbS plS mdS zmd eO iJ nmC qB
theorem bN0:ah prog 35 [.r (bD (0:Int).natAbs)] (.v (.int .i64 0)):=by
 haveI:BdN 0 1:=⟨by rw[bB];decide⟩
 exact(xB (a:= .sat (bD 0))).h (by decide)
theorem aky{r c:Nat}{vs:List Rat}{K:Nat}(h:∀v∈vs,RB v K)(hK:K≤1000)(hl:vs.length≤10000):ah prog 238 [.agg (vlA (eF r c vs))] (.v (.int .i64 (((vs.map qB).foldl max 0:Nat):Int))):=by
 have cO:=ajV 0 (by decide) (by decide)
 have cB:=bN0;have m1:((vs.map cq).map rq).length=vs.length:=ahq vs;have m2:((eF r c vs).a.map rq).length=vs.length:=ahq vs;refine ah.fnF func238 results238 ntmps238 rfl rfl rfl (by simp[AV.ids,AV0.ids,Atom.ids]) rfl (fun w0 T B E0 hB=>?_)
 refine SX.goM ?_;refine W.mO (fun k m=>k≤vs.length∧m≤64000∧m=((vs.take k).map qB).foldl max 0) (fun k m=>[(3,.v (.int .i64 (m:Int))),(25,.r (aA 4 q4C (mq vs))),(26,.v (.int .i64 (vs.length:Int))),(27,.v (.int .i64 (k:Int)))]) (fun _ _=>[]) (fun k _=>vs.length - k) 0 0 ⟨Nat.zero_le _,Nat.zero_le _,rfl⟩ (fun k m ⟨hk,hm,hmm⟩=>?_)
  (by
   refine SX.St.aY [] (by intro b h;cases h) ?_ ?_ rfl
   ·repeat(first|exact trivial|refine⟨⟨_,rfl,SX.aG.same rfl⟩,?_⟩|refine⟨⟨_,rfl,SX.aG.int (by omega)⟩,?_⟩)
   ·exact trivial)
 by_cases hk2:k < vs.length
 ·obtain⟨x,hx⟩:∃x,vs[k]? =some x:=⟨_,zq2 hk2⟩
  have hx':(mq vs)[k]? =some (rq (cq x)):=by rw[List.getElem?_map,List.getElem?_map,hx];rfl
  have h':k < (mq vs).length:=by rw[ahq];exact hk2
  have hb:=h x (zq4 hx);have cx:=abX (q:=cq x) (by have:=(vZ0.num hb (show K≤100000 by omega)).q.2;dsimp only at this;omega)
  rw[iU]at cx;have hq:=ag3 hb;have e1:((vs.take (k+1)).map qB).foldl max 0=max m (qB x):=by rw[List.take_add_one,hx,hmm];simp
  refine SX.goM ?_;exact W.lX (k+1) (max m (qB x)) ⟨hk2,by omega,e1.symm⟩ (by omega)
 ·obtain rfl:k=vs.length:=by omega
  rw[List.take_length]at hmm;refine SX.goM ?_;refine gK ?_;rw[←hmm]
theorem akG{zs:List Int}{K:Nat}(h:∀z∈zs,z.natAbs < WB ^ K)(hK:K≤1000)(hl:zs.length≤10000):ah prog 238 [.agg (vlA (iO zs))] (.v (.int .i64 (((zs.map fun z=>bitLen z.natAbs).foldl max 0:Nat):Int))):=by
 have cO:=ajV 0 (by decide) (by decide)
 have cB:=bN0;have m1:((zs.map cz).map rz).length=zs.length:=ahI zs;have m2:((iO zs).po.map rz).length=zs.length:=ahI zs;refine ah.fnF func238 results238 ntmps238 rfl rfl rfl (by simp[AV.ids,AV0.ids,Atom.ids]) rfl (fun w0 T B E0 hB=>?_)
 refine SX.goM ?_;refine W.mO (fun k m=>k≤zs.length∧m≤64000∧m=((zs.take k).map fun z=>bitLen z.natAbs).foldl max 0) (fun k m=>[(3,.v (.int .i64 (m:Int))),(39,.r (aA 2 z2C (mz zs))),(40,.v (.int .i64 (zs.length:Int))),(41,.v (.int .i64 (k:Int)))]) (fun _ _=>[]) (fun k _=>zs.length - k) 0 0 ⟨Nat.zero_le _,Nat.zero_le _,rfl⟩ (fun k m ⟨hk,hm,hmm⟩=>?_)
  (by
   refine SX.St.aY [] (by intro b h;cases h) ?_ ?_ rfl
   ·repeat(first|exact trivial|refine⟨⟨_,rfl,SX.aG.same rfl⟩,?_⟩|refine⟨⟨_,rfl,SX.aG.int (by omega)⟩,?_⟩)
   ·exact trivial)
 by_cases hk2:k < zs.length
 ·obtain⟨z,hz⟩:∃z,zs[k]? =some z:=⟨_,zq2 hk2⟩
  have hz':(mz zs)[k]? =some (rz (cz z)):=by rw[List.getElem?_map,List.getElem?_map,hz];rfl
  have h':k < (mz zs).length:=by rw[ahI];exact hk2
  have hb:=h z (zq4 hz);have hlen:(cz z).2.length≤K:=lg hb;have cx:ah prog 147 [.agg [.c (.val (.bool (cz z).1)),.c (.sat (dN (cz z).2))]] (.v (.int .i64 (bitLen (rzv (cz z)).natAbs:Int))):=(eu (h:=ZI.raw (cz z).1 (cz z).2)).h (by omega)
  rw[mX]at cx;have hq:=qZ hb;have e1:((zs.take (k+1)).map fun z=>bitLen z.natAbs).foldl max 0=max m (bitLen z.natAbs):=by rw[List.take_add_one,hz,hmm];simp
  refine SX.goM ?_;exact W.lX (k+1) (max m (bitLen z.natAbs)) ⟨hk2,by omega,e1.symm⟩ (by omega)
 ·obtain rfl:k=zs.length:=by omega
  rw[List.take_length]at hmm;refine SX.goM ?_;refine gK ?_;rw[←hmm]
theorem ai0(v:Vl)(h:v.k=4∨v.k=5)(hp:v.p < WB):ah prog 238 [.agg (vlA v)] (.v (.int .i64 (bitLen v.p:Int))):=by
 have cO:=nOf v.p hp;have cB:ah prog 35 [.r (bD v.p)] (.v (.int .i64 (bitLen v.p:Int))):=by
  haveI:BdN v.p 1:=⟨by rw[Nat.pow_one];exact hp⟩
  exact(xB (a:= .sat (bD v.p))).h (by decide)
 have hk:¬v.k=1∧¬v.k=2∧¬v.k=3∧¬v.k=6:=by omega
 obtain⟨h1,h2,h3,h6⟩:=hk;refine ah.fnF func238 results238 ntmps238 rfl rfl rfl (by simp[AV.ids,AV0.ids,Atom.ids]) rfl (fun w0 T B E0 hB=>?_)
 refine SX.goM ?_;exact gK rfl
theorem aqQ(v:Vl)(g:Vl→Nat)(h:v.k=6)(hp:v.p=0)(hl:v.li.length≤1000000)(hg:∀x∈v.li,g x≤64000)(hx:∀x∈v.li,ah prog 238 [.agg (vlA x)] (.v (.int .i64 (g x:Int)))):
  ah prog 238 [.agg (vlA v)] (.v (.int .i64 (((v.li.map g).foldl max 0:Nat):Int))):=by
 have cO:ah prog 18 [.v (.int .u64 (v.p:Int))] (.r (bD (0:Int).natAbs)):=by rw[hp];exact ajV 0 (by decide) (by decide)
 have cB:=bN0;rw[ac3];refine ah.fnF func238 results238 ntmps238 rfl rfl rfl (by simp[AV.ids,AV0.ids,Atom.ids]) rfl (fun w0 T B E0 hB=>?_)
 refine SX.goM ?_;refine W.mO (fun k m=>k≤v.li.length∧m≤64000∧m=((v.li.take k).map g).foldl max 0) (fun k m=>[(3,.v (.int .i64 (m:Int))),(53,.r (aA 15 vlE v.li)),(54,.v (.int .i64 (v.li.length:Int))),(55,.v (.int .i64 (k:Int)))]) (fun _ _=>[]) (fun k _=>v.li.length - k) 0 0 ⟨Nat.zero_le _,Nat.zero_le _,rfl⟩ (fun k m ⟨hk,hm,hmm⟩=>?_)
 by_cases hlt:k < v.li.length
 ·obtain⟨x,hx'⟩:∃x,v.li[k]? =some x:=⟨_,zq2 hlt⟩
  have c:=hx x (zq4 hx');have hgx:=hg x (zq4 hx');have e1:((v.li.take (k+1)).map g).foldl max 0=max m (g x):=by rw[List.take_add_one,hx',hmm];simp
  refine SX.goM ?_;exact W.lX (k+1) (max m (g x)) ⟨hlt,by omega,e1.symm⟩ (by omega)
 ·obtain rfl:k=v.li.length:=by omega
  rw[List.take_length]at hmm;refine SX.goM ?_;refine gK ?_;rw[←hmm]
theorem atn{v:Vl}{b:Nat}(hF:ah prog 32 [.agg (vlA v)] (.v (.bool true)))(h:ah prog 238 [.agg (vlA v)] (.v (.int .i64 (b:Int)))):ah prog 223 [.agg (vlA v)] (.v (.int .i64 (b:Int))):=by
 refine ah.fnF func223 results223 ntmps223 rfl rfl rfl (by simp[AV.ids,AV0.ids,Atom.ids]) rfl (fun w0 T B E0 hB=>?_)
 refine SX.goM ?_;exact gK rfl
end
inductive eD:List UInt8→List Wrd→Prop
 |nil {s:List UInt8} (h:s.drop (gp false s)=[]):eD s []
 |cons {s t:List UInt8} {w:Wrd} {ws:List Wrd} (h:s.drop (gp false s)=w.2++t) (h1:fst (w.2++t)=⟨w.1,w.2,0⟩) (h2:w.1≠0) (h3:w.2≠[]) (k:eD t ws):eD s (w::ws)
theorem eD.W{l s:List UInt8}{ws:List Wrd}(h:eD s ws):∀k,l.drop k=s→(pG l (k+gp false s)).2=none∧(pG l (k+gp false s)).1.map kt=ws:=by
 induction h with
 | @nil s h=>
  intro k hk;have hl:l.length≤k+gp false s:=by
   rw[←hk,List.drop_drop,hk]at h;exact List.drop_eq_nil_iff.1 h
  rw[pG.eq_1,dif_pos hl];exact⟨rfl,rfl⟩
 | @cons s t w ws h h1 h2 h3 _ ih=>
  intro k hk;have hd:l.drop (k+gp false s)=w.2++t:=by rw[←List.drop_drop,hk,h]
  have hd2:l.drop (k+gp false s+w.2.length)=t:=by rw[←List.drop_drop,hd,List.drop_left' rfl]
  have ih:=ih _ hd2;have hw:w.2.length≠0:=by simpa using h3
  have hlen:=congrArg List.length hd;rw[List.length_drop,List.length_append]at hlen;generalize k+gp false s=j at*;have hf:fst (l.drop j)=⟨w.1,w.2,0⟩:=by rw[hd];exact h1
  rw[pG.eq_1,dif_neg (by omega),hf]
  rw[dif_neg (by
   rintro(h4|h4)
   ·exact h2 h4
   ·exact hw h4)]
  show ((pG l (j+w.2.length+gp false (l.drop (j+w.2.length)))).2=none∧(kt ⟨w.1,w.2,j⟩::(pG l (j+w.2.length+gp false (l.drop (j+w.2.length)))).1.map kt)=w::ws);rw[hd2];exact⟨ih.1,by rw[ih.2];rfl⟩
theorem eD.R{l:List UInt8}{ws:List Wrd}(h:eD l ws)(hl:l.length≤20000):∃ts,adC l=(ts,0,0)∧ts.map kt=ws∧ts.all gF=true:=by
 obtain⟨h1,h2⟩:=h.W 0 List.drop_zero;rw[Nat.zero_add]at h1 h2;refine⟨(pG l (gp false l)).1,?_,h2,(aiz l _).2.1⟩;unfold adC;rw[if_neg (by omega),h1]
def NW(r:List UInt8):Prop:=r=[]∨∃c m,r=c::m∧wrd c=false
theorem gp_c{c:UInt8}{r:List UInt8}(h:srt c≠1)(h2:c.toNat≠35):gp false (c::r)=0:=by
 rw[gp,if_neg h,if_neg h2]
theorem eD.sp{c:UInt8}{r:List UInt8}{ws:List Wrd}(hc:srt c=1)(h:eD r ws):eD (c::r) ws:=by
 have e:(c::r).drop (gp false (c::r))=r.drop (gp false r):=by
  rw[gp,if_pos hc,Nat.add_comm,List.drop_succ_cons]
 cases h with
 |nil h=>exact .nil (by rw[e];exact h)
 |cons h h1 h2 h3 k=>exact .cons (by rw[e];exact h) h1 h2 h3 k
theorem apw(l r:List UInt8)(h:l.all wrd=true)(hr:NW r):run (l++r)=l.length:=by
 have hr0:r.takeWhile wrd=[]:=by
  rcases hr with rfl|⟨c,m,rfl,hc⟩
  ·rfl
  ·rw[List.takeWhile_cons,hc];rfl
 unfold run;rw[List.takeWhile_append_of_pos (by simpa using h),hr0,List.append_nil]
theorem eD.num{w r:List UInt8}{ws:List Wrd}(hw:num w=true)(hr:NW r)(h:eD r ws):eD (w++r) ((1,w)::ws):=by
 obtain⟨h1,c,m,e,hc⟩:=acf hw;have hg:gp false (w++r)=0:=by
  rw[e,List.cons_append];exact gp_c (by omega) (by rw[srt2]at hc;omega)
 refine .cons (by rw[hg];rfl) ?_ (by decide:(1:Int)≠0) (by rw[e];simp) h
 show fst (w++r)=_;unfold fst;rw[apw w r h1 hr,List.take_left' rfl,if_pos hw]
theorem eD.nam{w r:List UInt8}{ws:List Wrd}(hw:nam w=true)(hr:NW r)(h:eD r ws):eD (w++r) ((2,w)::ws):=by
 obtain⟨h1,c,m,e,hc⟩:=abQ hw;have hg:gp false (w++r)=0:=by
  rw[e,List.cons_append];exact gp_c (by omega) (by rw[srt3]at hc;omega)
 have hn:Go.Proofs.YtegehclknhmkgaaGreatDoor.num w=false:=by
  cases h2:Go.Proofs.YtegehclknhmkgaaGreatDoor.num w with
  |false=>rfl
  |true=>
   obtain⟨_,c',m',e',hc'⟩:=acf h2;rw[e]at e';cases e';omega
 refine .cons (by rw[hg];rfl) ?_ (by decide:(2:Int)≠0) (by rw[e];simp) h
 show fst (w++r)=_;unfold fst;rw[apw w r h1 hr,List.take_left' rfl,hn,if_neg (by decide),if_pos hw]
def sgc(c:UInt8):Bool:=!wrd c&&sg1 [c]&&!decide (srt c=1)&&!decide (c.toNat=35)&&!decide (c=61)&&!decide (c=33)&&!decide (c=60)&&!decide (c=46)
theorem eD.sg{c:UInt8}{r:List UInt8}{ws:List Wrd}(hc:sgc c=true)(h:eD r ws):eD (c::r) (Go.Proofs.YtegehclknhmkgaaGreatDoor.sg [c]::ws):=by
 unfold sgc at hc;simp only[Bool.and_eq_true,Bool.not_eq_true',decide_eq_false_iff_not]at hc;obtain⟨⟨⟨⟨⟨⟨⟨h1,h2⟩,h3⟩,h4⟩,h5⟩,h6⟩,h7⟩,h8⟩:=hc;refine .cons (w:=Go.Proofs.YtegehclknhmkgaaGreatDoor.sg [c]) (t:=r) (by rw[gp_c h3 h4];rfl) ?_ (fun e=>by have e':(3:Int)=0:=e;omega) (fun e=>by cases e) h
 show fst (c::r)=_;have hr:run (c::r)=0:=by unfold run;rw[List.takeWhile_cons,h1];rfl
 have hn:Go.Proofs.YtegehclknhmkgaaGreatDoor.num []=false:=by unfold Go.Proofs.YtegehclknhmkgaaGreatDoor.num;rfl
 have hm:Go.Proofs.YtegehclknhmkgaaGreatDoor.nam []=false:=by unfold Go.Proofs.YtegehclknhmkgaaGreatDoor.nam;rfl
 unfold fst;rw[hr,List.take_zero,hn,if_neg (by decide),hm,if_neg (by decide),if_neg ?_,show (c::r).take 1=[c]from rfl,if_pos h2]
 rintro⟨_,h9⟩;have hh:∀d:UInt8,c≠d→∀e,(c::r).take 2≠[d,e]:=fun d hd e h=>by
  rw[List.take_succ_cons]at h;exact hd (List.cons.inj h).1
 rcases h9 with h9|h9|h9|h9
 ·exact hh _ h5 _ h9
 ·exact hh _ h6 _ h9
 ·exact hh _ h7 _ h9
 ·exact hh _ h8 _ h9
theorem nL{x:Nat}(h:(aO x).length≤2000):num (aO x)=true:=by
 have hk:∀l:List UInt8,l.all isD=true→dgL l=true:=fun l hl=>by
  unfold dgL;rw[List.all_eq_true]at*;intro c hc;have:=hl c hc;unfold isD at this;rw[decide_eq_true_iff,srt2];simpa using this
 unfold num;rw[Bool.and_eq_true,decide_eq_true_iff];unfold aO at h ⊢;by_cases h0:x=0
 ·rw[if_pos h0];exact⟨⟨by decide,by decide,.inl rfl⟩,by unfold dgL;simp only[List.all_cons,List.all_nil,Bool.and_true,decide_eq_true_iff,srt2];decide⟩
 ·rw[if_neg h0]at h ⊢;obtain⟨f1,f2,f3⟩:=wW x;exact⟨⟨(f3 h0).2,h,.inr (f3 h0).1⟩,hk _ f1⟩
def LV(s:List UInt8)(ws:List Wrd):Prop:=∀r rw,NW r→eD r rw→eD (s++r) (ws++rw)
theorem agQ{c:UInt8}{r:List UInt8}(h:wrd c=false):NW (c::r):= .inr ⟨c,r,rfl,h⟩
theorem LV.num{w:List UInt8}(h:num w=true):LV w [(1,w)]:=fun r rw hr h2=>eD.num h hr h2
theorem LV.sg{c:UInt8}{s:List UInt8}{ws:List Wrd}(hc:sgc c=true)(h:LV s ws):LV (c::s) (Go.Proofs.YtegehclknhmkgaaGreatDoor.sg [c]::ws):=fun r rw hr h2=>eD.sg hc (h r rw hr h2)
theorem LV.nil:LV [] []:=fun r rw hr h2=>h2
theorem abL{c:UInt8}(h:sgc c=true):wrd c=false:=by
 unfold sgc at h;simp only[Bool.and_eq_true,Bool.not_eq_true']at h;exact h.1.1.1.1.1.1.1
theorem LV.mid{c:UInt8}{s t:List UInt8}{us ws:List Wrd}(h1:LV s us)(hc:sgc c=true)(h:LV t ws):LV (s++c::t) (us++Go.Proofs.YtegehclknhmkgaaGreatDoor.sg [c]::ws):=fun r rw hr h2=>by
 have h3:=h1 (c::(t++r)) _ (agQ (abL hc)) (eD.sg hc (h r rw hr h2));simpa using h3
theorem LV.midB{c:UInt8}{s t:List UInt8}{us ws:List Wrd}(h1:LV s us)(hc:sgc c=true)(h:LV t ws):LV (s++c::32::t) (us++Go.Proofs.YtegehclknhmkgaaGreatDoor.sg [c]::ws):=fun r rw hr h2=>by
 have h3:=h1 (c::32::(t++r)) _ (agQ (abL hc)) (eD.sg hc (eD.sp (by unfold srt;decide) (h r rw hr h2)))
 simpa using h3
theorem LV.nam{c:UInt8}{w t:List UInt8}{ws:List Wrd}(hw:nam w=true)(hc:sgc c=true)(h:LV t ws):LV (w++c::t) ((2,w)::Go.Proofs.YtegehclknhmkgaaGreatDoor.sg [c]::ws):=fun r rw hr h2=>by
 have h3:=eD.nam hw (agQ (abL hc)) (eD.sg hc (h r rw hr h2));simpa using h3
theorem LV.end{c:UInt8}{s:List UInt8}{us:List Wrd}(h1:LV s us)(hc:sgc c=true):LV (s++[c]) (us++[Go.Proofs.YtegehclknhmkgaaGreatDoor.sg [c]]):=LV.mid h1 hc LV.nil
theorem LV.jn{c:UInt8}(hc:sgc c=true):∀(l:List (List UInt8×List Wrd)),(∀x∈l,LV x.1 x.2)→LV (jn c (l.map (·.1))) (abp (Go.Proofs.YtegehclknhmkgaaGreatDoor.sg [c]) (l.map (·.2)))
 |[],_=>LV.nil
 |[x],h=>h x (List.mem_cons_self ..)
 |x::y::l,h=>LV.midB (h x (List.mem_cons_self ..)) hc (LV.jn hc (y::l) fun z hz=>h z (List.mem_cons_of_mem _ hz))
theorem dU:sgc 45=true∧sgc 47=true∧sgc 44=true∧sgc 59=true∧sgc 91=true∧sgc 93=true∧sgc 40=true∧sgc 41=true∧sgc 123=true∧sgc 125=true:=by
 refine⟨?_,?_,?_,?_,?_,?_,?_,?_,?_,?_⟩ <;> (unfold sgc wrd sg1 srt;decide)
theorem nu:nam [122,101,114,111]=true∧nam [112,111,108,121]=true∧nam [109,111,100]=true:=by
 refine⟨?_,?_,?_⟩ <;> (unfold nam run wrd srt;decide)
theorem LV.zS{z:Int}(h:(aO z.natAbs).length≤2000):LV (zS z) (if z < 0 then [Go.Proofs.YtegehclknhmkgaaGreatDoor.sg [45],(1,aO z.natAbs)]else [(1,aO z.natAbs)]):=by
 unfold Go.Proofs.YtegehclknhmkgaaGreatDoor.zS
 split
 ·exact LV.sg dU.1 (LV.num (nL h))
 ·exact LV.num (nL h)
def PW(ws:List Wrd)(m:Nd):Prop:=∀(l:List Tok) f o r,aev r→(ws++r).length < f→o+2*dep m+1≤600→∀a,rst l a=ws++r→(lev 600 l f).1 a o= .ok m (a+ws.length)
abbrev WN:=List Wrd×Nd
abbrev jW(ks:List WN):List Wrd:=abp (sg [44]) (ks.map (·.1))
abbrev kN(ks:List WN):List Nd:=ks.map (·.2)
abbrev noE:List (List UInt8):=[[91],[94],[42],[47],[43],[45],[61,61],[33,61],[60],[60,61],[40],[44]]
theorem asQ{e:List UInt8}(he:e∉noE)(r:List Wrd):aev (sg e::r):=ru (fun h=>he (List.mem_append_left [[44]] h)) r
theorem aez{l:List Tok}{f o:Nat}{e:List UInt8}(he:e∉noE):∀(ks:List WN) (acc:List Nd) (g a:Nat) (r:List Wrd),ks≠[]→(∀k∈ks,PW k.1 k.2∧o+2*dep k.2+1≤600)→
  (jW ks++sg e::r).length < f→(jW ks++sg e::r).length < g+1→rst l a=jW ks++sg e::r→qz l (lev 600 l f).1 e g acc a o= .ok (.mk 0 [] (acc++kN ks)) (a+(jW ks).length+1)
 |[],_,_,_,_,h,_,_,_,_=>absurd rfl h
 |[k],acc,g,a,r,_,hP,hf,hg,hr=>by
  obtain⟨h1,h2⟩:=hP k (by simp)
  have hj:jW [k]=k.1:=rfl;rw[hj]at hf hg hr ⊢;rw[List.length_append,List.length_cons]at hg;obtain⟨g,rfl⟩:∃k,g=k+1:=⟨g - 1,by omega⟩
  unfold qz;rw[h1 l f o _ (asQ he r) hf h2 a hr];show (if isS l (a+k.1.length) e then _ else _)=_
  rw[bL,j5 hr,if_pos (by simp[hS])];rfl
 |k::k2::ks,acc,g,a,r,_,hP,hf,hg,hr=>by
  obtain⟨h1,h2⟩:=hP k (by simp)
  have hj:jW (k::k2::ks)=k.1++sg [44]::jW (k2::ks):=rfl;have hr':rst l a=k.1++sg [44]::(jW (k2::ks)++sg e::r):=by rw[hr,hj];simp
  have hlen:(k.1++sg [44]::(jW (k2::ks)++sg e::r)).length=(jW (k::k2::ks)++sg e::r).length:=by rw[hj];simp
  have hlen2:(jW (k::k2::ks)++sg e::r).length=k.1.length+1+(jW (k2::ks)++sg e::r).length:=by rw[hj];simp;omega
  obtain⟨g,rfl⟩:∃k,g=k+1:=⟨g - 1,by omega⟩
  have he':aev (sg [44]::(jW (k2::ks)++sg e::r)):=ru (by decide) _
  unfold qz;rw[h1 l f o _ he' (by rw[hlen];exact hf) h2 a hr']
  show (if isS l (a+k.1.length) e then _ else if isS l (a+k.1.length) [44]then _ else _)=_
  have hrr:=j5 hr';have hne:e≠[44]:=fun h=>he (by rw[h];decide)
  rw[bL,hrr,if_neg (by simp[hS,Ne.symm hne]),bL,hrr,if_pos (by simp[hS])]
  rw[aez he (k2::ks) (acc++[k.2]) g (a+k.1.length+1) r (by simp) (fun x hx=>hP x (by simp at hx ⊢;exact .inr hx)) (by omega) (by omega) (lV hrr)]
  rw[hj];simp;omega
def HD(ws:List Wrd)(e:List UInt8):Prop:=∃w r,ws=w::r∧∀r',hS (w::r') e=false
theorem ac5{l:List Tok}{f o:Nat}{e:List UInt8}(he:e∉noE){ks:List WN}{a:Nat}{r:List Wrd}(hP:∀k∈ks,PW k.1 k.2∧o+2*dep k.2+1≤600∧HD k.1 e)
  (hf:(jW ks++sg e::r).length < f) (hr:rst l a=jW ks++sg e::r):jm l (lev 600 l f).1 e a o= .ok (.mk 0 [] (kN ks)) (a+(jW ks).length+1):=by
 unfold jm;cases ks with
 |nil=>
  have hr:rst l a=sg e::r:=hr;rw[bL,hr,if_pos (by simp[hS])];rfl
 |cons k ks=>
  have hh:∀r',hS (jW (k::ks)++r') e=false:=by
   intro r';obtain⟨w,u,hw,h1⟩:=(hP k (by simp)).2.2
   cases ks with
   |nil=>rw[show jW [k]=k.1 from rfl,hw];exact h1 _
   |cons k2 ks=>rw[show jW (k::k2::ks)=k.1++sg [44]::jW (k2::ks)from rfl,hw];exact h1 _
  have hl:=ajr hr (by simp)
  rw[bL,hr,if_neg (by rw[hh];decide),aez he (k::ks) [] (l.length+1) a r (by simp) (fun x hx=>⟨(hP x hx).1,(hP x hx).2.1⟩) hf (by omega) hr];rfl
theorem adZ{l:List Tok}{f o:Nat}{e:List UInt8}(he:e=[59]∨e=[93])(rs:List Nd):∀(ks:List WN) (acc:List Nd) (g a:Nat) (r:List Wrd),ks≠[]→(∀k∈ks,PW k.1 k.2∧o+2*dep k.2+1≤600)→
  (jW ks++sg e::r).length < f→(jW ks++sg e::r).length < g+1→rst l a=jW ks++sg e::r→∃g',(sg e::r).length < g'+2∧
  qc l (lev 600 l f).1 g rs acc a o=if e=[59]then qc l (lev 600 l f).1 g' (rs++[.mk 15 [] (acc++kN ks)]) [] (a+(jW ks).length+1) o else .ok (.mk 14 [] (rs++[.mk 15 [] (acc++kN ks)])) (a+(jW ks).length+1)
 |[],_,_,_,_,h,_,_,_,_=>absurd rfl h
 |[k],acc,g,a,r,_,hP,hf,hg,hr=>by
  obtain⟨h1,h2⟩:=hP k (by simp)
  have hj:jW [k]=k.1:=rfl;rw[hj]at hf hg hr ⊢;rw[List.length_append]at hg;have hgl:1≤(sg e::r).length:=by simp
  obtain⟨g,rfl⟩:∃k,g=k+1:=⟨g - 1,by omega⟩
  refine⟨g,by omega,?_⟩
  have he':aev (sg e::r):=ru (by rcases he with rfl|rfl <;> decide) r
  rw[qc]
  dsimp only
  rw[h1 l f o _ he' hf h2 a hr];show (if isS l (a+k.1.length) [44]then _ else if isS l (a+k.1.length) [59]then _ else if isS l (a+k.1.length) [93]then _ else _)=_
  rw[bL,bL,bL,j5 hr];rcases he with rfl|rfl
  ·rfl
  ·rfl
 |k::k2::ks,acc,g,a,r,_,hP,hf,hg,hr=>by
  obtain⟨h1,h2⟩:=hP k (by simp)
  have hj:jW (k::k2::ks)=k.1++sg [44]::jW (k2::ks):=rfl;have hr':rst l a=k.1++sg [44]::(jW (k2::ks)++sg e::r):=by rw[hr,hj];simp
  have hlen:(k.1++sg [44]::(jW (k2::ks)++sg e::r)).length=(jW (k::k2::ks)++sg e::r).length:=by rw[hj];simp
  have hlen2:(jW (k::k2::ks)++sg e::r).length=k.1.length+1+(jW (k2::ks)++sg e::r).length:=by rw[hj];simp;omega
  obtain⟨g,rfl⟩:∃k,g=k+1:=⟨g - 1,by omega⟩
  have he':aev (sg [44]::(jW (k2::ks)++sg e::r)):=ru (by decide) _
  have hrr:=j5 hr';obtain⟨g',hg',ih⟩:=adZ (f:=f) (o:=o) he rs (k2::ks) (acc++[k.2]) g (a+k.1.length+1) r (by simp) (fun x hx=>hP x (by simp at hx ⊢;exact .inr hx)) (by omega) (by omega) (lV hrr)
  refine⟨g',hg',?_⟩;rw[qc]
  dsimp only
  rw[h1 l f o _ he' (by rw[hlen];exact hf) h2 a hr']
  show (if isS l (a+k.1.length) [44]then _ else _)=_
  rw[bL,hrr,if_pos (by rfl),ih]
  have e1:a+k.1.length+1+(jW (k2::ks)).length+1=a+(jW (k::k2::ks)).length+1:=by rw[hj];simp;omega
  rw[e1,List.append_assoc];rfl
abbrev jM(rs:List (List WN)):List Wrd:=abp (sg [59]) (rs.map jW)
abbrev kM(rs:List (List WN)):List Nd:=rs.map fun ks=> .mk 15 [] (kN ks)
theorem ajj{l:List Tok}{f o:Nat}:∀(rs:List (List WN)) (acc:List Nd) (g a:Nat) (r:List Wrd),rs≠[]→(∀x∈rs,x≠[])→(∀x∈rs,∀k∈x,PW k.1 k.2∧o+2*dep k.2+1≤600)→
  (jM rs++sg [93]::r).length < f→(jM rs++sg [93]::r).length < g+1→rst l a=jM rs++sg [93]::r→
  qc l (lev 600 l f).1 g acc [] a o= .ok (.mk 14 [] (acc++kM rs)) (a+(jM rs).length+1)
 |[],_,_,_,_,h,_,_,_,_,_=>absurd rfl h
 |[x],acc,g,a,r,_,hx,hP,hf,hg,hr=>by
  have hj:jM [x]=jW x:=rfl;rw[hj]at hf hg hr ⊢;obtain⟨g',_,h1⟩:=adZ (f:=f) (o:=o) (.inr rfl) acc x [] g a r (hx x (by simp)) (hP x (by simp)) hf hg hr
  rw[h1,if_neg (by decide)];rfl
 |x::y::rs,acc,g,a,r,_,hx,hP,hf,hg,hr=>by
  have hj:jM (x::y::rs)=jW x++sg [59]::jM (y::rs):=rfl;have hr':rst l a=jW x++sg [59]::(jM (y::rs)++sg [93]::r):=by rw[hr,hj];simp
  have hlen:(jW x++sg [59]::(jM (y::rs)++sg [93]::r)).length=(jM (x::y::rs)++sg [93]::r).length:=by rw[hj];simp
  have hlen2:(jW x++sg [59]::(jM (y::rs)++sg [93]::r)).length=(jW x).length+1+(jM (y::rs)++sg [93]::r).length:=by simp;omega
  obtain⟨g',hg',h1⟩:=adZ (f:=f) (o:=o) (.inl rfl) acc x [] g a _ (hx x (by simp)) (hP x (by simp)) (by rw[hlen];exact hf) (by rw[hlen];exact hg) hr'
  rw[List.length_cons]at hg';rw[h1,if_pos rfl,List.nil_append,ajj (f:=f) (o:=o) (y::rs) (acc++[Nd.mk 15 [] (kN x)]) g' (a+(jW x).length+1) r (by simp) (fun z hz=>hx z (by simp at hz ⊢;exact .inr hz)) (fun z hz=>hP z (by simp at hz ⊢;exact .inr hz)) (by omega) (by omega) (lV (j5 hr'))]
  rw[hj];simp;omega
theorem PW.ank{w:Wrd}{u:List Wrd}{m:Nd}(hh:∀r,hS (w::r) [45]=false)
  (h:∀(l:List Tok) f o r,hS r [40]=false→(w::(u++r)).length < f+1→o+2*dep m+1≤600→∀a,rst l a=w::(u++r)→oZ 600 l (lev 600 l f).1 a o= .ok m (a+(u.length+1))):PW (w::u) m:=fun l f o r hr hf ho a ha=>by
 have hpos:1≤(w::u++r).length:=by simp
 obtain⟨f,rfl⟩:∃k,f=k+1:=⟨f - 1,by omega⟩
 show abu l (unG 600 l (lev 600 l f).1 (lev 600 l f).2) a o=_;have hend:=j5 ha;have hp:=h l f o r (hr [40] (by decide)) (by simpa using hf) ho a (by simpa using ha)
 have hlen:(w::u).length=u.length+1:=rfl;rw[hlen]at hend ⊢;exact agN (aak (aak (afZ hp (by rw[ha];exact hh _) (by rw[hend];exact hr _ (by decide)) (by rw[hend];exact hr _ (by decide))) (by rw[hend];exact hr _ (by decide)) (by rw[hend];exact hr _ (by decide))) (by rw[hend];exact hr _ (by decide)) (by rw[hend];exact hr _ (by decide))) (by rw[hend];exact hr _ (by decide)) (by rw[hend];exact hr _ (by decide)) (by rw[hend];exact hr _ (by decide)) (by rw[hend];exact hr _ (by decide))
abbrev nmN(t:List UInt8):Nd:= .mk 1 t []
theorem PW.num(t:List UInt8):PW [(1,t)] (nmN t):=PW.ank (w:=(1,t)) (u:=[]) (fun r=>rfl) fun l f o r _ _ _ a ha=>by
 rw[ng (w:=(1,t)) (r:=r) ha,if_pos rfl];rfl
theorem PW.call{t:List UInt8}(ht:tx 2 t=true){ks:List WN}(hk:∀k∈ks,PW k.1 k.2∧HD k.1 [41]):PW ((2,t)::sg [40]::(jW ks++[sg [41]])) (.mk 13 t (kN ks)):=
 PW.ank (w:=(2,t)) (u:=sg [40]::(jW ks++[sg [41]])) (fun r=>by
  show (!decide ((2:Int)=1)&&decide (t=[45]))=false;simp[asy ht (c:=45) (m:=[]) (by decide)]) fun l f o r hr hf ho a h=>by
 have h:rst l a=(2,t)::sg [40]::(jW ks++sg [41]::r):=by rw[h];simp
 have hf:((2,t)::sg [40]::(jW ks++sg [41]::r)).length < f+1:=by simpa using hf
 rw[ng h,if_neg (show¬(2:Int)=1 by decide),ahw ht,if_pos rfl,if_pos (by rfl)]
 have hL:=ac5 (l:=l) (f:=f) (o:=o+1) (e:=[41]) (by decide) (ks:=ks) (a:=a+2) (r:=r) (fun k hkm=>⟨(hk k hkm).1,by have:=yQ (o:=13) (t:=t) (show k.2∈kN ks from List.mem_map_of_mem hkm);omega,(hk k hkm).2⟩) (by simp only[List.length_cons]at hf;omega) (lV (lV h))
 refine acS (by omega) ?_
 show gW _ (jm l (lev 600 l f).1 [41] (a+2) (o+1))=_;rw[hL];show Res.ok _ _=_
 congr 1;simp;omega
theorem PW.lst{ks:List WN}(hk:∀k∈ks,PW k.1 k.2∧HD k.1 [125]):PW (sg [123]::(jW ks++[sg [125]])) (.mk 16 [] (kN ks)):=
 PW.ank (w:=sg [123]) (u:=jW ks++[sg [125]]) (fun r=>rfl) fun l f o r hr hf ho a h=>by
 have h:rst l a=sg [123]::(jW ks++sg [125]::r):=by rw[h];simp
 have hf:(sg [123]::(jW ks++sg [125]::r)).length < f+1:=by simpa using hf
 rw[ng h,if_neg (by decide),if_neg (by simp[hN]),if_neg (by simp[hS]),if_neg (by simp[hS]),if_pos (by rfl)]
 have hL:=ac5 (l:=l) (f:=f) (o:=o+1) (e:=[125]) (by decide) (ks:=ks) (a:=a+1) (r:=r) (fun k hkm=>⟨(hk k hkm).1,by have:=yQ (o:=16) (t:=[]) (show k.2∈kN ks from List.mem_map_of_mem hkm);omega,(hk k hkm).2⟩) (by simp only[List.length_cons]at hf;omega) (lV h)
 refine acS (by omega) ?_
 show gW _ (jm l (lev 600 l f).1 [125] (a+1) (o+1))=_;rw[hL];show Res.ok _ _=_
 congr 1;simp;omega
theorem PW.mat{rs:List (List WN)}(h0:rs≠[])(hx:∀x∈rs,x≠[])(hk:∀x∈rs,∀k∈x,PW k.1 k.2):PW (sg [91]::(jM rs++[sg [93]])) (.mk 14 [] (kM rs)):=
 PW.ank (w:=sg [91]) (u:=jM rs++[sg [93]]) (fun r=>rfl) fun l f o r hr hf ho a h=>by
 have h:rst l a=sg [91]::(jM rs++sg [93]::r):=by rw[h];simp
 have hf:(sg [91]::(jM rs++sg [93]::r)).length < f+1:=by simpa using hf
 rw[ng h,if_neg (by decide),if_neg (by simp[hN]),if_neg (by simp[hS]),if_pos (by rfl)]
 rw[List.length_cons]at hf;have hl:=ajr h (by simp)
 rw[List.length_cons]at hl;have hL:=ajj (l:=l) (f:=f) (o:=o+1) rs [] (l.length+1) (a+1) r h0 hx (fun x hx k hkx=>by
  have d1:=yQ (o:=15) (t:=[]) (show k.2∈kN x from List.mem_map_of_mem hkx)
  have d2:=yQ (o:=14) (t:=[]) (k:= .mk 15 [] (kN x)) (ks:=kM rs) (List.mem_map.2 ⟨x,hx,rfl⟩);exact⟨hk x hx k hkx,by omega⟩) (by omega) (by omega) (lV h)
 refine acS (by omega) ?_
 rw[hL];show Res.ok _ _=_
 congr 1;simp;omega
theorem ahd{l:List Tok}{f o a:Nat}{t:List UInt8}{r:List Wrd}(h:rst l a=(1,t)::r)(h1:hS r [91]=false)(h2:hS r [94]=false)(U:Gr):unG 600 l (lev 600 l f).1 U a o= .ok (nmN t) (a+1):=by
 refine afZ (by rw[ng (w:=(1,t)) (r:=r) h,if_pos rfl]) (by rw[h];rfl) ?_ ?_
 ·rw[lV h];exact h1
 ·rw[lV h];exact h2
theorem ath{l:List Tok}{f o a:Nat}{t:List UInt8}{r:List Wrd}(h:rst l a=sg [45]::(1,t)::r)(h1:hS r [91]=false)(h2:hS r [94]=false)(ho:o+1≤600)(hf:1≤f):unG 600 l (lev 600 l f).1 (lev 600 l f).2 a o= .ok (.mk 3 [] [nmN t]) (a+2):=by
 obtain⟨f,rfl⟩:∃k,f=k+1:=⟨f - 1,by omega⟩
 unfold unG;rw[bL,h,if_pos (by rfl)]
 refine acS ho ?_;show gW _ (unG 600 l (lev 600 l f).1 (lev 600 l f).2 (a+1) (o+1))=_;rw[ahd (lV h) h1 h2];rfl
def zWd(z:Int):List Wrd:=if z < 0 then [sg [45],(1,aO z.natAbs)]else [(1,aO z.natAbs)]
def zNd(z:Int):Nd:=if z < 0 then .mk 3 [] [nmN (aO z.natAbs)]else nmN (aO z.natAbs)
theorem un_z{l:List Tok}{f o a:Nat}{z:Int}{r:List Wrd}(h:rst l a=zWd z++r)(h1:hS r [91]=false)(h2:hS r [94]=false)(ho:o+1≤600)(hf:1≤f):unG 600 l (lev 600 l f).1 (lev 600 l f).2 a o= .ok (zNd z) (a+(zWd z).length):=by
 unfold zWd at h ⊢;unfold zNd
 split at h
 ·rename_i hz;rw[if_pos hz,if_pos hz];exact ath h h1 h2 ho hf
 ·rename_i hz;rw[if_neg hz,if_neg hz];exact ahd h h1 h2 _
theorem PW.z(z:Int):PW (zWd z) (zNd z):=fun l f o r hr hf ho a ha=>by
 have hpos:1≤(zWd z).length:=by unfold zWd;split <;> simp
 rw[List.length_append]at hf;obtain⟨f,rfl⟩:∃k,f=k+1:=⟨f - 1,by omega⟩
 show abu l (unG 600 l (lev 600 l f).1 (lev 600 l f).2) a o=_;have hend:=j5 ha;exact agN (aak (aak (un_z ha (hr _ (by decide)) (hr _ (by decide)) (by omega) (by omega)) (by rw[hend];exact hr _ (by decide)) (by rw[hend];exact hr _ (by decide))) (by rw[hend];exact hr _ (by decide)) (by rw[hend];exact hr _ (by decide))) (by rw[hend];exact hr _ (by decide)) (by rw[hend];exact hr _ (by decide)) (by rw[hend];exact hr _ (by decide)) (by rw[hend];exact hr _ (by decide))
theorem PW.frac(z:Int)(t:List UInt8):PW (zWd z++sg [47]::[(1,t)]) (.mk 7 [] [zNd z,nmN t]):=fun l f o r hr hf ho a ha=>by
 have hpos:1≤(zWd z).length:=by unfold zWd;split <;> simp
 rw[List.length_append,List.length_append]at hf;obtain⟨f,rfl⟩:∃k,f=k+1:=⟨f - 1,by omega⟩
 show abu l (unG 600 l (lev 600 l f).1 (lev 600 l f).2) a o=_;have ha:rst l a=zWd z++(sg [47]::((1,t)::r)):=by rw[ha];simp
 have e1:=j5 ha;have e2:=lV e1;have e3:=lV e2;have u1:=un_z (f:=f) (o:=o) ha rfl rfl (by omega) (by omega)
 have u2:=ahd (f:=f) (o:=o) e2 (hr _ (by decide)) (hr _ (by decide)) (lev 600 l f).2
 have hc:=ap6 (l:=l) (s1:=[42]) (s2:=[47]) (x:=6) (y:=7) u1 (by rw[e1];rfl) (by rw[e1];rfl) u2 (by rw[e3];exact hr _ (by decide)) (by rw[e3];exact hr _ (by decide))
 have hfin:a+(zWd z).length+1+1=a+(zWd z++sg [47]::[(1,t)]).length:=by simp;omega
 rw[←hfin];exact agN (aak hc (by rw[e3];exact hr _ (by decide)) (by rw[e3];exact hr _ (by decide))) (by rw[e3];exact hr _ (by decide)) (by rw[e3];exact hr _ (by decide)) (by rw[e3];exact hr _ (by decide)) (by rw[e3];exact hr _ (by decide))
theorem afA{t s:List UInt8}(h:tx 2 t=true)(hs:ownB s=true):t≠s:=fun e=>by
 have:=aox h;rw[e,hs]at this;cases this
theorem aeu{t s:List UInt8}(h:tx 2 t=true)(hs:ownB s=true)(r:List Wrd):hS ((2,t)::r) s=false:=by
 show (!decide ((2:Int)=1)&&decide (t=s))=false;simp[afA h hs]
def SW(ws:List Wrd)(n:Nd):Prop:=∀(l:List Tok) (a:Nat) (r:List Wrd),rst l a=ws++r→ag0 600 l (l.length+1) a 0= .ok n (a+ws.length)
def HX(ws:List Wrd):Prop:=∀r,hS (ws++sg [59]::r) [105,102]=false∧hS (ws++sg [59]::r) [102,111,114]=false∧(hN (ws++sg [59]::r)&&hS ((ws++sg [59]::r).drop 1) [61])=false
theorem ajl{l:List Tok}{a:Nat}{u:List Wrd}(h:rst l a=u):u.length≤l.length:=by
 rw[←h];unfold rst;rw[List.length_drop,zq5];omega
theorem SW.show{ws:List Wrd}{m:Nd}(h:PW ws m)(hd:dep m≤200)(hx:HX ws):SW (ws++[sg [59]]) (.mk 19 [] [m]):=fun l a r hr=>by
 have hr:rst l a=ws++sg [59]::r:=by rw[hr];simp
 obtain⟨h1,h2,h3⟩:=hx r;have hle:=ajl hr;have he:aev (sg [59]::r):=ru (by decide) r
 have hm:=h l (l.length+1) 0 (sg [59]::r) he (by omega) (by omega) a hr
 have hend:=j5 hr;show stG l (lev 600 l (l.length+1)).1 _ a 0=_;have h31:(mD l a&&isS l (a+1) [61])=false:=by
  rw[zW,bL,hr,←h3];unfold rst at hr ⊢;rw[←List.drop_drop,hr]
 unfold stG;rw[bL,hr,h1,if_neg (by decide),bL,hr,h2,if_neg (by decide),h31,if_neg (by decide),hm]
 show (if isS l (a+ws.length) [59]then _ else _)=_
 rw[bL,hend,if_pos (by rfl)]
 congr 1;simp;omega
theorem SW.set{t:List UInt8}{ws:List Wrd}{m:Nd}(ht:tx 2 t=true)(h:PW ws m)(hd:dep m≤200):SW ((2,t)::sg [61]::(ws++[sg [59]])) (.mk 18 t [m]):=fun l a r hr=>by
 have hr:rst l a=(2,t)::sg [61]::(ws++sg [59]::r):=by rw[hr];simp
 have hle:=ajl hr;have he:aev (sg [59]::r):=ru (by decide) r
 have r1:=lV hr;have r2:=lV r1;rw[List.length_cons,List.length_cons]at hle;have hm:=h l (l.length+1) 0 (sg [59]::r) he (by omega) (by omega) (a+1+1) r2
 have hend:=j5 r2;have n1:hS ((2,t)::sg [61]::(ws++sg [59]::r)) [105,102]=false:=aeu ht (by rfl) _
 have n2:hS ((2,t)::sg [61]::(ws++sg [59]::r)) [102,111,114]=false:=aeu ht (by rfl) _
 have h31:(mD l a&&isS l (a+1) [61])=true:=by
  rw[zW,bL,hr,r1,ahw ht];rfl
 show stG l (lev 600 l (l.length+1)).1 _ a 0=_;unfold stG;rw[bL,hr,n1,if_neg (by decide),bL,hr,n2,if_neg (by decide),h31,if_pos rfl,aqL hr,hm]
 show (if isS l (a+1+1+ws.length) [59]then _ else _)=_
 rw[bL,hend,if_pos (by rfl)]
 congr 1;simp;omega
theorem afb{l:List Tok}:∀(ks:List WN) (acc:List Nd) (g a:Nat),(∀k∈ks,SW k.1 k.2∧1≤k.1.length)→
  ks.length < g→rst l a=(ks.map (·.1)).flatten→a+(ks.map (·.1)).flatten.length=l.length→u6 l (ag0 600 l (l.length+1)) g acc a 0= .ok (.mk 0 [] (acc++kN ks)) l.length
 |[],acc,g,a,hk,hg,h,hl=>by
  obtain⟨g,rfl⟩:∃k,g=k+1:=⟨g - 1,by simp at hg;omega⟩
  have hl:a=l.length:=by simpa using hl
  rw[u6]
  dsimp only
  rw[if_neg (by omega),hl];simp
 |k::ks,acc,g,a,hk,hg,h,hl=>by
  rw[List.length_cons]at hg;obtain⟨g,rfl⟩:∃k,g=k+1:=⟨g - 1,by omega⟩
  obtain⟨k3,hp⟩:=hk k (by simp)
  have h:rst l a=k.1++(ks.map (·.1)).flatten:=by rw[h];simp
  rw[List.map_cons,List.flatten_cons,List.length_append]at hl;rw[u6]
  dsimp only
  rw[if_pos (by omega),k3 l a _ h]
  dsimp only
  rw[afb ks (acc++[k.2]) g (a+k.1.length) (fun x hx=>hk x (by simp[hx])) (by omega) (j5 h) (by omega)]
  simp
theorem afu:∀{ks:List WN},(∀k∈ks,1≤k.1.length)→ks.length≤(ks.map (·.1)).flatten.length
 |[],_=>by simp
 |k::ks,h=>by
  have:=h k (by simp)
  have:=afu (ks:=ks) fun x hx=>h x (by simp[hx])
  simp only[List.map_cons,List.flatten_cons,List.length_append,List.length_cons];omega
theorem ae4{l:List Tok}{ks:List WN}(hw:l.map kt=(ks.map (·.1)).flatten)(ht:l.all gF=true)(hk:∀k∈ks,SW k.1 k.2∧1≤k.1.length)(hd:jS (kN ks)≤200):sH l 200=(kN ks,0,0):=by
 have hlen:l.length=(ks.map (·.1)).flatten.length:=by rw[←zq5 (f:=kt),hw]
 have hg:=afu fun k hkm=>(hk k hkm).2
 have h0:rst l 0=(ks.map (·.1)).flatten:=by unfold rst;rw[List.drop_zero,hw]
 have hp:aft l= .ok (.mk 0 [] (kN ks)) l.length:=by
  unfold aft;rw[afb ks [] (l.length+1) 0 hk (by omega) h0 (by omega)]
  simp
 unfold sH;rw[if_neg (by omega),ht,if_pos rfl,hp]
 show alx (kN ks) 200=_;unfold alx;rw[if_neg (by omega)]
theorem eD.len{s:List UInt8}{ws:List Wrd}(h:eD s ws):ws.length≤s.length∧∀w∈ws,w.2.length≤s.length:=by
 induction h with
 |nil h=>exact⟨Nat.zero_le _,by simp⟩
 | @cons s t w ws h h1 h2 h3 _ ih=>
  have hl:=congrArg List.length h;rw[List.length_drop,List.length_append]at hl;have hw:w.2.length≠0:=by simpa using h3
  refine⟨by rw[List.length_cons];omega,fun x hx=>?_⟩
  rcases List.mem_cons.1 hx with rfl|hx
  ·omega
  ·have:=ih.2 x hx;omega
theorem aaE{s:List UInt8}{ks:List WN}(hs:eD s (ks.map (·.1)).flatten)(hl:s.length≤20000)(hk:∀k∈ks,SW k.1 k.2∧1≤k.1.length)(hd:jS (kN ks)≤200):∃ts,adC s=(ts,0,0)∧(ts.length≤1000000∧∀t∈ts,t.text.length≤9223372036854775807)∧sH ts 200=(kN ks,0,0):=by
 obtain⟨ts,h1,h2,h3⟩:=hs.R hl;have hb:=hs.len;refine⟨ts,h1,⟨?_,fun t ht=>?_⟩,ae4 h2 h3 hk hd⟩
 ·have:=hb.1;rw[←h2,zq5]at this;omega
 ·have:=hb.2 (kt t) (h2▸List.mem_map_of_mem ht);have e:(kt t).2=t.text:=rfl;rw[e]at this;omega
theorem aiD{α:Type}{f:α→Nat}:∀{l:List α} {x:α},x∈l→f x≤(l.map f).sum
 |y::l,x,h=>by
  rw[List.map_cons,List.sum_cons];rcases List.mem_cons.1 h with rfl|h
  ·omega
  ·have:=aiD (f:=f) h;omega
theorem om{α:Type}{f g:α→Nat}:∀{l:List α},(∀x∈l,f x≤g x)→(l.map f).sum≤(l.map g).sum
 |[],_=>Nat.le_refl _
 |x::l,h=>by
  rw[List.map_cons,List.map_cons,List.sum_cons,List.sum_cons];have h1:=h x List.mem_cons_self;have h2:=om (l:=l) fun y hy=>h y (List.mem_cons_of_mem _ hy)
  omega
theorem rR(s:UInt8):∀l:List (List UInt8),(l.map List.length).sum≤(jn s l).length
 |[]=>Nat.le_refl _
 |[a]=>by simp[jn]
 |a::b::l=>by
  have:=rR s (b::l);rw[List.map_cons,List.sum_cons];show a.length+((b::l).map List.length).sum≤(a++(s::32::jn s (b::l))).length;rw[List.length_append,List.length_cons,List.length_cons];omega
theorem ajI{l:List (List UInt8)}(h:∀x∈l,1≤x.length):l.length≤(l.map List.length).sum:=by
 have h2:=om (f:=fun _=>1) (g:=List.length) (l:=l) h
 have e:(l.map fun _=>1).sum=l.length:=by
  clear h h2
  induction l with
  |nil=>rfl
  |cons a l ih=>rw[List.map_cons,List.sum_cons,ih,List.length_cons];omega
 omega
theorem ahi{c:Nat}:∀{r:Nat} {l:List (List UInt8)},l.length=r*c→(∀x∈l,1≤x.length)→r*c≤(((chk c r l).map (jn 44)).map List.length).sum
 |0,l,_,_=>by rw[Nat.zero_mul];exact Nat.zero_le _
 |r+1,l,hl,h=>by
  rw[Nat.succ_mul]at hl ⊢;show _≤(((l.take c::chk c r (l.drop c)).map (jn 44)).map List.length).sum;rw[List.map_cons,List.map_cons,List.sum_cons];have h1:=ahi (c:=c) (r:=r) (l:=l.drop c) (by rw[List.length_drop];omega) (fun x hx=>h x (List.mem_of_mem_drop hx))
  have h2:=rR 44 (l.take c);have h3:=ajI (l:=l.take c) fun x hx=>h x (List.mem_of_mem_take hx)
  rw[List.length_take]at h3;omega
theorem aof{r c:Nat}{l:List (List UInt8)}(hl:l.length=r*c)(h:∀x∈l,1≤x.length):l.length≤(tbS r c l).length:=by
 unfold tbS
 split
 ·next h0=>
  have:r*c=0:=by rcases h0 with rfl|rfl <;> simp
  omega
 ·have h1:=ahi hl h;have h2:=rR 59 ((chk c r l).map (jn 44));rw[List.length_cons,List.length_append];omega
theorem amm{l:List (List UInt8)}(h:∀x∈l,1≤x.length):l.length≤(plS l).length:=by
 have h1:=rR 44 l;have h2:=ajI h;unfold plS;rw[List.length_append,List.length_append];omega
theorem adT(s:List UInt8)(p:Nat):s.length≤(mdS s p).length:=by
 unfold mdS;rw[List.length_append,List.length_append];omega
theorem ne1{l:List UInt8}{c:UInt8}{m:List UInt8}(h:l=c::m):1≤l.length:=by rw[h];simp
theorem qS_1(x:Rat):1≤(qS x).length:=by obtain⟨c,m,h,_⟩:=qS_ne x;exact ne1 h
theorem zS_1(x:Int):1≤(zS x).length:=by obtain⟨c,m,h,_⟩:=arQ x;exact ne1 h
theorem agS(x:Nat):1≤(aO x).length:=by obtain⟨c,m,h,_⟩:=aiF x;exact ne1 h
theorem afl{α:Type}{f:α→List UInt8}{l:List α}(h:∀x,1≤(f x).length):∀y∈l.map f,1≤y.length:=fun y hy=>by
 obtain⟨x,_,rfl⟩:=List.mem_map.1 hy;exact h x
theorem amO{l:List Vl}{x:Vl}(h:x∈l):(tS x).length+2≤(tS (kG l)).length:=by
 rw[sW,List.length_cons,List.length_append];have h1:=rR 44 (l.map tS);have h2:=aiD (f:=List.length) (List.mem_map_of_mem (f:=tS) h);have e:([125]:List UInt8).length=1:=rfl;omega
structure IV(d b s:Nat)(v:Vl):Prop where
 n:ah prog 222 [.agg (vlA v)] (.v (.int .i64 (d:Int)))
 b:ah prog 238 [.agg (vlA v)] (.v (.int .i64 (b:Int)))
 s:ah prog 224 [.agg (vlA v)] (.v (.int .i64 (s:Int)))
theorem IV.of{K n:Nat}{v:Vl}(h:Cv K n v)(hK:K≤100)(hn:n≤15):(tS v).length≤100000→∃d b s:Nat,d≤n∧b≤64000∧s≤(tS v).length∧IV d b s v:=by
 induction h with
 | @one n v h=>
  intro hl;cases h with
  |num x h=>
   have hq:=ag3 h;refine⟨0,qB x,1,Nat.zero_le _,by omega,by rw[xq];exact qS_1 x,kJ _ (fun h=>by have h':(1:Int)=6:=h;omega),akB h (by omega),?_⟩
   exact ac8 (fJ x) (fun _=>0) ⟨fun h=>by have h':(1:Int)=2:=h;omega,fun h=>by have h':(1:Int)=3:=h;omega,fun h=>by have h':(1:Int)=4:=h;omega,fun h=>by have h':(1:Int)=5:=h;omega⟩ (Nat.le_of_ble_eq_true rfl) (Nat.le_of_ble_eq_true rfl) (fun x hx=>by cases hx)
  |mat r c vs hvl hr hc h=>
   have hrc:=Nat.mul_le_mul hr hc;have e:((eF r c vs).a).length=vs.length:=zq5 _;refine⟨0,_,vs.length,Nat.zero_le _,aaz (fun x hx=>?_) (Nat.zero_le _),?_,kJ _ (fun h=>by have h':(2:Int)=6:=h;omega),aky h (by omega) (by omega),?_⟩
   ·obtain⟨y,hy,rfl⟩:=List.mem_map.1 hx;have:=ag3 (h y hy);omega
   ·rw[mY];have:=aof (r:=r) (c:=c) (l:=vs.map qS) (by rw[zq5];exact hvl) (afl qS_1)
    rwa [zq5]at this
   ·have:=akh (eF r c vs) rfl (by rw[e];omega)
    rwa [e]at this
  |pol zs hzl hpn h=>
   have e:((iO zs).po).length=zs.length:=zq5 _;refine⟨0,_,zs.length,Nat.zero_le _,aaz (fun x hx=>?_) (Nat.zero_le _),?_,kJ _ (fun h=>by have h':(3:Int)=6:=h;omega),akG h (by omega) hzl,?_⟩
   ·obtain⟨y,hy,rfl⟩:=List.mem_map.1 hx;have:=qZ (h y hy);omega
   ·rw[wO];have:=amm (l:=zs.map zS) (afl zS_1)
    rwa [zq5]at this
   ·have:=aku (iO zs) rfl (by rw[e];omega)
    rwa [e]at this
  |fld p r c l hp hll hr hc h=>
   have hrc:=Nat.mul_le_mul hr hc;have hpl:=hp.lt;have hpW:p < WB:=by rw[bB];omega
   refine⟨0,bitLen p,l.length,Nat.zero_le _,?_,?_,kJ _ (fun h=>by have h':(4:Int)=6:=h;omega),ai0 (kS p r c l) (.inl rfl) hpW,aly (kS p r c l) rfl (show l.length≤1000000 by omega)⟩
   ·have:=qZ (k:=1) (by rw[Nat.pow_one];exact hpW);omega
   ·rw[wP];have:=aof (r:=r) (c:=c) (l:=l.map aO) (by rw[zq5];exact hll) (afl agS)
    rw[zq5]at this;exact Nat.le_trans this (adT _ _)
  |rng p l hp hll hwn h=>
   have hpl:=hp.lt;have hpW:p < WB:=by rw[bB];omega
   refine⟨0,bitLen p,l.length,Nat.zero_le _,?_,?_,kJ _ (fun h=>by have h':(5:Int)=6:=h;omega),ai0 (lu p l) (.inr rfl) hpW,alD (lu p l) rfl (show l.length≤1000000 by omega)⟩
   ·have:=qZ (k:=1) (by rw[Nat.pow_one];exact hpW);omega
   ·rw[wz];have:=amm (l:=l.map aO) (afl agS);rw[zq5]at this;exact Nat.le_trans this (adT _ _)
 | @lst n l hll h ih=>
  intro hl;obtain⟨g,hg⟩:=uR (β:=Nat×Nat×Nat) (P:=fun x t=>t.1≤n∧t.2.1≤64000∧t.2.2≤(tS x).length∧IV t.1 t.2.1 t.2.2 x) (l:=l) (fun x hx=>by
   have hm:=amO hx;obtain⟨d,b,s,h1,h2,h3,h4⟩:=ih x hx (by omega) (by omega)
   exact⟨(d,b,s),h1,h2,h3,h4⟩)
  have hs:(l.map fun x=>(g x).2.2).sum+2≤(tS (kG l)).length:=by
   rw[sW,List.length_cons,List.length_append];have h1:=rR 44 (l.map tS);have h2:=om (f:=fun x=>(g x).2.2) (g:=fun x=>(tS x).length) (l:=l) (fun x hx=>(hg x hx).2.2.1)
   rw[List.map_map]at h1;have h3:(l.map (List.length ∘ tS)).sum=(l.map fun x=>(tS x).length).sum:=rfl
   have e:([125]:List UInt8).length=1:=rfl;omega
  refine⟨1+(l.map fun x=>(g x).1).foldl max 0,(l.map fun x=>(g x).2.1).foldl max 0,1+(l.map fun x=>(g x).2.2).sum,?_,?_,by omega,?_,?_,?_⟩
  ·have:=aaz (B:=n) (l:=l.map fun x=>(g x).1) (b:=0) (fun y hy=>by obtain⟨x,hx,rfl⟩:=List.mem_map.1 hy;exact(hg x hx).1) (Nat.zero_le _)
   omega
  ·exact aaz (fun y hy=>by obtain⟨x,hx,rfl⟩:=List.mem_map.1 hy;exact(hg x hx).2.1) (Nat.zero_le _)
  ·exact afg (kG l) (fun x=>(g x).1) rfl (show l.length≤1000000 by omega) (fun x hx=>by have:=(hg x hx).1;omega) (fun x hx=>(hg x hx).2.2.2.n)
  ·exact aqQ (kG l) (fun x=>(g x).2.1) rfl rfl (show l.length≤1000000 by omega) (fun x hx=>(hg x hx).2.1) (fun x hx=>(hg x hx).2.2.2.b)
  ·exact ac8 (kG l) (fun x=>(g x).2.2) ⟨fun h=>by have h':(6:Int)=2:=h;omega,fun h=>by have h':(6:Int)=3:=h;omega,fun h=>by have h':(6:Int)=4:=h;omega,fun h=>by have h':(6:Int)=5:=h;omega⟩ (show (l.map fun x=>(g x).2.2).sum≤1000000 by omega) (show l.length≤1000000 by omega) (fun x hx=>(hg x hx).2.2.2.s)
theorem VI.of{K n B:Nat}{v:Vl}(h:Cv K n v)(hK:K≤100)(hn:n≤15)(hl:(tS v).length≤100000)(hB:64000≤B):∃s:Nat,s≤(tS v).length∧VI B s v:=by
 obtain⟨d,b,s,h1,h2,h3,h4⟩:=IV.of h hK hn hl;exact⟨s,h3,⟨d,by omega,h4.n⟩,⟨b,by omega,atn (h.F (by omega) hn) h4.b⟩,h4.s⟩
section
theorem iH{x k:Nat}(h:x < WB ^ k):(aO x).length≤20*k+1:=by
 unfold aO
 split
 ·simp
 ·have:WB ^ k≤10 ^ (20*k):=by rw[Nat.pow_mul];exact Nat.pow_le_pow_left (by rw[bB];decide) _
  have:=acO (Nat.lt_of_lt_of_le h this);omega
attribute [local irreducible] IntKind.wrap Go1 Reg WP aS aT bR bO aQ aC ak aj aX Sat
attribute [local irreducible] bT bX bY dw bZ qv dR mf PrP qOk zOk vP dQ lz vF cq rqv eY bW dL dh gD jn sq aO qS zS tS tbS plS mdS zmd eO iJ nmC qB
theorem ao9{v n:Vl}{e:Int}(hF:ah prog 32 [.agg (vlA v)] (.v (.bool true)))(h:ah prog 240 [.agg (vlA v)] (.tup [.agg (vlA n),eNo e])):
  ah prog 228 [.v (.int .i64 3),.agg (vlA v)] (.tup [.agg (vlA n),eNo e]):=by
 refine ah.fnF func228 results228 ntmps228 rfl rfl rfl (by simp[AV.ids,AV0.ids,Atom.ids]) rfl (fun w0 T B E0 hB=>?_)
 refine SX.goM ?_;exact .ok (aC.mk2 (ak.gJ rfl rfl rfl) (ak.tmp rfl))
theorem AL.one{B:Nat}{nm:Nms}{m:Nd}{k:Nat}{v:Vl}(h:EX B nm m k v):AL B nm [m] k [v]:=by
 have:=anc B nm [m] [k] [v] rfl rfl (Nat.le_of_ble_eq_true rfl) (fun i n k' v' h1 h2 h3=>by
  match i,h1,h2,h3 with
  |0,h1,h2,h3=>cases h1;cases h2;cases h3;exact h)
 simpa using this
theorem AL.two{B:Nat}{nm:Nms}{m m':Nd}{k k':Nat}{v v':Vl}(h:EX B nm m k v)(h':EX B nm m' k' v'):AL B nm [m,m'] (k+k') [v,v']:=by
 have:=anc B nm [m,m'] [k,k'] [v,v'] rfl rfl (Nat.le_of_ble_eq_true rfl) (fun i n k1 v1 h1 h2 h3=>by
  match i,h1,h2,h3 with
  |0,h1,h2,h3=>cases h1;cases h2;cases h3;exact h
  |1,h1,h2,h3=>cases h1;cases h2;cases h3;exact h')
 simpa using this
section
variable{B K:Nat}(hB:64000≤B)(hB0:B≤1000000000)(h1:1≤K)(hK:K≤90)
include hB hB0 h1 hK
omit hB0 in
theorem VI.num{x:Rat}(hx:RB x K):∃s:Nat,s≤(qS x).length∧VI B s (fJ x):=by
 have hl:(tS (fJ x)).length≤100000:=by
  rw[xq,rU];have d1:=iH hx.n;have d2:=iH hx.d;have z1:(zS x.num).length≤(aO x.num.natAbs).length+1:=by unfold zS;split <;> simp
  have z2:(zS (x.den:Int)).length=(aO x.den).length:=by rw[sO]
  split
  ·omega
  ·rw[List.length_append,List.length_cons];omega
 have h:=VI.of (B:=B) (Cv.one (n:=0) (.num x hx)) (by omega) (by omega) hl hB
 rwa [xq]at h
theorem zI{x:Nat}(hx:x < WB ^ K):∃k:Nat,k≤2*(aO x).length∧∀nm,EX B nm (nmN (aO x)) k (vI x):=by
 have hb:((x:Nat):Int).natAbs < WB ^ K:=hx;have hd:=iH hx;obtain⟨s,hs,hv⟩:=VI.num hB h1 hK (RB.ofI hb h1);have e:qS ((x:Int):Rat)=aO x:=by rw[rU,if_pos (Rat.den_intCast _),Rat.num_intCast,sO]
 rw[e]at hs;have hp:=agS x;have cZ:=agT (aO x) (by omega)
 have hz:=apC (z:=(x:Int)) (k:=K) ⟨hb⟩ (by omega)
 rw[sO]at hz;rw[hz.1,hz.2]at cZ;have cW:ah prog 187 [.agg (zN (x:Int))] (.agg (vlA (vI x))):=ajZ (q:=z2v (x:Int)) (ZQ.made hb) h1 (by omega)
 exact⟨s+1,by omega,fun nm=>EX.num hB0 (n:=nmN (aO x)) rfl cZ cW hv⟩
theorem amw{z:Int}(hz:z.natAbs < WB ^ K):∃k:Nat,k≤3*(zS z).length∧∀nm,EX B nm (zNd z) k (vI z):=by
 obtain⟨k,hk,hE⟩:=zI hB hB0 h1 hK hz;by_cases h:z < 0
 ·have e1:zNd z= .mk 3 [] [nmN (aO z.natAbs)]:=by unfold zNd;rw[if_pos h]
  have e2:zS z=45::aO z.natAbs:=by unfold zS;rw[if_pos h]
  have e3:(z:Rat)= -(((z.natAbs:Nat):Int):Rat):=by
   rw[←Rat.intCast_neg];congr 1;omega
  have hb:(((z.natAbs:Nat):Int)).natAbs < WB ^ K:=by simpa using hz
  obtain⟨s,hs,hv⟩:=VI.num hB h1 hK (RB.ofI hz h1);have e4:qS (z:Rat)=zS z:=by rw[rU,if_pos (Rat.den_intCast _),Rat.num_intCast]
  rw[e4]at hs;have cN:=ao9 (qw hb h1 (by omega)) (aov (RB.ofI hb h1) (by omega))
  have e5:fJ (-(((z.natAbs:Nat):Int):Rat))=vI z:=by rw[←e3]
  rw[e5]at cN;refine⟨s+k+1,by rw[e2]at hs ⊢;rw[List.length_cons]at*;omega,fun nm=>?_⟩
  rw[e1];exact EX.opr hB0 (n:= .mk 3 [] [nmN (aO z.natAbs)]) ⟨fun h=>by have h':(3:Int)=1:=h;omega,fun h=>by have h':(3:Int)=2:=h;omega,fun h=>by have h':(3:Int)=14:=h;omega⟩ (AL.one (hE nm)) (aoZ rfl cN) hv
 ·have e1:zNd z=nmN (aO z.natAbs):=by unfold zNd;rw[if_neg h]
  have e2:zS z=aO z.natAbs:=by unfold zS;rw[if_neg h]
  have e3:((z.natAbs:Nat):Int)=z:=by omega
  rw[e3]at hE;refine⟨k,by rw[e2];omega,fun nm=>?_⟩
  rw[e1];exact hE nm
end
end
section
def FW(ws:List Wrd):Prop:=HD ws [41]∧HD ws [125]∧HX ws
theorem FW.num(t:List UInt8)(r:List Wrd):FW ((1,t)::r):=⟨⟨_,_,rfl,fun r'=>rfl⟩,⟨_,_,rfl,fun r'=>rfl⟩,fun r'=>⟨rfl,rfl,rfl⟩⟩
theorem FW.min(r:List Wrd):FW (sg [45]::r):=⟨⟨_,_,rfl,fun r'=>rfl⟩,⟨_,_,rfl,fun r'=>rfl⟩,fun r'=>⟨rfl,rfl,rfl⟩⟩
theorem FW.mat(r:List Wrd):FW (sg [91]::r):=⟨⟨_,_,rfl,fun r'=>rfl⟩,⟨_,_,rfl,fun r'=>rfl⟩,fun r'=>⟨rfl,rfl,rfl⟩⟩
theorem FW.lst(r:List Wrd):FW (sg [123]::r):=⟨⟨_,_,rfl,fun r'=>rfl⟩,⟨_,_,rfl,fun r'=>rfl⟩,fun r'=>⟨rfl,rfl,rfl⟩⟩
theorem FW.zero(r:List Wrd):FW ((2,kQ)::sg [40]::r):=⟨⟨_,_,rfl,fun r'=>rfl⟩,⟨_,_,rfl,fun r'=>rfl⟩,fun r'=>⟨rfl,rfl,rfl⟩⟩
theorem FW.poly(r:List Wrd):FW ((2,jF)::sg [40]::r):=⟨⟨_,_,rfl,fun r'=>rfl⟩,⟨_,_,rfl,fun r'=>rfl⟩,fun r'=>⟨rfl,rfl,rfl⟩⟩
theorem FW.mod(r:List Wrd):FW ((2,iC)::sg [40]::r):=⟨⟨_,_,rfl,fun r'=>rfl⟩,⟨_,_,rfl,fun r'=>rfl⟩,fun r'=>⟨rfl,rfl,rfl⟩⟩
theorem FW.z(z:Int)(r:List Wrd):FW (zWd z++r):=by
 unfold zWd
 split
 ·exact FW.min _
 ·exact FW.num _ _
def OP(m:Nd):Prop:=m.op≤8∨13≤m.op
theorem op_z(z:Int):OP (zNd z):=by
 unfold zNd
 split
 ·exact .inl (show (3:Int)≤8 by decide)
 ·exact .inl (show (1:Int)≤8 by decide)
structure RD(B:Nat)(s:List UInt8)(v:Vl)(c d:Nat):Prop where
 h:∃(ws:List Wrd) (m:Nd) (k:Nat),LV s ws∧PW ws m∧FW ws∧dep m≤d∧k≤c*s.length∧(∀nm,EX B nm m k v)∧OP m
theorem xA(t:List UInt8):dep (nmN t)=0:=by rw[zD];rfl
theorem amL(z:Int):dep (zNd z)≤1:=by
 unfold zNd
 split
 ·rw[zD];show (if([nmN (aO z.natAbs)]:List Nd).isEmpty then 0 else 1+jS [nmN (aO z.natAbs)])≤1
  rw[jK,kF,xA];exact Nat.le_refl 1
 ·rw[xA];omega
theorem uy{d:Nat}:∀{ks:List Nd},(∀k∈ks,dep k≤d)→jS ks≤d
 |[],_=>by rw[kF];omega
 |k::ks,h=>by
  rw[jK];have h1:=h k (by simp)
  have h2:=uy (ks:=ks) fun x hx=>h x (by simp[hx])
  omega
theorem lI{o:Int}{t:List UInt8}{ks:List Nd}{d:Nat}(h:∀k∈ks,dep k≤d):dep (.mk o t ks)≤d+1:=by
 rw[zD];show (if ks.isEmpty then 0 else 1+jS ks)≤d+1
 have:=uy h
 split <;> omega
attribute [local irreducible] bT bX bY dw bZ qv dR mf PrP qOk zOk vP dQ lz vF cq rqv eY bW dL dh gD jn sq aO qS zS tS tbS plS mdS zmd eO iJ nmC qB
section
variable{B K:Nat}(hB:64000≤B)(hB0:B≤1000000000)(h1:1≤K)(hK:K≤90)
include hB hB0 h1 hK
theorem RD.int{z:Int}(hz:z.natAbs < WB ^ K):RD B (zS z) (vI z) 3 1:=by
 obtain⟨k,hk,hE⟩:=amw hB hB0 h1 hK hz;have hd:=iH hz;have hw:=FW.z z [];rw[List.append_nil]at hw;exact⟨zWd z,zNd z,k,LV.zS (by omega),PW.z z,hw,amL z,hk,hE,op_z z⟩
theorem RD.q{x:Rat}(hx:RB x K):RD B (qS x) (fJ x) 4 2:=by
 obtain⟨kz,hkz,hEz⟩:=amw hB hB0 h1 hK hx.n;obtain⟨kd,hkd,hEd⟩:=zI hB hB0 h1 hK hx.d;have hdn:=iH hx.n;have hdd:=iH hx.d;obtain⟨s,hs,hv⟩:=VI.num hB h1 hK hx;have hself:=iW x;unfold qv at hself;by_cases h:x.den=1
 ·have e:qS x=zS x.num:=by rw[rU,if_pos h]
  have e2:((x.num:Int):Rat)=x:=by rw[h]at hself;rw[←hself];grind
  have hw:=FW.z x.num [];rw[List.append_nil]at hw;refine⟨zWd x.num,zNd x.num,kz,by rw[e];exact LV.zS (by omega),PW.z _,hw,by have:=amL x.num;omega,by rw[e];omega,fun nm=>?_,op_z _⟩
  have:=hEz nm
  rwa [show vI x.num=fJ x from congrArg fJ e2]at this
 ·have e:qS x=zS x.num++47::aO x.den:=by rw[rU,if_neg h,sO]
  have hd0:((x.den:Int):Rat)≠0:=c0 (pW x);have hbn:=RB.ofI hx.n h1;have hbd:RB ((x.den:Int):Rat) K:=RB.ofI (z:=(x.den:Int)) hx.d h1;have cQ:=aoc hbn hbd (by omega) hd0
  rw[hself]at cQ;have cB:=ao0 (qw hx.n h1 (by omega)) (qw (z:=(x.den:Int)) hx.d h1 (by omega)) cQ
  have hlen:(qS x).length=(zS x.num).length+1+(aO x.den).length:=by rw[e,List.length_append,List.length_cons];omega
  refine⟨zWd x.num++sg [47]::[(1,aO x.den)],.mk 7 [] [zNd x.num,nmN (aO x.den)],s+(kz+kd)+1,?_,PW.frac _ _,FW.z _ _,?_,by omega,fun nm=>?_,.inl (show (7:Int)≤8 by decide)⟩
  ·rw[e];exact LV.mid (LV.zS (by omega)) dU.2.1 (LV.num (nL (by omega)))
  ·refine lI (d:=1) fun k hk=>?_
   rcases List.mem_cons.1 hk with rfl|hk
   ·exact amL _
   ·rw[List.mem_singleton]at hk;subst hk;rw[xA];omega
  ·exact EX.opr hB0 (n:= .mk 7 [] [zNd x.num,nmN (aO x.den)]) ⟨fun h=>by have h':(7:Int)=1:=h;omega,fun h=>by have h':(7:Int)=2:=h;omega,fun h=>by have h':(7:Int)=14:=h;omega⟩ (AL.two (hEz nm) (hEd nm)) (asV (n:= .mk 7 [] [zNd x.num,nmN (aO x.den)]) ⟨show (4:Int)≤7 by decide,show (7:Int)≤12 by decide⟩ cB) hv
end
end
section
instance:Inhabited (WN×Nat):=⟨(([],nmN []),0)⟩
structure RG(B:Nat)(s:List UInt8)(v:Vl)(c d:Nat)(g:WN×Nat):Prop where
 lv:LV s g.1.1
 pw:PW g.1.1 g.1.2
 fw:FW g.1.1
 dp:dep g.1.2≤d
 k:g.2≤c*s.length
 ex:∀nm,EX B nm g.1.2 g.2 v
 op:OP g.1.2
theorem RD.g{B:Nat}{s:List UInt8}{v:Vl}{c d:Nat}(h:RD B s v c d):∃g,RG B s v c d g:=by
 obtain⟨ws,m,k,h1,h2,h3,h4,h5,h6,h7⟩:=h.h;exact⟨((ws,m),k),h1,h2,h3,h4,h5,h6,h7⟩
section
variable{α:Type}{B c d:Nat}{l:List α}{s:α→List UInt8}{v:α→Vl}{g:α→WN×Nat}(h:∀x∈l,RG B (s x) (v x) c d (g x))
include h
theorem RG.al(nm:Nms)(hl:l.length≤100000):AL B nm (l.map fun x=>(g x).1.2) ((l.map fun x=>(g x).2).sum) (l.map v):=by
 refine anc B nm _ _ _ (by rw[zq5,zq5]) (by rw[zq5,zq5]) (by rw[zq5];exact hl) fun i n k w h1 h2 h3=>?_
 rw[List.getElem?_map]at h1 h2 h3
 cases hx:l[i]? with
 |none=>rw[hx]at h1;cases h1
 |some x=>
  rw[hx]at h1 h2 h3;cases h1;cases h2;cases h3;exact(h x (zq4 hx)).ex nm
theorem RG.sum:(l.map fun x=>(g x).2).sum≤c*(l.map fun x=>(s x).length).sum:=by
 induction l with
 |nil=>exact Nat.zero_le _
 |cons x l ih=>
  rw[List.map_cons,List.map_cons,List.sum_cons,List.sum_cons,Nat.mul_add];have h1:=(h x List.mem_cons_self).k;have h2:=ih fun y hy=>h y (List.mem_cons_of_mem _ hy)
  omega
theorem RG.jn:LV (jn 44 (l.map s)) (jW (l.map fun x=>(g x).1)):=by
 have:=LV.jn dU.2.2.1 (l.map fun x=>(s x,(g x).1.1)) (fun y hy=>by
  obtain⟨x,hx,rfl⟩:=List.mem_map.1 hy;exact(h x hx).lv)
 rw[List.map_map,List.map_map]at this;show LV _ (abp _ ((l.map fun x=>(g x).1).map (·.1)))
 rw[List.map_map];exact this
end
theorem arf:tx 2 jF=true:=by
 have h:=nu.2.1;have h2:ownB jF=false:=by rfl
 unfold tx gF;rw[h2];simp[h]
theorem aqg:tx 2 kQ=true:=by
 have h:=nu.1;have h2:ownB kQ=false:=by rfl
 unfold tx gF;rw[h2];simp[h]
theorem at5:tx 2 iC=true:=by
 have h:=nu.2.2;have h2:ownB iC=false:=by rfl
 unfold tx gF;rw[h2];simp[h]
theorem afI{α β:Type}(f:α→β)(c:Nat):∀(r:Nat) (l:List α),chk c r (l.map f)=(chk c r l).map (List.map f)
 |0,_=>rfl
 |r+1,l=>by
  show (l.map f).take c::chk c r ((l.map f).drop c)=(l.take c).map f::(chk c r (l.drop c)).map (List.map f);rw[←List.map_take,←List.map_drop,afI f c r]
theorem lS{α:Type}(c:Nat):∀(r:Nat) (l:List α),(chk c r l).length=r
 |0,_=>rfl
 |r+1,l=>by
  show (l.take c::chk c r (l.drop c)).length=_;rw[List.length_cons,lS c r]
theorem adh{α:Type}{c:Nat}:∀{r i:Nat} {l:List α},i < r→(chk c r l)[i]? =some ((l.drop (i*c)).take c)
 |0,i,l,h=>absurd h (Nat.not_lt_zero _)
 |r+1,0,l,h=>by
  show (l.take c::chk c r (l.drop c))[0]? =_;rw[Nat.zero_mul];rfl
 |r+1,i+1,l,h=>by
  show (l.take c::chk c r (l.drop c))[i+1]? =_;rw[List.getElem?_cons_succ,adh (by omega),List.drop_drop]
  congr 3
  rw[Nat.succ_mul];omega
theorem agc{α:Type}{c:Nat}:∀{r:Nat} {l row:List α} {x:α},row∈chk c r l→x∈row→x∈l
 |0,l,row,x,h,_=>by cases h
 |r+1,l,row,x,h,hx=>by
  rcases List.mem_cons.1 h with rfl|h
  ·exact List.mem_of_mem_take hx
  ·exact List.mem_of_mem_drop (agc h hx)
theorem aqO{α:Type}{c r:Nat}{l row:List α}(hl:l.length=r*c)(h:row∈chk c r l):row.length=c:=by
 obtain⟨i,hi⟩:=List.mem_iff_getElem?.1 h;have hir:i < r:=by have:=kI hi;rwa [lS]at this
 rw[adh hir]at hi;cases hi;rw[List.length_take,List.length_drop];have:=Nat.mul_le_mul_right c (show i+1≤r by omega)
 rw[Nat.succ_mul]at this;omega
attribute [local irreducible] bT bX bY dw bZ qv dR mf PrP qOk zOk vP dQ lz vF cq rqv eY bW dL dh gD sq aO qS zS tS mdS zmd eO iJ nmC qB
section
variable{B K:Nat}(hB:64000≤B)(hB0:B≤1000000000)(h1:1≤K)(hK:K≤90)
include hB hB0 h1 hK
theorem RD.pol{zs:List Int}(hz:∀z∈zs,z.natAbs < WB ^ K)(hl:zs.length≤10000)(hn:pN zs)(ht:(plS (zs.map zS)).length≤100000):RD B (plS (zs.map zS)) (iO zs) 5 2:=by
 obtain⟨g,hg⟩:=uR (P:=fun z gz=>RG B (zS z) (vI z) 3 1 gz) (l:=zs) (fun z hz'=>(RD.int hB hB0 h1 hK (hz z hz')).g)
 obtain⟨s,hs,hv⟩:=VI.of (B:=B) (Cv.one (n:=0) (.pol zs hl hn hz)) (by omega) (by omega) (by rw[wO];exact ht) hB
 rw[wO]at hs;have hsum:=RG.sum hg;have hlen:(plS (zs.map zS)).length=6+(jn 44 (zs.map zS)).length:=by
  unfold plS;rw[List.length_append,List.length_append];have e1:([112,111,108,121,40]:List UInt8).length=5:=rfl;have e2:([41]:List UInt8).length=1:=rfl;omega
 have hj:=rR 44 (zs.map zS);rw[List.map_map]at hj;have hj2:(zs.map (List.length ∘ zS)).sum=(zs.map fun z=>(zS z).length).sum:=rfl
 refine⟨(2,jF)::sg [40]::(jW (zs.map fun z=>(g z).1)++[sg [41]]),.mk 13 jF (kN (zs.map fun z=>(g z).1)),s+(zs.map fun z=>(g z).2).sum+1,?_,?_,FW.poly _,?_,by omega,fun nm=>?_,.inr (show (13:Int)≤13 by decide)⟩
 ·unfold plS;exact LV.nam (w:=jF) nu.2.1 dU.2.2.2.2.2.2.1 (LV.end (RG.jn hg) dU.2.2.2.2.2.2.2.1)
 ·refine PW.call arf fun k hk=>?_
  obtain⟨z,hz',rfl⟩:=List.mem_map.1 hk;exact⟨(hg z hz').pw,(hg z hz').fw.1⟩
 ·refine lI (d:=1) fun k hk=>?_
  obtain⟨w,hw,rfl⟩:=List.mem_map.1 hk;obtain⟨z,hz',rfl⟩:=List.mem_map.1 hw;exact(hg z hz').dp
 ·have hA:=RG.al hg nm (by omega)
  have e:kN (zs.map fun z=>(g z).1)=zs.map fun z=>(g z).1.2:=List.map_map ..
  rw[e];exact EX.opr hB0 (n:= .mk 13 jF (zs.map fun z=>(g z).1.2)) ⟨fun h=>by have h':(13:Int)=1:=h;omega,fun h=>by have h':(13:Int)=2:=h;omega,fun h=>by have h':(13:Int)=14:=h;omega⟩ hA (yO (n:= .mk 13 jF (zs.map fun z=>(g z).1.2)) rfl (ab6 hz h1 (by omega) hl hn)) hv
end
end
section
theorem RD.mono{B:Nat}{s:List UInt8}{v:Vl}{c d c' d':Nat}(h:RD B s v c d)(hc:c≤c')(hd:d≤d'):RD B s v c' d':=by
 obtain⟨ws,m,k,h1,h2,h3,h4,h5,h6,h7⟩:=h.h;exact⟨ws,m,k,h1,h2,h3,by omega,Nat.le_trans h5 (Nat.mul_le_mul_right _ hc),h6,h7⟩
theorem apV{α:Type}{c:Nat}{f:α→Nat}(l:List α):(l.map fun x=>c*f x).sum=c*(l.map f).sum:=by
 induction l with
 |nil=>rfl
 |cons x l ih=>rw[List.map_cons,List.map_cons,List.sum_cons,List.sum_cons,ih,Nat.mul_add]
attribute [local irreducible] bT bX bY dw bZ qv dR mf PrP qOk zOk vP dQ lz vF cq rqv eY bW dL dh gD sq aO qS zS tS zmd eO iJ nmC qB
section
variable{B K:Nat}(hB:64000≤B)(hB0:B≤1000000000)(h1:1≤K)(hK:K≤90)
include hB hB0 h1 hK
theorem RD.zero{r c:Nat}(hr:r≤64)(hc:c≤64)(h0:r=0∨c=0):RD B (tbS r c []) (eF r c []) 6 4:=by
 have hw:64 < WB ^ K:=by
  have:=Nat.pow_le_pow_right aW h1;rw[Nat.pow_one]at this;have e:=bB;omega
 have hr':r < WB ^ K:=by omega
 have hc':c < WB ^ K:=by omega
 obtain⟨kr,hkr,hEr⟩:=zI hB hB0 h1 hK hr';obtain⟨kc,hkc,hEc⟩:=zI hB hB0 h1 hK hc';have dr:=iH hr';have dc:=iH hc';have hrc:r*c=0:=by rcases h0 with rfl|rfl <;> simp
 have e0:tbS r c []=[122,101,114,111,40]++(aO r++([44,32]++(aO c++[41]))):=by unfold tbS;rw[if_pos h0]
 have hlen:(tbS r c []).length=8+(aO r).length+(aO c).length:=by
  rw[e0,List.length_append,List.length_append,List.length_append,List.length_append];have a1:([122,101,114,111,40]:List UInt8).length=5:=rfl;have a2:([44,32]:List UInt8).length=2:=rfl;have a3:([41]:List UInt8).length=1:=rfl;omega
 obtain⟨s,hs,hv⟩:=VI.of (B:=B) (Cv.one (n:=0) (.mat r c [] (by rw[hrc];rfl) hr hc (fun v h=>by cases h):Sh K _)) (by omega) (by omega) (by rw[mY];show (tbS r c []).length≤_;omega) hB
 rw[mY]at hs;have hs':s≤(tbS r c []).length:=hs;have ez:kH c (fun _ _=>0) r=[]:=List.length_eq_zero_iff.1 (by rw[vE];exact hrc)
 have cC:=abw hr hc;rw[ez]at cC;refine⟨(2,kQ)::sg [40]::(jW [([(1,aO r)],nmN (aO r)),([(1,aO c)],nmN (aO c))]++[sg [41]]),.mk 13 kQ [nmN (aO r),nmN (aO c)],s+(kr+kc)+1,?_,?_,FW.zero _,?_,by omega,fun nm=>?_,.inr (show (13:Int)≤13 by decide)⟩
 ·rw[e0];exact LV.nam (w:=kQ) nu.1 dU.2.2.2.2.2.2.1 (LV.midB (LV.num (nL (by omega))) dU.2.2.1 (LV.end (LV.num (nL (by omega))) dU.2.2.2.2.2.2.2.1))
 ·refine PW.call aqg (ks:=[([(1,aO r)],nmN (aO r)),([(1,aO c)],nmN (aO c))]) fun k hk=>?_
  rcases List.mem_cons.1 hk with rfl|hk
  ·exact⟨PW.num _,(FW.num _ _).1⟩
  ·rw[List.mem_singleton]at hk;subst hk;exact⟨PW.num _,(FW.num _ _).1⟩
 ·refine Nat.le_trans (lI (d:=0) fun k hk=>?_) (by decide)
  rcases List.mem_cons.1 hk with rfl|hk
  ·rw[xA];exact Nat.le_refl 0
  ·rw[List.mem_singleton]at hk;subst hk;rw[xA];exact Nat.le_refl 0
 ·exact EX.opr hB0 (n:= .mk 13 kQ [nmN (aO r),nmN (aO c)]) ⟨fun h=>by have h':(13:Int)=1:=h;omega,fun h=>by have h':(13:Int)=2:=h;omega,fun h=>by have h':(13:Int)=14:=h;omega⟩ (AL.two (hEr nm) (hEc nm)) (yO (n:= .mk 13 kQ [nmN (aO r),nmN (aO c)]) rfl cC) hv
theorem RD.mat{r c:Nat}{vs:List Rat}(hvl:vs.length=r*c)(hr:r≤64)(hc:c≤64)(h:∀v∈vs,RB v K)(ht:(tbS r c (vs.map qS)).length≤100000):RD B (tbS r c (vs.map qS)) (eF r c vs) 6 4:=by
 by_cases h0:r=0∨c=0
 ·have hrc:r*c=0:=by rcases h0 with rfl|rfl <;> simp
  obtain rfl:vs=[]:=List.length_eq_zero_iff.1 (by omega)
  exact RD.zero hB hB0 h1 hK hr hc h0
 ·obtain⟨g,hg⟩:=uR (P:=fun x gx=>RG B (qS x) (fJ x) 4 2 gx) (l:=vs) (fun x hx=>(RD.q hB hB0 h1 hK (h x hx)).g)
  have hr1:1≤r:=by omega
  have hc1:1≤c:=by omega
  obtain⟨s,hs,hv⟩:=VI.of (B:=B) (Cv.one (n:=0) (.mat r c vs hvl hr hc h)) (by omega) (by omega) (by rw[mY];exact ht) hB
  rw[mY]at hs;have erows:(chk c r (vs.map qS)).map (jn 44)=(chk c r vs).map fun row=>jn 44 (row.map qS):=by rw[afI,List.map_map];rfl
  have e0:tbS r c (vs.map qS)=91::(jn 59 ((chk c r vs).map fun row=>jn 44 (row.map qS))++[93]):=by unfold tbS;rw[if_neg h0,erows]
  generalize hJ:jn 59 ((chk c r vs).map fun row=>jn 44 (row.map qS))=J at e0
  have hlen:(tbS r c (vs.map qS)).length=J.length+2:=by rw[e0,List.length_cons,List.length_append];rfl
  have hJ1:=rR 59 ((chk c r vs).map fun row=>jn 44 (row.map qS))
  rw[hJ,List.map_map]at hJ1;have hgr:∀row∈chk c r vs,∀x∈row,RG B (qS x) (fJ x) 4 2 (g x):=fun row hrow x hx=>hg x (agc hrow hx)
  have hks:((chk c r vs).map fun row=>(row.map fun x=>(g x).2).sum).sum≤4*J.length:=by
   have h2:=om (f:=fun row:List Rat=>(row.map fun x=>(g x).2).sum) (g:=fun row=>4*(jn 44 (row.map qS)).length) (l:=chk c r vs) (fun row hrow=>by
    have a1:=RG.sum (hgr row hrow);have a2:=rR 44 (row.map qS);rw[List.map_map]at a2;have a3:(row.map (List.length ∘ qS)).sum=(row.map fun x=>(qS x).length).sum:=rfl
    omega)
   rw[apV]at h2;have h3:((chk c r vs).map (List.length ∘ fun row=>jn 44 (row.map qS))).sum=((chk c r vs).map fun row=>(jn 44 (row.map qS)).length).sum:=rfl
   omega
  have hrJ:r≤J.length:=by
   have a1:=ahi (r:=r) (c:=c) (l:=vs.map qS) (by rw[zq5];exact hvl) (afl qS_1)
   rw[erows,List.map_map]at a1;have a2:=Nat.mul_le_mul_left r hc1;omega
  have erow:∀row:List Rat,kN (row.map fun x=>(g x).1)=row.map fun x=>(g x).1.2:=fun row=>List.map_map ..
  have hrne:∀row∈chk c r vs,row.length=c:=fun row hrow=>aqO hvl hrow
  refine⟨sg [91]::(jM ((chk c r vs).map fun row=>row.map fun x=>(g x).1)++[sg [93]]),.mk 14 [] (kM ((chk c r vs).map fun row=>row.map fun x=>(g x).1)),s+(((chk c r vs).map fun row=>(row.map fun x=>(g x).2).sum).sum+(kM ((chk c r vs).map fun row=>row.map fun x=>(g x).1)).length)+1,?_,?_,FW.mat _,?_,?_,fun nm=>?_,.inr (show (13:Int)≤14 by decide)⟩
  ·rw[e0,←hJ];have a1:=LV.jn (c:=59) dU.2.2.2.1 ((chk c r vs).map fun row=>(jn 44 (row.map qS),jW (row.map fun x=>(g x).1))) (fun y hy=>by
    obtain⟨row,hrow,rfl⟩:=List.mem_map.1 hy;exact RG.jn (hgr row hrow))
   rw[List.map_map,List.map_map]at a1;have a2:jM ((chk c r vs).map fun row=>row.map fun x=>(g x).1)=abp (sg [59]) ((chk c r vs).map (Prod.snd ∘ fun row=>(jn 44 (row.map qS),jW (row.map fun x=>(g x).1)))):=by
    show abp _ _=_;rw[List.map_map];rfl
   rw[a2];exact LV.sg dU.2.2.2.2.1 (LV.end a1 dU.2.2.2.2.2.1)
  ·refine PW.mat (fun e=>?_) (fun x hx=>?_) (fun x hx k hk=>?_)
   ·have:=congrArg List.length e;rw[zq5,lS,List.length_nil]at this;omega
   ·obtain⟨row,hrow,rfl⟩:=List.mem_map.1 hx;intro e;have:=congrArg List.length e;rw[zq5,hrne row hrow,List.length_nil]at this;omega
   ·obtain⟨row,hrow,rfl⟩:=List.mem_map.1 hx;obtain⟨y,hy,rfl⟩:=List.mem_map.1 hk;exact(hgr row hrow y hy).pw
  ·refine lI (d:=3) fun n hn=>?_
   obtain⟨x,hx,rfl⟩:=List.mem_map.1 hn;obtain⟨row,hrow,rfl⟩:=List.mem_map.1 hx;refine lI (d:=2) fun k hk=>?_
   rw[erow]at hk;obtain⟨y,hy,rfl⟩:=List.mem_map.1 hk;exact(hgr row hrow y hy).dp
  ·rw[zq5,zq5,lS];omega
  ·have cM:=ab4 (L:=(chk c r vs).map fun row=>row.map fJ) (r:=r) (c:=c) (K:=K) (vs:=vs) (by rw[zq5,lS]) (fun i R hR=>by
    rw[List.getElem?_map]at hR
    have hir:i < r:=by
     cases hx:(chk c r vs)[i]? with
     |none=>rw[hx]at hR;cases hR
     |some y=>have:=kI hx;rwa [lS]at this
    rw[adh hir]at hR;have hR':=Option.some.inj hR;subst hR';have hlt:=Nat.mul_le_mul_right c (show i+1≤r by omega)
    rw[Nat.succ_mul]at hlt;refine⟨by rw[zq5,List.length_take,List.length_drop];omega,fun k hk=>⟨vs[i*c+k]'(by omega),zq2 _,?_⟩⟩
    rw[List.getElem?_map,List.getElem?_take_of_lt hk,List.getElem?_drop,zq2 (by omega)];rfl) hvl hr1 hr hc h (by omega)
   refine EX.mat hB0 (n:= .mk 14 [] (kM ((chk c r vs).map fun row=>row.map fun x=>(g x).1))) rfl (fun F u la tx hF=>?_) hv
   refine asN _ ((chk c r vs).map fun row=>(row.map fun x=>(g x).2).sum) _ (by show ((chk c r vs).map _).length=(kM _).length;rw[zq5,zq5,zq5]) (by show _=(kM _).length;rw[zq5,zq5,zq5]) (by show (kM _).length≤_;rw[zq5,zq5,lS];omega) (fun i n k ws hn hk hw=>?_) cM F u la tx hF
   have hn':(kM ((chk c r vs).map fun row=>row.map fun x=>(g x).1))[i]? =some n:=hn
   rw[List.getElem?_map,List.getElem?_map]at hn'
   rw[List.getElem?_map]at hk hw
   cases hx:(chk c r vs)[i]? with
   |none=>rw[hx]at hk;cases hk
   |some row=>
    rw[hx]at hn' hk hw;cases hn';cases hk;cases hw;have hrow:=zq4 hx;show AL B nm (kN (row.map fun x=>(g x).1)) _ _
    rw[erow];exact RG.al (hgr row hrow) nm (by rw[hrne row hrow];omega)
end
end
end
end Go.Proofs.YtegehclknhmkgaaGreatDoor