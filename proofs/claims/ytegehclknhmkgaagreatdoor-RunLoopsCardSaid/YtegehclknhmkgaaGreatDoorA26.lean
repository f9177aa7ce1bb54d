import Derived.Test.YtegehclknhmkgaaGreatDoorA24
import Derived.Test.YtegehclknhmkgaaGreatDoorA17
import Derived.Test.YtegehclknhmkgaaGreatDoorA29
import Derived.Test.YtegehclknhmkgaaGreatDoorA25
import Derived.Test.YtegehclknhmkgaaGreatDoorA22
import Derived.Test.YtegehclknhmkgaaGreatDoorA21
set_option linter.unusedVariables false
set_option linter.unusedSimpArgs false
namespace Go.Proofs.YtegehclknhmkgaaGreatDoor
open Go.RowKit QM SX LA
section
attribute [local irreducible] dz bU bV dA bT qv dN mf PrP qOk zOk vP dZ lz vF cq rqv fT dJ eD bX gD jn sq aO qS zS tS tbS plS mdS zmd
theorem aaP:zx.length < 4294967281:=by have e:zx.length=226:=rfl;omega
theorem amt:PureOK Tryz.prog 177 [.v (str zx),.v (str (([32]++kH)++[32]))] (.v (.bool true)):=jS aaP (by kernel_rfl)
theorem amF:PureOK Tryz.prog 177 [.v (str kH),.v (str [32])] (.v (.bool false)):=jS (by decide) (by kernel_rfl)
theorem zn{z:Int}{K:Nat}(h:z.natAbs < WB ^ K)(h1:1≤K)(hK:K≤100000):PureOK Tryz.prog 32 [.agg (vlA (vI z))] (.v (.bool true)):=
 (Cv.one (n:=0) (.num _ (RB.ofI h h1):Sh K (fq (z:Rat)))).F hK (by decide)
theorem zX{r c:Nat}(hr:r≤64)(hc:c≤64):PureOK Tryz.prog 229 [.v (str kH),.r (aF 15 vlE [vI r,vI c])] (.tup [.agg (vlA (iI r c ((ku c (fun _ _=>0) r).map fun z:Int=>(z:Rat)))),eNo 0]):=by
 refine acJ (n0:=0) (by decide) (by decide) (Nat.le_of_ble_eq_true rfl) (fun v hv=>?_) amt amF (fun k f hk _=>absurd hk (Nat.not_lt_zero _)) (fun f hf=>?_)
 ·rcases List.mem_cons.1 hv with rfl|hv
  ·exact zn (xq hr) (Nat.le_refl 1) (by decide)
  ·rw[List.mem_singleton]at hv;subst hv;exact zn (xq hc) (Nat.le_refl 1) (by decide)
 ·cases hf;exact xQ hr hc
end
section
section
def qdn(x d:Rat):Nat→Rat
 |0=>x
 |k+1=>qdn x d k / d
theorem al7{x d:Rat}{K L:Nat}(hx:RB x K)(hd:RB d L)(h0:d≠0):∀k,RB (qdn x d k) (K+k*L)
 |0=>by rw[Nat.zero_mul];exact hx
 |k+1=>by
  have:=(al7 hx hd h0 k).div hd h0;rw[show K+(k+1)*L=K+k*L+L by rw[Nat.succ_mul];omega]
  exact this
def aft(n:Nat)(zs:List Int):Int:=ahX (zgM (zat zs n) n n) n
def abk(n:Nat)(vs:List Rat):Rat:=qdn ((aft n (mU vs):Int):Rat) (((gY vs:Nat):Int):Rat) n
abbrev nTra:List UInt8:=[116,114,97,110,115,112,111,115,101]
abbrev mE:List UInt8:=[100,101,116]
abbrev nInv:List UInt8:=[105,110,118]
abbrev nRnk:List UInt8:=[114,97,110,107]
abbrev anZ:List Atom:=[.c (.val (.int .i64 0)),.c (.val (.bool false)),.c (.val (.slice none 0 0)),.c (.val (.bool false)),.c (.val (.slice none 0 0)),.c (.val (.int .i64 0)),.c (.val (.int .i64 0)),.c (.val (.slice none 0 0)),.c (.val (.slice none 0 0)),.c (.val (.int .u64 0)),.c (.val (.int .i64 0)),.c (.val (.int .i64 0)),.c (.val (.slice none 0 0)),.c (.val (.slice none 0 0)),.c (.val (.slice none 0 0)),.c (.val (.int .i64 0)),.c (.val (.bool false))]
attribute [local irreducible] IntKind.wrap Go1 Reg WP aN aQ bM bI aL aC aj ah aT Sat
attribute [local irreducible] dz bU bV dA bT qv dN mf PrP qOk zOk vP dZ lz vF cq rqv fT dJ eD bX gD jn sq aO qS zS tS tbS plS mdS zmd aft qdn
theorem ai7{n K:Nat}{zs:List Int}(hl:zs.length=n*n)(hn:n≤64)(hz:∀z∈zs,z.natAbs < WB ^ K)(hK1:1≤K)(hkz:kz K n≤1000000):
  PureOK Tryz.prog 392 [.agg (xU n n zs)] (.tup [.agg (zN (aft n zs)),eNo 0]):=by
 have hl2:(zs.map z2v).length=n*n:=by rw[List.length_map];exact hl
 have hKK:=agp n K;have cF:PureOK Tryz.prog 365 [.agg (wh n n (aF 2 zC zs))] (.v (.bool true)):=by
  have h:=aeT (cells:=(zs.map z2v).flatMap z2C) (ng.nat hn hn hl2);have e:PureOK Tryz.prog 365 [.agg (acd n n (zs.map z2v))] (.v (.bool true)):=h;rw[←aaE]at e;exact e
 unfold aft;refine alb (x:=aF 2 zC zs) (va:=zat zs n) hn cF (fun i k hi hk=>?_) (fun i k hi hk=>?_) hK1 hkz
 ·have h:=agS (r:=n) (c:=n) (MZ.made hz) hl2 hn hn hi hk (by omega)
  rw[←aaE]at h;exact h
 ·exact hz _ (List.mem_of_getElem? (acr hl hi hk))
theorem amI{n K:Nat}{zs:List Int}(hl:zs.length=n*n)(hz:∀z∈zs,z.natAbs < WB ^ K)(hK1:1≤K):(aft n zs).natAbs < WB ^ kz K n:=by
 unfold aft;exact anj (aeu (fun i k hi hk=>hz _ (List.mem_of_getElem? (acr hl hi hk))) hK1)
theorem wz{n K:Nat}{vs:List Rat}(hl:vs.length=n*n)(hn:n≤64)(hv:∀v∈vs,RB v K)(hK1:1≤K)(hB0:1+(n*n+1)*K≤50000)(hkz:kz (K+(1+vs.length*K)) n≤10000)(hnk:n*(1+vs.length*K)≤10000):
  PureOK Tryz.prog 301 [.agg (aad n n ((vs.map cq).map rq))] (.agg (abW (fq (abk n vs)) 0 true)):=by
 have cC:=ai2 (r:=n) (c:=n) (MV.cq hv) (by rw[List.length_map,List.length_map];exact hl) hn hn hK1 hB0
 have hcz:=amx hv;have hcl:(mU vs).length=n*n:=by unfold mU;rw[List.length_map];exact hl
 have hkk:=agp n (K+(1+vs.length*K));have cD:=ai7 hcl hn hcz (by omega) (by omega)
 have hdl:=amI hcl hcz (by omega)
 have hL:=rA hv vs.length;rw[List.take_length]at hL;have hp:=sH vs;unfold abk;generalize aft n (mU vs)=d at*;generalize gY vs=m at*;generalize mU vs=zs at*;have hm1:((m:Nat):Int).natAbs < WB ^ (1+vs.length*K):=by rw[Int.natAbs_natCast];exact hL
 haveI iD:Bd d (kz (K+(1+vs.length*K)) n):=⟨hdl⟩
 haveI iM:Bd ((m:Nat):Int) (1+vs.length*K):=⟨hm1⟩
 have rd:RB ((d:Int):Rat) (kz (K+(1+vs.length*K)) n):=RB.ofI hdl (by omega)
 have rm:RB (((m:Nat):Int):Rat) (1+vs.length*K):=RB.ofI hm1 (by omega)
 have hm0:(((m:Nat):Int):Rat)≠0:=fun h=>by
  have:((m:Nat):Int)=0:=by exact_mod_cast h
  omega
 have hRB:=al7 rd rm hm0;have cO1:PureOK Tryz.prog 226 [.agg (zN d)] (.agg (qA ((d:Int):Rat))):=pF.h (by omega)
 have cO2:PureOK Tryz.prog 226 [.agg (zN ((m:Nat):Int))] (.agg (qA (((m:Nat):Int):Rat))):=pF.h (by omega)
 generalize ((d:Int):Rat)=x at*;generalize hy:(((m:Nat):Int):Rat)=y at*;have cN:=xK (q:=q4v (qdn x y n)) (hRB n).ra (by
  omega)
 have cf:=ajK (fq (qdn x y n));have e0:qdn x y 0=x:=by unfold qdn;rfl
 have es:∀k,qdn x y (k+1)=qdn x y k / y:=fun k=>by conv=>lhs;unfold qdn
 refine PureOK.fnF Tryz.func301 Tryz.results301 Tryz.ntmps301 rfl rfl rfl (by simp[AV.ids,AV0.ids,Atom.ids]) rfl (fun w0 T B E0 hB=>?_)
 refine SX.goM ?_;refine W.loop (fun k=>k≤n) (fun k=>[(1,.ptr 1 0),(2,.ptr 2 0),(4,.ptr 4 0),(8,.ptr 8 0),(28,.v (.int .i64 (n:Int))),(29,.v (.int .i64 (k:Int)))]) (fun k=>[(1,.box 41 (aad n n ((vs.map cq).map rq))),(2,.box 263 anZ),(4,.box 27 (zN ((m:Nat):Int))),(8,.box 38 (qA (qdn x y k)))]) (fun k=>n - k) 0 (Nat.zero_le _) (fun k hk=>?_)
  (by
   rw[e0];refine SX.St.bG [] (by intro b h;cases h) ?_ ?_ rfl
   ·repeat(first|exact trivial|refine⟨⟨_,rfl,SX.aG.same rfl⟩,?_⟩)
   ·exact⟨SX.ak.same rfl rfl,SX.ak.same rfl rfl,SX.ak.same rfl rfl,SX.ak.same rfl rfl,trivial⟩)
 by_cases h:k < n
 ·have ik:=(hRB k).ra;have iy:=rm.ra;have hkn:=Nat.mul_le_mul_right (1+vs.length*K) (show k+1≤n from h)
  rw[Nat.succ_mul]at hkn;have cQ:PureOK Tryz.prog 340 [.agg (qA (qdn x y k)),.agg (qA y)] (.tup [.agg (qA (qdn x y (k+1))),.one (.c (.val (.bool (decide (y≠0)))))]):=by
   rw[es];exact ac9.h (by omega)
  refine SX.goM ?_;refine W.next (k+1) h (by omega) (by
   refine SX.St.bG [] (by intro b h;cases h) ?_ ?_ rfl
   ·repeat(first|exact trivial|refine⟨⟨_,rfl,SX.aG.same rfl⟩,?_⟩)
   ·exact⟨SX.ak.same rfl rfl,SX.ak.same rfl rfl,SX.ak.same rfl rfl,SX.ak.same rfl rfl,trivial⟩)
 ·obtain rfl:k=n:=by omega
  refine SX.goM ?_;refine zm (aj.sK rfl rfl rfl) ?_;exact AV0.imp.refl _
section
variable{t:List UInt8}{vs:List Vl}(ht:t=nTra∨t=mE∨t=nInv∨t=nRnk)
include ht
theorem ai5:PureOK Tryz.prog 241 [.agg (kF t vs)] (.agg al2):=by
 rcases ht with rfl|rfl|rfl|rfl <;> (
  refine PureOK.fnF Tryz.func241 Tryz.results241 Tryz.ntmps241 rfl rfl rfl (by simp[AV.ids,AV0.ids,Atom.ids]) rfl (fun w0 T B E0 hB=>?_)
  refine SX.goM ?_;exact alx (aj.sK rfl rfl rfl)
 )
theorem ahB:PureOK Tryz.prog 242 [.agg (kF t vs)] (.agg al2):=by
 rcases ht with rfl|rfl|rfl|rfl <;> (
  refine PureOK.fnF Tryz.func242 Tryz.results242 Tryz.ntmps242 rfl rfl rfl (by simp[AV.ids,AV0.ids,Atom.ids]) rfl (fun w0 T B E0 hB=>?_)
  refine SX.goM ?_;exact alx (aj.sK rfl rfl rfl)
 )
theorem acH:PureOK Tryz.prog 243 [.agg (kF t vs)] (.agg al2):=by
 rcases ht with rfl|rfl|rfl|rfl <;> (
  refine PureOK.fnF Tryz.func243 Tryz.results243 Tryz.ntmps243 rfl rfl rfl (by simp[AV.ids,AV0.ids,Atom.ids]) rfl (fun w0 T B E0 hB=>?_)
  refine SX.goM ?_;exact alx (aj.sK rfl rfl rfl)
 )
end
theorem as_x{t:List UInt8}{r c:Nat}{vs:List Rat}:PureOK Tryz.prog 272 [.agg (kF t [iI r c vs]),.v (str t),.v (str [120])] (.v (.bool true)):=by
 have cS:=aen (iI r c vs);rw[decide_eq_true rfl]at cS;exact aiI (so:=[120]) (fun _=>true) rfl (Nat.le_of_ble_eq_true rfl) fun i v hv=>by
  match i,hv with
  |0,hv=>cases hv;exact cS
theorem tu{n:Nat}{vs:List Rat}{r:Vl}(cD:PureOK Tryz.prog 301 [.agg (aad n n ((vs.map cq).map rq))] (.agg (abW r 0 true))):PureOK Tryz.prog 244 [.agg (kF mE [iI n n vs])] (.agg (abW r 0 true)):=by
 have hv:[iI n n vs][0]? =some (iI n n vs):=rfl;have ca:=as_x (t:=mE) (r:=n) (c:=n) (vs:=vs);refine PureOK.fnF Tryz.func244 Tryz.results244 Tryz.ntmps244 rfl rfl rfl (by simp[AV.ids,AV0.ids,Atom.ids]) rfl (fun w0 T B E0 hB=>?_)
 refine SX.goM ?_;refine zm (aj.sK rfl rfl rfl) ?_;exact AV0.imp.refl _
theorem apA:PureOK Tryz.prog 177 [.v (str zx),.v (str (([32]++mE)++[32]))] (.v (.bool true)):=jS aaP (by kernel_rfl)
theorem ap4:PureOK Tryz.prog 177 [.v (str mE),.v (str [32])] (.v (.bool false)):=jS (by decide) (by kernel_rfl)
theorem abu{n K:Nat}{vs:List Rat}(hl:vs.length=n*n)(hn:n≤64)(hv:∀v∈vs,RB v K)(hK1:1≤K)(hKK:K≤10000)(hB0:1+(n*n+1)*K≤50000)(hkz:kz (K+(1+vs.length*K)) n≤10000)(hnk:n*(1+vs.length*K)≤10000):
  PureOK Tryz.prog 229 [.v (str mE),.r (aF 15 vlE [iI n n vs])] (.tup [.agg (vlA (fq (abk n vs))),eNo 0]):=by
 refine acJ (n0:=3) (by decide) (by decide) (Nat.le_of_ble_eq_true rfl) (fun u hu=>?_) apA ap4 (fun k f hk hf=>?_) (fun f hf=>?_)
 ·rw[List.mem_singleton]at hu;subst hu;exact(Cv.one (n:=0) (.mat n n _ (by rw[hl]) hn hn hv:Sh K _)).F (by omega) (by decide)
 ·match k,hk,hf with
  |0,_,hf=>cases hf;exact ai5 (.inr (.inl rfl))
  |1,_,hf=>cases hf;exact ahB (.inr (.inl rfl))
  |2,_,hf=>cases hf;exact acH (.inr (.inl rfl))
 ·cases hf;exact tu (wz hl hn hv hK1 hB0 hkz hnk)
end
section
abbrev vrC(vs:List Vl):List CA:=[.sat (aF 15 vlE vs)]
instance:eB vrC 1:=⟨fun _=>rfl⟩
abbrev rcq(v:Rat):Q4:=rq (cq v)
theorem ao0{c n:Nat}{vs:List Rat}{x:Rat}(hx:vs[n]? =some x):((vs.take n).map rcq).flatMap q4C++q4C (rcq x)=((vs.take (n+1)).map rcq).flatMap q4C:=ahG (enc:=q4C) (f:=rcq) hx
attribute [local irreducible] IntKind.wrap Go1 Reg WP aN aQ bM bI aL aC aj ah aT Sat
attribute [local irreducible] dz bU bV dA bT qv dN mf PrP qOk zOk vP dZ lz vF cq rqv fT dJ eD bX gD jn sq aO qS zS tS tbS plS mdS zmd dF eG nmC
theorem aae{L:List (List Vl)}{r c K:Nat}{vs:List Rat}(hL:L.length=r)(hrow:∀(i:Nat) R,L[i]? =some R→R.length=c∧∀k,k < c→∃x,vs[i*c+k]? =some x∧R[k]? =some (fq x))(hl:vs.length=r*c)(hr1:1≤r)(hr:r≤64)(hc:c≤64)(hb:∀v∈vs,RB v K)(hK:K≤10000):
  PureOK Tryz.prog 227 [.r (aF 1 vrC L)] (.tup [.agg (vlA (iI r c vs)),eNo 0]):=by
 have cM:=zu (r:=r) (c:=c) (MV.cq hb) (by rw[List.length_map,List.length_map];exact hl) hr hc (by omega)
 obtain⟨R0,h0⟩:∃R,L[0]? =some R:=⟨_,List.getElem?_eq_getElem (by omega)⟩
 obtain⟨hR0,_⟩:=hrow 0 R0 h0;subst hL hR0;have e3:(vs.map cq).map rq=vs.map rcq:=List.map_map ..;have e4:(vs.map rcq).length=vs.length:=List.length_map _;have hLc:=Nat.mul_le_mul hr hc;have hd0:decide ((R0.length:Int)≤64)=true:=decide_eq_true (by omega)
 refine PureOK.fnF Tryz.func227 Tryz.results227 Tryz.ntmps227 rfl rfl rfl (by simp[AV.ids,AV0.ids,Atom.ids]) rfl (fun w0 T B E0 hB=>?_)
 refine SX.goM ?_;rw[hd0];refine W.loop (fun i=>i≤L.length) (fun i=>[(2,.ptr 2 0),(4,.ptr 4 0),(5,.v (.bool true)),(25,.r (aF 1 vrC L)),(26,.v (.int .i64 (L.length:Int))),(27,.v (.int .i64 (i:Int)))]) (fun i=>[(2,.box 50 vlZ),(4,.box 41 [.c (.val (.int .i64 (L.length:Int))),.c (.val (.int .i64 (R0.length:Int))),.own 100]),(100,.row 38 4 (i*R0.length) (((vs.take (i*R0.length)).map rcq).flatMap q4C))]) (fun i=>L.length - i) 0 (Nat.zero_le _) (fun i hi=>?_)
  (by
   refine SX.St.bG [(100,none)] (by intro b h;cases h) ?_ ?_ rfl
   ·repeat(first|exact trivial|refine⟨⟨_,rfl,SX.aG.same rfl⟩,?_⟩)
   ·exact⟨SX.ak.same rfl rfl,SX.ak.mK rfl rfl ⟨aA.same rfl,aA.same rfl,aA.nil rfl,trivial⟩,by rw[Nat.zero_mul];exact SX.ak.dL rfl,trivial⟩)
 by_cases h:i < L.length
 ·obtain⟨R,hR⟩:∃R,L[i]? =some R:=⟨_,List.getElem?_eq_getElem h⟩
  obtain⟨hRl,hRv⟩:=hrow i R hR;have hd:decide ((R.length:Int)=(R0.length:Int))=true:=decide_eq_true (by omega)
  have hlen:i*R0.length+R0.length≤4096:=by
   have:=Nat.mul_le_mul_right R0.length (show i+1≤L.length by omega)
   rw[Nat.succ_mul]at this;omega
  refine SX.goM ?_;rw[hd];refine W.loop (fun k=>k≤R.length) (fun k=>[(2,.ptr 2 0),(4,.ptr 4 0),(5,.v (.bool true)),(25,.r (aF 1 vrC L)),(26,.v (.int .i64 (L.length:Int))),(27,.v (.int .i64 (i:Int))),(39,.r (aF 15 vlE R)),(40,.v (.int .i64 (R.length:Int))),(41,.v (.int .i64 (k:Int)))]) (fun k=>[(2,.box 50 vlZ),(4,.box 41 [.c (.val (.int .i64 (L.length:Int))),.c (.val (.int .i64 (R0.length:Int))),.own 100]),(100,.row 38 4 (i*R0.length+k) (((vs.take (i*R0.length+k)).map rcq).flatMap q4C))]) (fun k=>R.length - k) 0 (Nat.zero_le _) (fun k hk=>?_)
   (by
    have e:Ent.row 38 4 (i*R0.length) (((vs.take (i*R0.length)).map rcq).flatMap q4C)=Ent.row 38 4 (i*R0.length+0) (((vs.take (i*R0.length+0)).map rcq).flatMap q4C):=by rw[Nat.add_zero]
    refine SX.St.bG [] (by intro b h;cases h) ?_ ?_ rfl
    ·repeat(first|exact trivial|refine⟨⟨_,rfl,SX.aG.same rfl⟩,?_⟩)
    ·exact⟨SX.ak.same rfl rfl,SX.ak.same rfl rfl,SX.ak.eq rfl e rfl,trivial⟩)
  by_cases h2:k < R.length
  ·obtain⟨x,hx,hv⟩:=hRv k (by omega)
   have e2:=ao0 (c:=R0.length) hx;refine SX.goM ?_;refine W.next (k+1) h2 (by omega) (by
    refine SX.St.bG [(100,some 54)] (by intro b h;cases h) ?_ ?_ rfl
    ·repeat(first|exact trivial|refine⟨⟨_,rfl,SX.aG.same rfl⟩,?_⟩)
    ·exact⟨SX.ak.same rfl rfl,SX.ak.mK rfl rfl ⟨aA.same rfl,aA.same rfl,aA.own rfl,trivial⟩,SX.ak.row rfl rfl (by omega) e2,trivial⟩)
  ·have hkR:k=R0.length:=by omega
   subst hkR;refine SX.goM ?_;refine W.next (i+1) h (by omega) (by
    have e2:Ent.row 38 4 (i*R0.length+R0.length) (((vs.take (i*R0.length+R0.length)).map rcq).flatMap q4C)=Ent.row 38 4 ((i+1)*R0.length) (((vs.take ((i+1)*R0.length)).map rcq).flatMap q4C):=by rw[Nat.succ_mul]
    refine SX.St.bG [] (by intro b h;cases h) ?_ ?_ rfl
    ·repeat(first|exact trivial|refine⟨⟨_,rfl,SX.aG.same rfl⟩,?_⟩)
    ·exact⟨SX.ak.same rfl rfl,SX.ak.same rfl rfl,SX.ak.eq rfl e2 rfl,trivial⟩)
 ·obtain rfl:i=L.length:=by omega
  rw[←hl,List.take_length];rw[e3]at cM;rw[←e4];refine SX.WP.freeze 100 hB rfl ?_;refine SX.goM ?_;exact .ok (aC.mk2 (aj.gK rfl rfl rfl) (aj.tmp rfl))
theorem apB{B:Nat}{nm:Nms}(ns:List Nd)(ks:List Nat)(vss:List (List Vl))(hk:ks.length=ns.length)(hv:vss.length=ns.length)(hl:ns.length≤100000)
  (h:∀(i:Nat) n k vs,ns[i]? =some n→ks[i]? =some k→vss[i]? =some vs→AL B nm n.kids k vs) {v:Vl} (cM:PureOK Tryz.prog 227 [.r (aF 1 vrC vss)] (.tup [.agg (vlA v),eNo 0])) (F:Nat) (u:Bool) (la:Vl) (tx:List UInt8) (hF:F+(ks.sum+ns.length)≤1000000000):
  ah Tryz.prog 189 [.ptr 81 0,.r (aF 3 ndE ns)] (ME (F+(ks.sum+ns.length)) B nm u la tx) ⟨.tup [.agg (vlA v),eNo 0],MO F B nm u la tx⟩:=by
 cases u with
 |false=>
  refine ah.fnM Tryz.func189 Tryz.results189 Tryz.ntmps189 rfl rfl rfl rfl (by first|rfl|(cases u <;> rfl)) (by first|rfl|(cases u <;> rfl)) (by first|rfl|(cases u <;> rfl)) (fun w0 Tw Bw E0 hB=>?_)
  refine SX.goM ?_;refine W.lC (fun k fu=>k≤ns.length∧fu=F+((ks.drop k).sum+(ns.length - k))) (fun k fu=>[(0,.ptr 81 0),(4,.ptr 4 0),(6,.own 100),(9,.r (aF 3 ndE ns)),(10,.v (.int .i64 (ns.length:Int))),(11,.v (.int .i64 (k:Int)))]) (fun k fu=>[(81,MB fu B false la),(82,.abs (gI (nmC nm))),(84,qU tx),(4,.box 50 vlZ),(100,.row 48 1 k ((vss.take k).flatMap vrC))]) (fun k _=>ns.length - k) 0 (F+(ks.sum+ns.length)) ⟨Nat.zero_le _,rfl⟩ (fun k fu ⟨hkn,hfu⟩=>?_)
   (by
    refine SX.St.bG [(100,none)] (by intro b h;exact SX.dw h rfl) ?_ ?_ rfl
    ·repeat(first|exact trivial|refine⟨⟨_,rfl,SX.aG.same rfl⟩,?_⟩|refine⟨⟨_,rfl,SX.aG.nil rfl⟩,?_⟩)
    ·exact⟨SX.ak.same rfl rfl,SX.ak.same rfl rfl,SX.ak.same rfl rfl,SX.ak.same rfl rfl,SX.ak.dL rfl,trivial⟩)
  by_cases hlt:k < ns.length
  ·obtain⟨n,hn⟩:∃n,ns[k]? =some n:=⟨_,List.getElem?_eq_getElem hlt⟩
   obtain⟨c,hc⟩:∃c,ks[k]? =some c:=⟨_,List.getElem?_eq_getElem (by omega)⟩
   obtain⟨vs,hvk⟩:∃vs,vss[k]? =some vs:=⟨_,List.getElem?_eq_getElem (by omega)⟩
   have hsum:(ks.drop k).sum=c+(ks.drop (k+1)).sum:=by
    obtain⟨hk2,e⟩:=List.getElem?_eq_some_iff.1 hc
    rw[List.drop_eq_getElem_cons hk2,e,List.sum_cons]
   have hle:(ks.drop k).sum≤ks.sum:=by
    conv=>rhs;rw[←List.take_append_drop k ks,List.sum_append]
    omega
   obtain⟨f',rfl⟩:∃f',fu=f'+c+1:=⟨F+((ks.drop (k+1)).sum+(ns.length - (k+1))),by omega⟩
   have c1:=lY (f'+c) B nm false la tx (by omega)
   have cE:ah Tryz.prog 190 [.ptr 81 0,.r (aF 3 ndC n.kids)] (ME (f'+c) B nm false la tx) ⟨.r (aF 15 vlE vs),MO f' B nm false la tx⟩:=by rw[show ndC=ndE from funext aD];exact h k n c vs hn hc hvk f' false la tx (by omega)
   have e2:(vss.take k).flatMap vrC++vrC vs=(vss.take (k+1)).flatMap vrC:=by rw[j5 hvk];simp
   refine SX.goM ?_;refine W.kG (k+1) f' ⟨hlt,by omega⟩ (by omega) (by
    refine SX.St.bG [(100,some 29)] (by intro b h;exact SX.dw h rfl) ?_ ?_ rfl
    ·repeat(first|exact trivial|refine⟨⟨_,rfl,SX.aG.same rfl⟩,?_⟩|refine⟨⟨_,rfl,SX.aG.own rfl⟩,?_⟩)
    ·exact⟨SX.ak.same rfl rfl,SX.ak.same rfl rfl,SX.ak.same rfl rfl,SX.ak.same rfl rfl,SX.ak.row rfl rfl rfl e2,trivial⟩)
  ·obtain rfl:k=vss.length:=by omega
   rw[List.drop_of_length_le (by omega),List.sum_nil]at hfu
   obtain rfl:fu=F:=by omega
   rw[List.take_length];refine SX.WP.afG 100 hB rfl rfl rfl rfl ?_;refine SX.goM ?_;exact gG (xs:=[.agg (vlA v),eNo 0]) ⟨aj.gK rfl rfl rfl,aj.tmp rfl,trivial⟩ ⟨rfl,rfl,rfl,trivial⟩
 |true=>
  refine ah.fnM Tryz.func189 Tryz.results189 Tryz.ntmps189 rfl rfl rfl rfl (by first|rfl|(cases u <;> rfl)) (by first|rfl|(cases u <;> rfl)) (by first|rfl|(cases u <;> rfl)) (fun w0 Tw Bw E0 hB=>?_)
  refine SX.goM ?_;refine W.lC (fun k fu=>k≤ns.length∧fu=F+((ks.drop k).sum+(ns.length - k))) (fun k fu=>[(0,.ptr 81 0),(4,.ptr 4 0),(6,.own 100),(9,.r (aF 3 ndE ns)),(10,.v (.int .i64 (ns.length:Int))),(11,.v (.int .i64 (k:Int)))]) (fun k fu=>[(81,MB fu B true la),(82,.abs (gI (nmC nm))),(84,qU tx),(4,.box 50 vlZ),(100,.row 48 1 k ((vss.take k).flatMap vrC))]) (fun k _=>ns.length - k) 0 (F+(ks.sum+ns.length)) ⟨Nat.zero_le _,rfl⟩ (fun k fu ⟨hkn,hfu⟩=>?_)
   (by
    refine SX.St.bG [(100,none)] (by intro b h;exact SX.dw h rfl) ?_ ?_ rfl
    ·repeat(first|exact trivial|refine⟨⟨_,rfl,SX.aG.same rfl⟩,?_⟩|refine⟨⟨_,rfl,SX.aG.nil rfl⟩,?_⟩)
    ·exact⟨SX.ak.same rfl rfl,SX.ak.same rfl rfl,SX.ak.same rfl rfl,SX.ak.same rfl rfl,SX.ak.dL rfl,trivial⟩)
  by_cases hlt:k < ns.length
  ·obtain⟨n,hn⟩:∃n,ns[k]? =some n:=⟨_,List.getElem?_eq_getElem hlt⟩
   obtain⟨c,hc⟩:∃c,ks[k]? =some c:=⟨_,List.getElem?_eq_getElem (by omega)⟩
   obtain⟨vs,hvk⟩:∃vs,vss[k]? =some vs:=⟨_,List.getElem?_eq_getElem (by omega)⟩
   have hsum:(ks.drop k).sum=c+(ks.drop (k+1)).sum:=by
    obtain⟨hk2,e⟩:=List.getElem?_eq_some_iff.1 hc
    rw[List.drop_eq_getElem_cons hk2,e,List.sum_cons]
   have hle:(ks.drop k).sum≤ks.sum:=by
    conv=>rhs;rw[←List.take_append_drop k ks,List.sum_append]
    omega
   obtain⟨f',rfl⟩:∃f',fu=f'+c+1:=⟨F+((ks.drop (k+1)).sum+(ns.length - (k+1))),by omega⟩
   have c1:=lY (f'+c) B nm true la tx (by omega)
   have cE:ah Tryz.prog 190 [.ptr 81 0,.r (aF 3 ndC n.kids)] (ME (f'+c) B nm true la tx) ⟨.r (aF 15 vlE vs),MO f' B nm true la tx⟩:=by rw[show ndC=ndE from funext aD];exact h k n c vs hn hc hvk f' true la tx (by omega)
   have e2:(vss.take k).flatMap vrC++vrC vs=(vss.take (k+1)).flatMap vrC:=by rw[j5 hvk];simp
   refine SX.goM ?_;refine W.kG (k+1) f' ⟨hlt,by omega⟩ (by omega) (by
    refine SX.St.bG [(100,some 29)] (by intro b h;exact SX.dw h rfl) ?_ ?_ rfl
    ·repeat(first|exact trivial|refine⟨⟨_,rfl,SX.aG.same rfl⟩,?_⟩|refine⟨⟨_,rfl,SX.aG.own rfl⟩,?_⟩)
    ·exact⟨SX.ak.same rfl rfl,SX.ak.same rfl rfl,SX.ak.same rfl rfl,SX.ak.same rfl rfl,SX.ak.row rfl rfl rfl e2,trivial⟩)
  ·obtain rfl:k=vss.length:=by omega
   rw[List.drop_of_length_le (by omega),List.sum_nil]at hfu
   obtain rfl:fu=F:=by omega
   rw[List.take_length];refine SX.WP.afG 100 hB rfl rfl rfl rfl ?_;refine SX.goM ?_;exact gG (xs:=[.agg (vlA v),eNo 0]) ⟨aj.gK rfl rfl rfl,aj.tmp rfl,trivial⟩ ⟨rfl,rfl,rfl,trivial⟩
end
section
theorem yF{B:Nat}:∀{l:List Nat} {b:Nat},(∀x∈l,x≤B)→b≤B→l.foldl max b≤B
 |[],b,_,h=>h
 |x::l,b,h,hb=>yF (l:=l) (b:=max b x) (fun y hy=>h y (List.mem_cons_of_mem _ hy)) (by have:=h x List.mem_cons_self;omega)
theorem ad2{α β:Type}[Inhabited β]{l:List α}{P:α→β→Prop}(h:∀x∈l,∃b,P x b):∃g:α→β,∀x∈l,P x (g x):=by
 classical
 exact⟨fun x=>if hx:x∈l then(h x hx).choose else default,fun x hx=>by simp only[dif_pos hx];exact(h x hx).choose_spec⟩
theorem aoV{x K:Nat}(h:x < 2 ^ K):bitLen x≤K:=by
 by_cases h0:x=0
 ·rw[lT.2 h0];omega
 ·have h1:=(bitLen_spec x).2 h0;have h2:2 ^ (bitLen x - 1) < 2 ^ K:=Nat.lt_of_le_of_lt h1 h;have:=(Nat.pow_lt_pow_iff_right (a:=2) (by omega)).1 h2
  omega
theorem pI{x k:Nat}(h:x < WB ^ k):bitLen x≤64*k:=by
 refine aoV (Nat.lt_of_lt_of_le h ?_);rw[jF,←Nat.pow_mul];exact Nat.le_refl _
theorem aeP{x:Rat}{K:Nat}(h:RB x K):qB x≤64*K:=by
 have h1:=pI h.n;have h2:=pI h.d;unfold qB;omega
attribute [local irreducible] IntKind.wrap Go1 Reg WP aN aQ bM bI aL aC aj ah aT Sat
attribute [local irreducible] dz bU bV dA bT qv dN mf PrP qOk zOk vP dZ lz vF cq rqv fT dJ eD bX gD jn sq aO qS zS tS tbS plS mdS zmd dF eG nmC qB
theorem bN0:PureOK Tryz.prog 35 [.r (bC (0:Int).natAbs)] (.v (.int .i64 0)):=by
 haveI:BdN 0 1:=⟨by rw[bY];decide⟩
 exact(uF (a:= .sat (bC 0))).h (by decide)
theorem ahs{r c:Nat}{vs:List Rat}{K:Nat}(h:∀v∈vs,RB v K)(hK:K≤1000)(hl:vs.length≤10000):PureOK Tryz.prog 238 [.agg (vlA (iI r c vs))] (.v (.int .i64 (((vs.map qB).foldl max 0:Nat):Int))):=by
 have cO:=akS 0 (by decide) (by decide)
 have cB:=bN0;have m1:((vs.map cq).map rq).length=vs.length:=aeU vs;have m2:((iI r c vs).a.map rq).length=vs.length:=aeU vs;refine PureOK.fnF Tryz.func238 Tryz.results238 Tryz.ntmps238 rfl rfl rfl (by simp[AV.ids,AV0.ids,Atom.ids]) rfl (fun w0 T B E0 hB=>?_)
 refine SX.goM ?_;refine W.lC (fun k m=>k≤vs.length∧m≤64000∧m=((vs.take k).map qB).foldl max 0) (fun k m=>[(3,.v (.int .i64 (m:Int))),(25,.r (aF 4 q4C (mq vs))),(26,.v (.int .i64 (vs.length:Int))),(27,.v (.int .i64 (k:Int)))]) (fun _ _=>[]) (fun k _=>vs.length - k) 0 0 ⟨Nat.zero_le _,Nat.zero_le _,rfl⟩ (fun k m ⟨hk,hm,hmm⟩=>?_)
  (by
   refine SX.St.bG [] (by intro b h;cases h) ?_ ?_ rfl
   ·repeat(first|exact trivial|refine⟨⟨_,rfl,SX.aG.same rfl⟩,?_⟩|refine⟨⟨_,rfl,SX.aG.int (by omega)⟩,?_⟩)
   ·exact trivial)
 by_cases hk2:k < vs.length
 ·obtain⟨x,hx⟩:∃x,vs[k]? =some x:=⟨_,List.getElem?_eq_getElem hk2⟩
  have hx':(mq vs)[k]? =some (rq (cq x)):=by rw[List.getElem?_map,List.getElem?_map,hx];rfl
  have h':k < (mq vs).length:=by rw[aeU];exact hk2
  have hb:=h x (List.mem_of_getElem? hx);have cx:=aaY (q:=cq x) (by have:=(vZ0.num hb (show K≤100000 by omega)).q.2;dsimp only at this;omega)
  rw[om]at cx;have hq:=aeP hb;have e1:((vs.take (k+1)).map qB).foldl max 0=max m (qB x):=by rw[List.take_add_one,hx,hmm];simp
  refine SX.goM ?_;exact W.kG (k+1) (max m (qB x)) ⟨hk2,by omega,e1.symm⟩ (by omega)
 ·obtain rfl:k=vs.length:=by omega
  rw[List.take_length]at hmm;refine SX.goM ?_;refine iN ?_;rw[←hmm]
theorem ahK{zs:List Int}{K:Nat}(h:∀z∈zs,z.natAbs < WB ^ K)(hK:K≤1000)(hl:zs.length≤10000):PureOK Tryz.prog 238 [.agg (vlA (abV zs))] (.v (.int .i64 (((zs.map fun z=>bitLen z.natAbs).foldl max 0:Nat):Int))):=by
 have cO:=akS 0 (by decide) (by decide)
 have cB:=bN0;have m1:((zs.map cz).map rz).length=zs.length:=aeL zs;have m2:((abV zs).po.map rz).length=zs.length:=aeL zs;refine PureOK.fnF Tryz.func238 Tryz.results238 Tryz.ntmps238 rfl rfl rfl (by simp[AV.ids,AV0.ids,Atom.ids]) rfl (fun w0 T B E0 hB=>?_)
 refine SX.goM ?_;refine W.lC (fun k m=>k≤zs.length∧m≤64000∧m=((zs.take k).map fun z=>bitLen z.natAbs).foldl max 0) (fun k m=>[(3,.v (.int .i64 (m:Int))),(39,.r (aF 2 z2C (mz zs))),(40,.v (.int .i64 (zs.length:Int))),(41,.v (.int .i64 (k:Int)))]) (fun _ _=>[]) (fun k _=>zs.length - k) 0 0 ⟨Nat.zero_le _,Nat.zero_le _,rfl⟩ (fun k m ⟨hk,hm,hmm⟩=>?_)
  (by
   refine SX.St.bG [] (by intro b h;cases h) ?_ ?_ rfl
   ·repeat(first|exact trivial|refine⟨⟨_,rfl,SX.aG.same rfl⟩,?_⟩|refine⟨⟨_,rfl,SX.aG.int (by omega)⟩,?_⟩)
   ·exact trivial)
 by_cases hk2:k < zs.length
 ·obtain⟨z,hz⟩:∃z,zs[k]? =some z:=⟨_,List.getElem?_eq_getElem hk2⟩
  have hz':(mz zs)[k]? =some (rz (cz z)):=by rw[List.getElem?_map,List.getElem?_map,hz];rfl
  have h':k < (mz zs).length:=by rw[aeL];exact hk2
  have hb:=h z (List.mem_of_getElem? hz);have hlen:(cz z).2.length≤K:=nS hb;have cx:PureOK Tryz.prog 147 [.agg [.c (.val (.bool (cz z).1)),.c (.sat (dQ (cz z).2))]] (.v (.int .i64 (bitLen (rzv (cz z)).natAbs:Int))):=(dW (h:=ZI.raw (cz z).1 (cz z).2)).h (by omega)
  rw[uZ]at cx;have hq:=pI hb;have e1:((zs.take (k+1)).map fun z=>bitLen z.natAbs).foldl max 0=max m (bitLen z.natAbs):=by rw[List.take_add_one,hz,hmm];simp
  refine SX.goM ?_;exact W.kG (k+1) (max m (bitLen z.natAbs)) ⟨hk2,by omega,e1.symm⟩ (by omega)
 ·obtain rfl:k=zs.length:=by omega
  rw[List.take_length]at hmm;refine SX.goM ?_;refine iN ?_;rw[←hmm]
theorem ahe(v:Vl)(h:v.k=4∨v.k=5)(hp:v.p < WB):PureOK Tryz.prog 238 [.agg (vlA v)] (.v (.int .i64 (bitLen v.p:Int))):=by
 have cO:=nOf v.p hp;have cB:PureOK Tryz.prog 35 [.r (bC v.p)] (.v (.int .i64 (bitLen v.p:Int))):=by
  haveI:BdN v.p 1:=⟨by rw[Nat.pow_one];exact hp⟩
  exact(uF (a:= .sat (bC v.p))).h (by decide)
 have hk:¬v.k=1∧¬v.k=2∧¬v.k=3∧¬v.k=6:=by omega
 obtain⟨h1,h2,h3,h6⟩:=hk;refine PureOK.fnF Tryz.func238 Tryz.results238 Tryz.ntmps238 rfl rfl rfl (by simp[AV.ids,AV0.ids,Atom.ids]) rfl (fun w0 T B E0 hB=>?_)
 refine SX.goM ?_;exact iN rfl
theorem amq(v:Vl)(g:Vl→Nat)(h:v.k=6)(hp:v.p=0)(hl:v.li.length≤1000000)(hg:∀x∈v.li,g x≤64000)(hx:∀x∈v.li,PureOK Tryz.prog 238 [.agg (vlA x)] (.v (.int .i64 (g x:Int)))):
  PureOK Tryz.prog 238 [.agg (vlA v)] (.v (.int .i64 (((v.li.map g).foldl max 0:Nat):Int))):=by
 have cO:PureOK Tryz.prog 18 [.v (.int .u64 (v.p:Int))] (.r (bC (0:Int).natAbs)):=by rw[hp];exact akS 0 (by decide) (by decide)
 have cB:=bN0;rw[ak1];refine PureOK.fnF Tryz.func238 Tryz.results238 Tryz.ntmps238 rfl rfl rfl (by simp[AV.ids,AV0.ids,Atom.ids]) rfl (fun w0 T B E0 hB=>?_)
 refine SX.goM ?_;refine W.lC (fun k m=>k≤v.li.length∧m≤64000∧m=((v.li.take k).map g).foldl max 0) (fun k m=>[(3,.v (.int .i64 (m:Int))),(53,.r (aF 15 vlE v.li)),(54,.v (.int .i64 (v.li.length:Int))),(55,.v (.int .i64 (k:Int)))]) (fun _ _=>[]) (fun k _=>v.li.length - k) 0 0 ⟨Nat.zero_le _,Nat.zero_le _,rfl⟩ (fun k m ⟨hk,hm,hmm⟩=>?_)
 by_cases hlt:k < v.li.length
 ·obtain⟨x,hx'⟩:∃x,v.li[k]? =some x:=⟨_,List.getElem?_eq_getElem hlt⟩
  have c:=hx x (List.mem_of_getElem? hx');have hgx:=hg x (List.mem_of_getElem? hx');have e1:((v.li.take (k+1)).map g).foldl max 0=max m (g x):=by rw[List.take_add_one,hx',hmm];simp
  refine SX.goM ?_;exact W.kG (k+1) (max m (g x)) ⟨hlt,by omega,e1.symm⟩ (by omega)
 ·obtain rfl:k=v.li.length:=by omega
  rw[List.take_length]at hmm;refine SX.goM ?_;refine iN ?_;rw[←hmm]
theorem apq{v:Vl}{b:Nat}(hF:PureOK Tryz.prog 32 [.agg (vlA v)] (.v (.bool true)))(h:PureOK Tryz.prog 238 [.agg (vlA v)] (.v (.int .i64 (b:Int)))):PureOK Tryz.prog 223 [.agg (vlA v)] (.v (.int .i64 (b:Int))):=by
 refine PureOK.fnF Tryz.func223 Tryz.results223 Tryz.ntmps223 rfl rfl rfl (by simp[AV.ids,AV0.ids,Atom.ids]) rfl (fun w0 T B E0 hB=>?_)
 refine SX.goM ?_;exact iN rfl
end
inductive bg:List UInt8→List Wrd→Prop
 |nil {s:List UInt8} (h:s.drop (gp false s)=[]):bg s []
 |cons {s t:List UInt8} {w:Wrd} {ws:List Wrd} (h:s.drop (gp false s)=w.2++t) (h1:fst (w.2++t)=⟨w.1,w.2,0⟩) (h2:w.1≠0) (h3:w.2≠[]) (k:bg t ws):bg s (w::ws)
theorem bg.W{l s:List UInt8}{ws:List Wrd}(h:bg s ws):∀k,l.drop k=s→(nX l (k+gp false s)).2=none∧(nX l (k+gp false s)).1.map kt=ws:=by
 induction h with
 | @nil s h=>
  intro k hk;have hl:l.length≤k+gp false s:=by
   rw[←hk,List.drop_drop,hk]at h;exact List.drop_eq_nil_iff.1 h
  rw[nX.eq_1,dif_pos hl];exact⟨rfl,rfl⟩
 | @cons s t w ws h h1 h2 h3 _ ih=>
  intro k hk;have hd:l.drop (k+gp false s)=w.2++t:=by rw[←List.drop_drop,hk,h]
  have hd2:l.drop (k+gp false s+w.2.length)=t:=by rw[←List.drop_drop,hd,List.drop_left' rfl]
  have ih:=ih _ hd2;have hw:w.2.length≠0:=by simpa using h3
  have hlen:=congrArg List.length hd;rw[List.length_drop,List.length_append]at hlen;generalize k+gp false s=j at*;have hf:fst (l.drop j)=⟨w.1,w.2,0⟩:=by rw[hd];exact h1
  rw[nX.eq_1,dif_neg (by omega),hf]
  rw[dif_neg (by
   rintro(h4|h4)
   ·exact h2 h4
   ·exact hw h4)]
  show ((nX l (j+w.2.length+gp false (l.drop (j+w.2.length)))).2=none∧(kt ⟨w.1,w.2,j⟩::(nX l (j+w.2.length+gp false (l.drop (j+w.2.length)))).1.map kt)=w::ws);rw[hd2];exact⟨ih.1,by rw[ih.2];rfl⟩
theorem bg.R{l:List UInt8}{ws:List Wrd}(h:bg l ws)(hl:l.length≤20000):∃ts,ach l=(ts,0,0)∧ts.map kt=ws∧ts.all fV=true:=by
 obtain⟨h1,h2⟩:=h.W 0 List.drop_zero;rw[Nat.zero_add]at h1 h2;refine⟨(nX l (gp false l)).1,?_,h2,(afM l _).2.1⟩;unfold ach;rw[if_neg (by omega),h1]
def NW(r:List UInt8):Prop:=r=[]∨∃c m,r=c::m∧wrd c=false
theorem ajV{c:UInt8}{r:List UInt8}(h:srt c≠1)(h2:c.toNat≠35):gp false (c::r)=0:=by
 rw[gp,if_neg h,if_neg h2]
theorem bg.sp{c:UInt8}{r:List UInt8}{ws:List Wrd}(hc:srt c=1)(h:bg r ws):bg (c::r) ws:=by
 have e:(c::r).drop (gp false (c::r))=r.drop (gp false r):=by
  rw[gp,if_pos hc,Nat.add_comm,List.drop_succ_cons]
 cases h with
 |nil h=>exact .nil (by rw[e];exact h)
 |cons h h1 h2 h3 k=>exact .cons (by rw[e];exact h) h1 h2 h3 k
theorem ajx(l r:List UInt8)(h:l.all wrd=true)(hr:NW r):run (l++r)=l.length:=by
 have hr0:r.takeWhile wrd=[]:=by
  rcases hr with rfl|⟨c,m,rfl,hc⟩
  ·rfl
  ·rw[List.takeWhile_cons,hc];rfl
 unfold run;rw[List.takeWhile_append_of_pos (by simpa using h),hr0,List.append_nil]
theorem bg.num{w r:List UInt8}{ws:List Wrd}(hw:num w=true)(hr:NW r)(h:bg r ws):bg (w++r) ((1,w)::ws):=by
 obtain⟨h1,c,m,e,hc⟩:=aay hw;have hg:gp false (w++r)=0:=by
  rw[e,List.cons_append];exact ajV (by omega) (by rw[srt2]at hc;omega)
 refine .cons (by rw[hg];rfl) ?_ (by decide:(1:Int)≠0) (by rw[e];simp) h
 show fst (w++r)=_;unfold fst;rw[ajx w r h1 hr,List.take_left' rfl,if_pos hw]
theorem bg.nam{w r:List UInt8}{ws:List Wrd}(hw:nam w=true)(hr:NW r)(h:bg r ws):bg (w++r) ((2,w)::ws):=by
 obtain⟨h1,c,m,e,hc⟩:=aa9 hw;have hg:gp false (w++r)=0:=by
  rw[e,List.cons_append];exact ajV (by omega) (by rw[srt3]at hc;omega)
 have hn:Go.Proofs.YtegehclknhmkgaaGreatDoor.num w=false:=by
  cases h2:Go.Proofs.YtegehclknhmkgaaGreatDoor.num w with
  |false=>rfl
  |true=>
   obtain⟨_,c',m',e',hc'⟩:=aay h2;rw[e]at e';cases e';omega
 refine .cons (by rw[hg];rfl) ?_ (by decide:(2:Int)≠0) (by rw[e];simp) h
 show fst (w++r)=_;unfold fst;rw[ajx w r h1 hr,List.take_left' rfl,hn,if_neg (by decide),if_pos hw]
def sgc(c:UInt8):Bool:=!wrd c&&sg1 [c]&&!decide (srt c=1)&&!decide (c.toNat=35)&&!decide (c=61)&&!decide (c=33)&&!decide (c=60)&&!decide (c=46)
theorem bg.sg{c:UInt8}{r:List UInt8}{ws:List Wrd}(hc:sgc c=true)(h:bg r ws):bg (c::r) (Go.Proofs.YtegehclknhmkgaaGreatDoor.sg [c]::ws):=by
 unfold sgc at hc;simp only[Bool.and_eq_true,Bool.not_eq_true',decide_eq_false_iff_not]at hc;obtain⟨⟨⟨⟨⟨⟨⟨h1,h2⟩,h3⟩,h4⟩,h5⟩,h6⟩,h7⟩,h8⟩:=hc;refine .cons (w:=Go.Proofs.YtegehclknhmkgaaGreatDoor.sg [c]) (t:=r) (by rw[ajV h3 h4];rfl) ?_ (fun e=>by have e':(3:Int)=0:=e;omega) (fun e=>by cases e) h
 show fst (c::r)=_;have hr:run (c::r)=0:=by unfold run;rw[List.takeWhile_cons,h1];rfl
 have hn:Go.Proofs.YtegehclknhmkgaaGreatDoor.num []=false:=by unfold Go.Proofs.YtegehclknhmkgaaGreatDoor.num;rfl
 have hm:Go.Proofs.YtegehclknhmkgaaGreatDoor.nam []=false:=by unfold Go.Proofs.YtegehclknhmkgaaGreatDoor.nam;rfl
 unfold fst;rw[hr,List.take_zero,hn,if_neg (by decide),hm,if_neg (by decide),if_neg ?_,show (c::r).take 1=[c]from rfl,if_pos h2]
 rintro⟨_,h9⟩;have hh:∀d:UInt8,c≠d→∀e,(c::r).take 2≠[d,e]:=fun d hd e h=>by
  rw[List.take_succ_cons]at h;exact hd (List.cons.inj h).1
 rcases h9 with h9|h9|h9|h9
 ·exact hh _ h5 _ h9
 ·exact hh _ h6 _ h9
 ·exact hh _ h7 _ h9
 ·exact hh _ h8 _ h9
theorem mH{x:Nat}(h:(aO x).length≤2000):num (aO x)=true:=by
 have hk:∀l:List UInt8,l.all isD=true→dgL l=true:=fun l hl=>by
  unfold dgL;rw[List.all_eq_true]at*;intro c hc;have:=hl c hc;unfold isD at this;rw[decide_eq_true_iff,srt2];simpa using this
 unfold num;rw[Bool.and_eq_true,decide_eq_true_iff];unfold aO at h ⊢;by_cases h0:x=0
 ·rw[if_pos h0];exact⟨⟨by decide,by decide,.inl rfl⟩,by unfold dgL;simp only[List.all_cons,List.all_nil,Bool.and_true,decide_eq_true_iff,srt2];decide⟩
 ·rw[if_neg h0]at h ⊢;obtain⟨f1,f2,f3⟩:=vB x;exact⟨⟨(f3 h0).2,h,.inr (f3 h0).1⟩,hk _ f1⟩
def LV(s:List UInt8)(ws:List Wrd):Prop:=∀r rw,NW r→bg r rw→bg (s++r) (ws++rw)
theorem aaf{c:UInt8}{r:List UInt8}(h:wrd c=false):NW (c::r):= .inr ⟨c,r,rfl,h⟩
theorem LV.num{w:List UInt8}(h:num w=true):LV w [(1,w)]:=fun r rw hr h2=>bg.num h hr h2
theorem LV.sg{c:UInt8}{s:List UInt8}{ws:List Wrd}(hc:sgc c=true)(h:LV s ws):LV (c::s) (Go.Proofs.YtegehclknhmkgaaGreatDoor.sg [c]::ws):=fun r rw hr h2=>bg.sg hc (h r rw hr h2)
theorem LV.nil:LV [] []:=fun r rw hr h2=>h2
theorem rV{c:UInt8}(h:sgc c=true):wrd c=false:=by
 unfold sgc at h;simp only[Bool.and_eq_true,Bool.not_eq_true']at h;exact h.1.1.1.1.1.1.1
theorem LV.mid{c:UInt8}{s t:List UInt8}{us ws:List Wrd}(h1:LV s us)(hc:sgc c=true)(h:LV t ws):LV (s++c::t) (us++Go.Proofs.YtegehclknhmkgaaGreatDoor.sg [c]::ws):=fun r rw hr h2=>by
 have h3:=h1 (c::(t++r)) _ (aaf (rV hc)) (bg.sg hc (h r rw hr h2));simpa using h3
theorem LV.midB{c:UInt8}{s t:List UInt8}{us ws:List Wrd}(h1:LV s us)(hc:sgc c=true)(h:LV t ws):LV (s++c::32::t) (us++Go.Proofs.YtegehclknhmkgaaGreatDoor.sg [c]::ws):=fun r rw hr h2=>by
 have h3:=h1 (c::32::(t++r)) _ (aaf (rV hc)) (bg.sg hc (bg.sp (by unfold srt;decide) (h r rw hr h2)))
 simpa using h3
theorem LV.nam{c:UInt8}{w t:List UInt8}{ws:List Wrd}(hw:nam w=true)(hc:sgc c=true)(h:LV t ws):LV (w++c::t) ((2,w)::Go.Proofs.YtegehclknhmkgaaGreatDoor.sg [c]::ws):=fun r rw hr h2=>by
 have h3:=bg.nam hw (aaf (rV hc)) (bg.sg hc (h r rw hr h2));simpa using h3
theorem LV.end{c:UInt8}{s:List UInt8}{us:List Wrd}(h1:LV s us)(hc:sgc c=true):LV (s++[c]) (us++[Go.Proofs.YtegehclknhmkgaaGreatDoor.sg [c]]):=LV.mid h1 hc LV.nil
theorem LV.jn{c:UInt8}(hc:sgc c=true):∀(l:List (List UInt8×List Wrd)),(∀x∈l,LV x.1 x.2)→LV (jn c (l.map (·.1))) (zh (Go.Proofs.YtegehclknhmkgaaGreatDoor.sg [c]) (l.map (·.2)))
 |[],_=>LV.nil
 |[x],h=>h x (List.mem_cons_self ..)
 |x::y::l,h=>LV.midB (h x (List.mem_cons_self ..)) hc (LV.jn hc (y::l) fun z hz=>h z (List.mem_cons_of_mem _ hz))
theorem eP:sgc 45=true∧sgc 47=true∧sgc 44=true∧sgc 59=true∧sgc 91=true∧sgc 93=true∧sgc 40=true∧sgc 41=true∧sgc 123=true∧sgc 125=true:=by
 refine⟨?_,?_,?_,?_,?_,?_,?_,?_,?_,?_⟩ <;> (unfold sgc wrd sg1 srt;decide)
theorem acV:nam [122,101,114,111]=true∧nam [112,111,108,121]=true∧nam [109,111,100]=true:=by
 refine⟨?_,?_,?_⟩ <;> (unfold nam run wrd srt;decide)
theorem LV.zS{z:Int}(h:(aO z.natAbs).length≤2000):LV (zS z) (if z < 0 then [Go.Proofs.YtegehclknhmkgaaGreatDoor.sg [45],(1,aO z.natAbs)]else [(1,aO z.natAbs)]):=by
 unfold Go.Proofs.YtegehclknhmkgaaGreatDoor.zS
 split
 ·exact LV.sg eP.1 (LV.num (mH h))
 ·exact LV.num (mH h)
def PW(ws:List Wrd)(m:Nd):Prop:=∀(l:List Tok) f o r,acv r→(ws++r).length < f→o+2*dep m+1≤600→∀a,rst l a=ws++r→(lev 600 l f).1 a o= .ok m (a+ws.length)
abbrev WN:=List Wrd×Nd
abbrev jW(ks:List WN):List Wrd:=zh (sg [44]) (ks.map (·.1))
abbrev kN(ks:List WN):List Nd:=ks.map (·.2)
abbrev noE:List (List UInt8):=[[91],[94],[42],[47],[43],[45],[61,61],[33,61],[60],[60,61],[40],[44]]
theorem aoY{e:List UInt8}(he:e∉noE)(r:List Wrd):acv (sg e::r):=kS (fun h=>he (List.mem_append_left [[44]] h)) r
theorem acy{l:List Tok}{f o:Nat}{e:List UInt8}(he:e∉noE):∀(ks:List WN) (acc:List Nd) (g a:Nat) (r:List Wrd),ks≠[]→(∀k∈ks,PW k.1 k.2∧o+2*dep k.2+1≤600)→
  (jW ks++sg e::r).length < f→(jW ks++sg e::r).length < g+1→rst l a=jW ks++sg e::r→oN l (lev 600 l f).1 e g acc a o= .ok (.mk 0 [] (acc++kN ks)) (a+(jW ks).length+1)
 |[],_,_,_,_,h,_,_,_,_=>absurd rfl h
 |[k],acc,g,a,r,_,hP,hf,hg,hr=>by
  obtain⟨h1,h2⟩:=hP k (by simp)
  have hj:jW [k]=k.1:=rfl;rw[hj]at hf hg hr ⊢;rw[List.length_append,List.length_cons]at hg;obtain⟨g,rfl⟩:∃k,g=k+1:=⟨g - 1,by omega⟩
  unfold oN;rw[h1 l f o _ (aoY he r) hf h2 a hr];show (if isS l (a+k.1.length) e then _ else _)=_
  rw[aR,gy hr,if_pos (by simp[hS])];rfl
 |k::k2::ks,acc,g,a,r,_,hP,hf,hg,hr=>by
  obtain⟨h1,h2⟩:=hP k (by simp)
  have hj:jW (k::k2::ks)=k.1++sg [44]::jW (k2::ks):=rfl;have hr':rst l a=k.1++sg [44]::(jW (k2::ks)++sg e::r):=by rw[hr,hj];simp
  have hlen:(k.1++sg [44]::(jW (k2::ks)++sg e::r)).length=(jW (k::k2::ks)++sg e::r).length:=by rw[hj];simp
  have hlen2:(jW (k::k2::ks)++sg e::r).length=k.1.length+1+(jW (k2::ks)++sg e::r).length:=by rw[hj];simp;omega
  obtain⟨g,rfl⟩:∃k,g=k+1:=⟨g - 1,by omega⟩
  have he':acv (sg [44]::(jW (k2::ks)++sg e::r)):=kS (by decide) _
  unfold oN;rw[h1 l f o _ he' (by rw[hlen];exact hf) h2 a hr']
  show (if isS l (a+k.1.length) e then _ else if isS l (a+k.1.length) [44]then _ else _)=_
  have hrr:=gy hr';have hne:e≠[44]:=fun h=>he (by rw[h];decide)
  rw[aR,hrr,if_neg (by simp[hS,Ne.symm hne]),aR,hrr,if_pos (by simp[hS])]
  rw[acy he (k2::ks) (acc++[k.2]) g (a+k.1.length+1) r (by simp) (fun x hx=>hP x (by simp at hx ⊢;exact .inr hx)) (by omega) (by omega) (gL hrr)]
  rw[hj];simp;omega
def HD(ws:List Wrd)(e:List UInt8):Prop:=∃w r,ws=w::r∧∀r',hS (w::r') e=false
theorem ai3{l:List Tok}{f o:Nat}{e:List UInt8}(he:e∉noE){ks:List WN}{a:Nat}{r:List Wrd}(hP:∀k∈ks,PW k.1 k.2∧o+2*dep k.2+1≤600∧HD k.1 e)
  (hf:(jW ks++sg e::r).length < f) (hr:rst l a=jW ks++sg e::r):jh l (lev 600 l f).1 e a o= .ok (.mk 0 [] (kN ks)) (a+(jW ks).length+1):=by
 unfold jh;cases ks with
 |nil=>
  have hr:rst l a=sg e::r:=hr;rw[aR,hr,if_pos (by simp[hS])];rfl
 |cons k ks=>
  have hh:∀r',hS (jW (k::ks)++r') e=false:=by
   intro r';obtain⟨w,u,hw,h1⟩:=(hP k (by simp)).2.2
   cases ks with
   |nil=>rw[show jW [k]=k.1 from rfl,hw];exact h1 _
   |cons k2 ks=>rw[show jW (k::k2::ks)=k.1++sg [44]::jW (k2::ks)from rfl,hw];exact h1 _
  have hl:=aco hr (by simp)
  rw[aR,hr,if_neg (by rw[hh];decide),acy he (k::ks) [] (l.length+1) a r (by simp) (fun x hx=>⟨(hP x hx).1,(hP x hx).2.1⟩) hf (by omega) hr];rfl
theorem acj{l:List Tok}{f o:Nat}{e:List UInt8}(he:e=[59]∨e=[93])(rs:List Nd):∀(ks:List WN) (acc:List Nd) (g a:Nat) (r:List Wrd),ks≠[]→(∀k∈ks,PW k.1 k.2∧o+2*dep k.2+1≤600)→
  (jW ks++sg e::r).length < f→(jW ks++sg e::r).length < g+1→rst l a=jW ks++sg e::r→∃g',(sg e::r).length < g'+2∧
  oH l (lev 600 l f).1 g rs acc a o=if e=[59]then oH l (lev 600 l f).1 g' (rs++[.mk 15 [] (acc++kN ks)]) [] (a+(jW ks).length+1) o else .ok (.mk 14 [] (rs++[.mk 15 [] (acc++kN ks)])) (a+(jW ks).length+1)
 |[],_,_,_,_,h,_,_,_,_=>absurd rfl h
 |[k],acc,g,a,r,_,hP,hf,hg,hr=>by
  obtain⟨h1,h2⟩:=hP k (by simp)
  have hj:jW [k]=k.1:=rfl;rw[hj]at hf hg hr ⊢;rw[List.length_append]at hg;have hgl:1≤(sg e::r).length:=by simp
  obtain⟨g,rfl⟩:∃k,g=k+1:=⟨g - 1,by omega⟩
  refine⟨g,by omega,?_⟩
  have he':acv (sg e::r):=kS (by rcases he with rfl|rfl <;> decide) r
  rw[oH]
  dsimp only
  rw[h1 l f o _ he' hf h2 a hr];show (if isS l (a+k.1.length) [44]then _ else if isS l (a+k.1.length) [59]then _ else if isS l (a+k.1.length) [93]then _ else _)=_
  rw[aR,aR,aR,gy hr];rcases he with rfl|rfl
  ·rfl
  ·rfl
 |k::k2::ks,acc,g,a,r,_,hP,hf,hg,hr=>by
  obtain⟨h1,h2⟩:=hP k (by simp)
  have hj:jW (k::k2::ks)=k.1++sg [44]::jW (k2::ks):=rfl;have hr':rst l a=k.1++sg [44]::(jW (k2::ks)++sg e::r):=by rw[hr,hj];simp
  have hlen:(k.1++sg [44]::(jW (k2::ks)++sg e::r)).length=(jW (k::k2::ks)++sg e::r).length:=by rw[hj];simp
  have hlen2:(jW (k::k2::ks)++sg e::r).length=k.1.length+1+(jW (k2::ks)++sg e::r).length:=by rw[hj];simp;omega
  obtain⟨g,rfl⟩:∃k,g=k+1:=⟨g - 1,by omega⟩
  have he':acv (sg [44]::(jW (k2::ks)++sg e::r)):=kS (by decide) _
  have hrr:=gy hr';obtain⟨g',hg',ih⟩:=acj (f:=f) (o:=o) he rs (k2::ks) (acc++[k.2]) g (a+k.1.length+1) r (by simp) (fun x hx=>hP x (by simp at hx ⊢;exact .inr hx)) (by omega) (by omega) (gL hrr)
  refine⟨g',hg',?_⟩;rw[oH]
  dsimp only
  rw[h1 l f o _ he' (by rw[hlen];exact hf) h2 a hr']
  show (if isS l (a+k.1.length) [44]then _ else _)=_
  rw[aR,hrr,if_pos (by rfl),ih]
  have e1:a+k.1.length+1+(jW (k2::ks)).length+1=a+(jW (k::k2::ks)).length+1:=by rw[hj];simp;omega
  rw[e1,List.append_assoc];rfl
abbrev jM(rs:List (List WN)):List Wrd:=zh (sg [59]) (rs.map jW)
abbrev kM(rs:List (List WN)):List Nd:=rs.map fun ks=> .mk 15 [] (kN ks)
theorem af2{l:List Tok}{f o:Nat}:∀(rs:List (List WN)) (acc:List Nd) (g a:Nat) (r:List Wrd),rs≠[]→(∀x∈rs,x≠[])→(∀x∈rs,∀k∈x,PW k.1 k.2∧o+2*dep k.2+1≤600)→
  (jM rs++sg [93]::r).length < f→(jM rs++sg [93]::r).length < g+1→rst l a=jM rs++sg [93]::r→
  oH l (lev 600 l f).1 g acc [] a o= .ok (.mk 14 [] (acc++kM rs)) (a+(jM rs).length+1)
 |[],_,_,_,_,h,_,_,_,_,_=>absurd rfl h
 |[x],acc,g,a,r,_,hx,hP,hf,hg,hr=>by
  have hj:jM [x]=jW x:=rfl;rw[hj]at hf hg hr ⊢;obtain⟨g',_,h1⟩:=acj (f:=f) (o:=o) (.inr rfl) acc x [] g a r (hx x (by simp)) (hP x (by simp)) hf hg hr
  rw[h1,if_neg (by decide)];rfl
 |x::y::rs,acc,g,a,r,_,hx,hP,hf,hg,hr=>by
  have hj:jM (x::y::rs)=jW x++sg [59]::jM (y::rs):=rfl;have hr':rst l a=jW x++sg [59]::(jM (y::rs)++sg [93]::r):=by rw[hr,hj];simp
  have hlen:(jW x++sg [59]::(jM (y::rs)++sg [93]::r)).length=(jM (x::y::rs)++sg [93]::r).length:=by rw[hj];simp
  have hlen2:(jW x++sg [59]::(jM (y::rs)++sg [93]::r)).length=(jW x).length+1+(jM (y::rs)++sg [93]::r).length:=by simp;omega
  obtain⟨g',hg',h1⟩:=acj (f:=f) (o:=o) (.inl rfl) acc x [] g a _ (hx x (by simp)) (hP x (by simp)) (by rw[hlen];exact hf) (by rw[hlen];exact hg) hr'
  rw[List.length_cons]at hg';rw[h1,if_pos rfl,List.nil_append,af2 (f:=f) (o:=o) (y::rs) (acc++[Nd.mk 15 [] (kN x)]) g' (a+(jW x).length+1) r (by simp) (fun z hz=>hx z (by simp at hz ⊢;exact .inr hz)) (fun z hz=>hP z (by simp at hz ⊢;exact .inr hz)) (by omega) (by omega) (gL (gy hr'))]
  rw[hj];simp;omega
theorem PW.prim{w:Wrd}{u:List Wrd}{m:Nd}(hh:∀r,hS (w::r) [45]=false)
  (h:∀(l:List Tok) f o r,hS r [40]=false→(w::(u++r)).length < f+1→o+2*dep m+1≤600→∀a,rst l a=w::(u++r)→lU 600 l (lev 600 l f).1 a o= .ok m (a+(u.length+1))):PW (w::u) m:=fun l f o r hr hf ho a ha=>by
 have hpos:1≤(w::u++r).length:=by simp
 obtain⟨f,rfl⟩:∃k,f=k+1:=⟨f - 1,by omega⟩
 show wB l (unG 600 l (lev 600 l f).1 (lev 600 l f).2) a o=_;have hend:=gy ha;have hp:=h l f o r (hr [40] (by decide)) (by simpa using hf) ho a (by simpa using ha)
 have hlen:(w::u).length=u.length+1:=rfl;rw[hlen]at hend ⊢;exact abn (qO (qO (rQ hp (by rw[ha];exact hh _) (by rw[hend];exact hr _ (by decide)) (by rw[hend];exact hr _ (by decide))) (by rw[hend];exact hr _ (by decide)) (by rw[hend];exact hr _ (by decide))) (by rw[hend];exact hr _ (by decide)) (by rw[hend];exact hr _ (by decide))) (by rw[hend];exact hr _ (by decide)) (by rw[hend];exact hr _ (by decide)) (by rw[hend];exact hr _ (by decide)) (by rw[hend];exact hr _ (by decide))
abbrev nmN(t:List UInt8):Nd:= .mk 1 t []
theorem PW.num(t:List UInt8):PW [(1,t)] (nmN t):=PW.prim (w:=(1,t)) (u:=[]) (fun r=>rfl) fun l f o r _ _ _ a ha=>by
 rw[lK (w:=(1,t)) (r:=r) ha,if_pos rfl];rfl
theorem PW.call{t:List UInt8}(ht:tx 2 t=true){ks:List WN}(hk:∀k∈ks,PW k.1 k.2∧HD k.1 [41]):PW ((2,t)::sg [40]::(jW ks++[sg [41]])) (.mk 13 t (kN ks)):=
 PW.prim (w:=(2,t)) (u:=sg [40]::(jW ks++[sg [41]])) (fun r=>by
  show (!decide ((2:Int)=1)&&decide (t=[45]))=false;simp[aiH ht (c:=45) (m:=[]) (by decide)]) fun l f o r hr hf ho a h=>by
 have h:rst l a=(2,t)::sg [40]::(jW ks++sg [41]::r):=by rw[h];simp
 have hf:((2,t)::sg [40]::(jW ks++sg [41]::r)).length < f+1:=by simpa using hf
 rw[lK h,if_neg (show¬(2:Int)=1 by decide),qJ ht,if_pos rfl,if_pos (by rfl)]
 have hL:=ai3 (l:=l) (f:=f) (o:=o+1) (e:=[41]) (by decide) (ks:=ks) (a:=a+2) (r:=r) (fun k hkm=>⟨(hk k hkm).1,by have:=abr (o:=13) (t:=t) (show k.2∈kN ks from List.mem_map_of_mem hkm);omega,(hk k hkm).2⟩) (by simp only[List.length_cons]at hf;omega) (gL (gL h))
 refine abx (by omega) ?_
 show gV _ (jh l (lev 600 l f).1 [41] (a+2) (o+1))=_;rw[hL];show Res.ok _ _=_
 congr 1;simp;omega
theorem PW.mat{rs:List (List WN)}(h0:rs≠[])(hx:∀x∈rs,x≠[])(hk:∀x∈rs,∀k∈x,PW k.1 k.2):PW (sg [91]::(jM rs++[sg [93]])) (.mk 14 [] (kM rs)):=
 PW.prim (w:=sg [91]) (u:=jM rs++[sg [93]]) (fun r=>rfl) fun l f o r hr hf ho a h=>by
 have h:rst l a=sg [91]::(jM rs++sg [93]::r):=by rw[h];simp
 have hf:(sg [91]::(jM rs++sg [93]::r)).length < f+1:=by simpa using hf
 rw[lK h,if_neg (by decide),if_neg (by simp[hN]),if_neg (by simp[hS]),if_pos (by rfl)]
 rw[List.length_cons]at hf;have hl:=aco h (by simp)
 rw[List.length_cons]at hl;have hL:=af2 (l:=l) (f:=f) (o:=o+1) rs [] (l.length+1) (a+1) r h0 hx (fun x hx k hkx=>by
  have d1:=abr (o:=15) (t:=[]) (show k.2∈kN x from List.mem_map_of_mem hkx)
  have d2:=abr (o:=14) (t:=[]) (k:= .mk 15 [] (kN x)) (ks:=kM rs) (List.mem_map.2 ⟨x,hx,rfl⟩);exact⟨hk x hx k hkx,by omega⟩) (by omega) (by omega) (gL h)
 refine abx (by omega) ?_
 rw[hL];show Res.ok _ _=_
 congr 1;simp;omega
theorem ae8{l:List Tok}{f o a:Nat}{t:List UInt8}{r:List Wrd}(h:rst l a=(1,t)::r)(h1:hS r [91]=false)(h2:hS r [94]=false)(U:Gr):unG 600 l (lev 600 l f).1 U a o= .ok (nmN t) (a+1):=by
 refine rQ (by rw[lK (w:=(1,t)) (r:=r) h,if_pos rfl]) (by rw[h];rfl) ?_ ?_
 ·rw[gL h];exact h1
 ·rw[gL h];exact h2
theorem ao3{l:List Tok}{f o a:Nat}{t:List UInt8}{r:List Wrd}(h:rst l a=sg [45]::(1,t)::r)(h1:hS r [91]=false)(h2:hS r [94]=false)(ho:o+1≤600)(hf:1≤f):unG 600 l (lev 600 l f).1 (lev 600 l f).2 a o= .ok (.mk 3 [] [nmN t]) (a+2):=by
 obtain⟨f,rfl⟩:∃k,f=k+1:=⟨f - 1,by omega⟩
 unfold unG;rw[aR,h,if_pos (by rfl)]
 refine abx ho ?_;show gV _ (unG 600 l (lev 600 l f).1 (lev 600 l f).2 (a+1) (o+1))=_;rw[ae8 (gL h) h1 h2];rfl
def zWd(z:Int):List Wrd:=if z < 0 then [sg [45],(1,aO z.natAbs)]else [(1,aO z.natAbs)]
def zNd(z:Int):Nd:=if z < 0 then .mk 3 [] [nmN (aO z.natAbs)]else nmN (aO z.natAbs)
theorem un_z{l:List Tok}{f o a:Nat}{z:Int}{r:List Wrd}(h:rst l a=zWd z++r)(h1:hS r [91]=false)(h2:hS r [94]=false)(ho:o+1≤600)(hf:1≤f):unG 600 l (lev 600 l f).1 (lev 600 l f).2 a o= .ok (zNd z) (a+(zWd z).length):=by
 unfold zWd at h ⊢;unfold zNd
 split at h
 ·rename_i hz;rw[if_pos hz,if_pos hz];exact ao3 h h1 h2 ho hf
 ·rename_i hz;rw[if_neg hz,if_neg hz];exact ae8 h h1 h2 _
theorem PW.z(z:Int):PW (zWd z) (zNd z):=fun l f o r hr hf ho a ha=>by
 have hpos:1≤(zWd z).length:=by unfold zWd;split <;> simp
 rw[List.length_append]at hf;obtain⟨f,rfl⟩:∃k,f=k+1:=⟨f - 1,by omega⟩
 show wB l (unG 600 l (lev 600 l f).1 (lev 600 l f).2) a o=_;have hend:=gy ha;exact abn (qO (qO (un_z ha (hr _ (by decide)) (hr _ (by decide)) (by omega) (by omega)) (by rw[hend];exact hr _ (by decide)) (by rw[hend];exact hr _ (by decide))) (by rw[hend];exact hr _ (by decide)) (by rw[hend];exact hr _ (by decide))) (by rw[hend];exact hr _ (by decide)) (by rw[hend];exact hr _ (by decide)) (by rw[hend];exact hr _ (by decide)) (by rw[hend];exact hr _ (by decide))
theorem PW.frac(z:Int)(t:List UInt8):PW (zWd z++sg [47]::[(1,t)]) (.mk 7 [] [zNd z,nmN t]):=fun l f o r hr hf ho a ha=>by
 have hpos:1≤(zWd z).length:=by unfold zWd;split <;> simp
 rw[List.length_append,List.length_append]at hf;obtain⟨f,rfl⟩:∃k,f=k+1:=⟨f - 1,by omega⟩
 show wB l (unG 600 l (lev 600 l f).1 (lev 600 l f).2) a o=_;have ha:rst l a=zWd z++(sg [47]::((1,t)::r)):=by rw[ha];simp
 have e1:=gy ha;have e2:=gL e1;have e3:=gL e2;have u1:=un_z (f:=f) (o:=o) ha rfl rfl (by omega) (by omega)
 have u2:=ae8 (f:=f) (o:=o) e2 (hr _ (by decide)) (hr _ (by decide)) (lev 600 l f).2
 have hc:=ajI (l:=l) (s1:=[42]) (s2:=[47]) (x:=6) (y:=7) u1 (by rw[e1];rfl) (by rw[e1];rfl) u2 (by rw[e3];exact hr _ (by decide)) (by rw[e3];exact hr _ (by decide))
 have hfin:a+(zWd z).length+1+1=a+(zWd z++sg [47]::[(1,t)]).length:=by simp;omega
 rw[←hfin];exact abn (qO hc (by rw[e3];exact hr _ (by decide)) (by rw[e3];exact hr _ (by decide))) (by rw[e3];exact hr _ (by decide)) (by rw[e3];exact hr _ (by decide)) (by rw[e3];exact hr _ (by decide)) (by rw[e3];exact hr _ (by decide))
end
end Go.Proofs.YtegehclknhmkgaaGreatDoor