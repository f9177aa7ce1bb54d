import Derived.Test.YtmgfiodmdfaclaaGreatDoorA27
import Derived.Test.YtmgfiodmdfaclaaGreatDoorA26
import Derived.Test.YtmgfiodmdfaclaaGreatDoorA18
import Derived.Test.YtmgfiodmdfaclaaGreatDoorA24
import Derived.Test.YtmgfiodmdfaclaaGreatDoorA23
set_option linter.unusedVariables false
set_option linter.unusedSimpArgs false
namespace Go.Proofs.YtmgfiodmdfaclaaGreatDoor
open Go.RowKit QM SX LA
section
abbrev vrC(vs:List Vl):List CA:=[.sat (ay 15 vlE vs)]
instance:dU vrC 1:=⟨fun _=>rfl⟩
abbrev rcq(v:Rat):Q4:=rq (cq v)
theorem arJ{c n:Nat}{vs:List Rat}{x:Rat}(hx:vs[n]? =some x):((vs.take n).map rcq).flatMap q4C++q4C (rcq x)=((vs.take (n+1)).map rcq).flatMap q4C:=xH (enc:=q4C) (f:=rcq) hx
attribute [local irreducible] IntKind.wrap Go1 Reg WP aQ aR bO bN aN aB aj ah aV Sat
attribute [local irreducible] bS bV bX dx bW qv redS mf PrP qOk zOk vP dL lz vF cq rqv fC dn dI pScale mulV jn sq aH qS zS tS tbS plS mdS zmd eU iR nmC
theorem abG{L:List (List Vl)}{r c K:Nat}{vs:List Rat}(hL:L.length=r)(hrow:∀(i:Nat) R,L[i]? =some R→R.length=c∧∀k,k < c→∃x,vs[i*c+k]? =some x∧R[k]? =some (eF x))(hl:vs.length=r*c)(hr1:1≤r)(hr:r≤64)(hc:c≤64)(hb:∀v∈vs,RB v K)(hK:K≤10000):
  PureOK Tryz.prog 212 [.r (ay 1 vrC L)] (.tup [.agg (vlA (gP r c vs)),eNo 0]):=by
 have cM:=abr (r:=r) (c:=c) (MV.cq hb) (by rw[List.length_map,List.length_map];exact hl) hr hc (by omega)
 obtain⟨R0,h0⟩:∃R,L[0]? =some R:=⟨_,List.getElem?_eq_getElem (by omega)⟩
 obtain⟨hR0,_⟩:=hrow 0 R0 h0;subst hL hR0;have e3:(vs.map cq).map rq=vs.map rcq:=List.map_map ..;have e4:(vs.map rcq).length=vs.length:=List.length_map _;have hLc:=Nat.mul_le_mul hr hc;have hd0:decide ((R0.length:Int)≤64)=true:=decide_eq_true (by omega)
 refine PureOK.fnF Tryz.func212 Tryz.results212 Tryz.ntmps212 rfl rfl rfl (by simp[AV.ids,AV0.ids,Atom.ids]) rfl (fun w0 T B E0 hB=>?_)
 refine SX.goM ?_;rw[hd0];refine W.loop (fun i=>i≤L.length) (fun i=>[(2,.ptr 2 0),(4,.ptr 4 0),(5,.v (.bool true)),(25,.r (ay 1 vrC L)),(26,.v (.int .i64 (L.length:Int))),(27,.v (.int .i64 (i:Int)))]) (fun i=>[(2,.box 39 vlZ),(4,.box 30 [.c (.val (.int .i64 (L.length:Int))),.c (.val (.int .i64 (R0.length:Int))),.own 100]),(100,.row 27 4 (i*R0.length) (((vs.take (i*R0.length)).map rcq).flatMap q4C))]) (fun i=>L.length - i) 0 (Nat.zero_le _) (fun i hi=>?_)
  (by
   refine SX.St.aW [(100,none)] (by intro b h;cases h) ?_ ?_ rfl
   ·repeat(first|exact trivial|refine⟨⟨_,rfl,SX.aC.same rfl⟩,?_⟩)
   ·exact⟨SX.ak.same rfl rfl,SX.ak.oK rfl rfl ⟨aO.same rfl,aO.same rfl,aO.nil rfl,trivial⟩,by rw[Nat.zero_mul];exact SX.ak.bU rfl,trivial⟩)
 by_cases h:i < L.length
 ·obtain⟨R,hR⟩:∃R,L[i]? =some R:=⟨_,List.getElem?_eq_getElem h⟩
  obtain⟨hRl,hRv⟩:=hrow i R hR;have hd:decide ((R.length:Int)=(R0.length:Int))=true:=decide_eq_true (by omega)
  have hlen:i*R0.length+R0.length≤4096:=by
   have:=Nat.mul_le_mul_right R0.length (show i+1≤L.length by omega)
   rw[Nat.succ_mul]at this;omega
  refine SX.goM ?_;rw[hd];refine W.loop (fun k=>k≤R.length) (fun k=>[(2,.ptr 2 0),(4,.ptr 4 0),(5,.v (.bool true)),(25,.r (ay 1 vrC L)),(26,.v (.int .i64 (L.length:Int))),(27,.v (.int .i64 (i:Int))),(39,.r (ay 15 vlE R)),(40,.v (.int .i64 (R.length:Int))),(41,.v (.int .i64 (k:Int)))]) (fun k=>[(2,.box 39 vlZ),(4,.box 30 [.c (.val (.int .i64 (L.length:Int))),.c (.val (.int .i64 (R0.length:Int))),.own 100]),(100,.row 27 4 (i*R0.length+k) (((vs.take (i*R0.length+k)).map rcq).flatMap q4C))]) (fun k=>R.length - k) 0 (Nat.zero_le _) (fun k hk=>?_)
   (by
    have e:Ent.row 27 4 (i*R0.length) (((vs.take (i*R0.length)).map rcq).flatMap q4C)=Ent.row 27 4 (i*R0.length+0) (((vs.take (i*R0.length+0)).map rcq).flatMap q4C):=by rw[Nat.add_zero]
    refine SX.St.aW [] (by intro b h;cases h) ?_ ?_ rfl
    ·repeat(first|exact trivial|refine⟨⟨_,rfl,SX.aC.same rfl⟩,?_⟩)
    ·exact⟨SX.ak.same rfl rfl,SX.ak.same rfl rfl,SX.ak.eq rfl e rfl,trivial⟩)
  by_cases h2:k < R.length
  ·obtain⟨x,hx,hv⟩:=hRv k (by omega)
   have e2:=arJ (c:=R0.length) hx;refine SX.goM ?_;refine W.next (k+1) h2 (by omega) (by
    refine SX.St.aW [(100,some 54)] (by intro b h;cases h) ?_ ?_ rfl
    ·repeat(first|exact trivial|refine⟨⟨_,rfl,SX.aC.same rfl⟩,?_⟩)
    ·exact⟨SX.ak.same rfl rfl,SX.ak.oK rfl rfl ⟨aO.same rfl,aO.same rfl,aO.own rfl,trivial⟩,SX.ak.row rfl rfl (by omega) e2,trivial⟩)
  ·have hkR:k=R0.length:=by omega
   subst hkR;refine SX.goM ?_;refine W.next (i+1) h (by omega) (by
    have e2:Ent.row 27 4 (i*R0.length+R0.length) (((vs.take (i*R0.length+R0.length)).map rcq).flatMap q4C)=Ent.row 27 4 ((i+1)*R0.length) (((vs.take ((i+1)*R0.length)).map rcq).flatMap q4C):=by rw[Nat.succ_mul]
    refine SX.St.aW [] (by intro b h;cases h) ?_ ?_ rfl
    ·repeat(first|exact trivial|refine⟨⟨_,rfl,SX.aC.same rfl⟩,?_⟩)
    ·exact⟨SX.ak.same rfl rfl,SX.ak.same rfl rfl,SX.ak.eq rfl e2 rfl,trivial⟩)
 ·obtain rfl:i=L.length:=by omega
  rw[←hl,List.take_length];rw[e3]at cM;rw[←e4];refine SX.WP.freeze 100 hB rfl ?_;refine SX.goM ?_;exact .ok (aB.mk2 (aj.fD rfl rfl rfl) (aj.tmp rfl))
theorem asE{B:Nat}{nm:Nms}(ns:List Nd)(ks:List Nat)(vss:List (List Vl))(hk:ks.length=ns.length)(hv:vss.length=ns.length)(hl:ns.length≤100000)
  (h:∀(i:Nat) n k vs,ns[i]? =some n→ks[i]? =some k→vss[i]? =some vs→AL B nm n.kids k vs) {v:Vl} (cM:PureOK Tryz.prog 212 [.r (ay 1 vrC vss)] (.tup [.agg (vlA v),eNo 0])) (F:Nat) (u:Bool) (la:Vl) (tx:List UInt8) (hF:F+(ks.sum+ns.length)≤1000000000):
  ah Tryz.prog 176 [.ptr 81 0,.r (ay 3 ndE ns)] (ME (F+(ks.sum+ns.length)) B nm u la tx) ⟨.tup [.agg (vlA v),eNo 0],MO F B nm u la tx⟩:=by
 cases u with
 |false=>
  refine ah.fnM Tryz.func176 Tryz.results176 Tryz.ntmps176 rfl rfl rfl rfl (by first|rfl|(cases u <;> rfl)) (by first|rfl|(cases u <;> rfl)) (by first|rfl|(cases u <;> rfl)) (fun w0 Tw Bw E0 hB=>?_)
  refine SX.goM ?_;refine W.om (fun k fu=>k≤ns.length∧fu=F+((ks.drop k).sum+(ns.length - k))) (fun k fu=>[(0,.ptr 81 0),(4,.ptr 4 0),(6,.own 100),(9,.r (ay 3 ndE ns)),(10,.v (.int .i64 (ns.length:Int))),(11,.v (.int .i64 (k:Int)))]) (fun k fu=>[(81,MB fu B false la),(82,.abs (gZ (nmC nm))),(84,uF tx),(4,.box 39 vlZ),(100,.row 37 1 k ((vss.take k).flatMap vrC))]) (fun k _=>ns.length - k) 0 (F+(ks.sum+ns.length)) ⟨Nat.zero_le _,rfl⟩ (fun k fu ⟨hkn,hfu⟩=>?_)
   (by
    refine SX.St.aW [(100,none)] (by intro b h;exact SX.dY h rfl) ?_ ?_ rfl
    ·repeat(first|exact trivial|refine⟨⟨_,rfl,SX.aC.same rfl⟩,?_⟩|refine⟨⟨_,rfl,SX.aC.nil rfl⟩,?_⟩)
    ·exact⟨SX.ak.same rfl rfl,SX.ak.same rfl rfl,SX.ak.same rfl rfl,SX.ak.same rfl rfl,SX.ak.bU rfl,trivial⟩)
  by_cases hlt:k < ns.length
  ·obtain⟨n,hn⟩:∃n,ns[k]? =some n:=⟨_,List.getElem?_eq_getElem hlt⟩
   obtain⟨c,hc⟩:∃c,ks[k]? =some c:=⟨_,List.getElem?_eq_getElem (by omega)⟩
   obtain⟨vs,hvk⟩:∃vs,vss[k]? =some vs:=⟨_,List.getElem?_eq_getElem (by omega)⟩
   have hsum:(ks.drop k).sum=c+(ks.drop (k+1)).sum:=by
    obtain⟨hk2,e⟩:=List.getElem?_eq_some_iff.1 hc
    rw[List.drop_eq_getElem_cons hk2,e,List.sum_cons]
   have hle:(ks.drop k).sum≤ks.sum:=by
    conv=>rhs;rw[←List.take_append_drop k ks,List.sum_append]
    omega
   obtain⟨f',rfl⟩:∃f',fu=f'+c+1:=⟨F+((ks.drop (k+1)).sum+(ns.length - (k+1))),by omega⟩
   have c1:=nM (f'+c) B nm false la tx (by omega)
   have cE:ah Tryz.prog 177 [.ptr 81 0,.r (ay 3 ndC n.kids)] (ME (f'+c) B nm false la tx) ⟨.r (ay 15 vlE vs),MO f' B nm false la tx⟩:=by rw[show ndC=ndE from funext aF];exact h k n c vs hn hc hvk f' false la tx (by omega)
   have e2:(vss.take k).flatMap vrC++vrC vs=(vss.take (k+1)).flatMap vrC:=by rw[gJ hvk];simp
   refine SX.goM ?_;refine W.oM (k+1) f' ⟨hlt,by omega⟩ (by omega) (by
    refine SX.St.aW [(100,some 29)] (by intro b h;exact SX.dY h rfl) ?_ ?_ rfl
    ·repeat(first|exact trivial|refine⟨⟨_,rfl,SX.aC.same rfl⟩,?_⟩|refine⟨⟨_,rfl,SX.aC.own rfl⟩,?_⟩)
    ·exact⟨SX.ak.same rfl rfl,SX.ak.same rfl rfl,SX.ak.same rfl rfl,SX.ak.same rfl rfl,SX.ak.row rfl rfl rfl e2,trivial⟩)
  ·obtain rfl:k=vss.length:=by omega
   rw[List.drop_of_length_le (by omega),List.sum_nil]at hfu
   obtain rfl:fu=F:=by omega
   rw[List.take_length];refine SX.WP.ahH 100 hB rfl rfl rfl rfl ?_;refine SX.goM ?_;exact kT (xs:=[.agg (vlA v),eNo 0]) ⟨aj.fD rfl rfl rfl,aj.tmp rfl,trivial⟩ ⟨rfl,rfl,rfl,trivial⟩
 |true=>
  refine ah.fnM Tryz.func176 Tryz.results176 Tryz.ntmps176 rfl rfl rfl rfl (by first|rfl|(cases u <;> rfl)) (by first|rfl|(cases u <;> rfl)) (by first|rfl|(cases u <;> rfl)) (fun w0 Tw Bw E0 hB=>?_)
  refine SX.goM ?_;refine W.om (fun k fu=>k≤ns.length∧fu=F+((ks.drop k).sum+(ns.length - k))) (fun k fu=>[(0,.ptr 81 0),(4,.ptr 4 0),(6,.own 100),(9,.r (ay 3 ndE ns)),(10,.v (.int .i64 (ns.length:Int))),(11,.v (.int .i64 (k:Int)))]) (fun k fu=>[(81,MB fu B true la),(82,.abs (gZ (nmC nm))),(84,uF tx),(4,.box 39 vlZ),(100,.row 37 1 k ((vss.take k).flatMap vrC))]) (fun k _=>ns.length - k) 0 (F+(ks.sum+ns.length)) ⟨Nat.zero_le _,rfl⟩ (fun k fu ⟨hkn,hfu⟩=>?_)
   (by
    refine SX.St.aW [(100,none)] (by intro b h;exact SX.dY h rfl) ?_ ?_ rfl
    ·repeat(first|exact trivial|refine⟨⟨_,rfl,SX.aC.same rfl⟩,?_⟩|refine⟨⟨_,rfl,SX.aC.nil rfl⟩,?_⟩)
    ·exact⟨SX.ak.same rfl rfl,SX.ak.same rfl rfl,SX.ak.same rfl rfl,SX.ak.same rfl rfl,SX.ak.bU rfl,trivial⟩)
  by_cases hlt:k < ns.length
  ·obtain⟨n,hn⟩:∃n,ns[k]? =some n:=⟨_,List.getElem?_eq_getElem hlt⟩
   obtain⟨c,hc⟩:∃c,ks[k]? =some c:=⟨_,List.getElem?_eq_getElem (by omega)⟩
   obtain⟨vs,hvk⟩:∃vs,vss[k]? =some vs:=⟨_,List.getElem?_eq_getElem (by omega)⟩
   have hsum:(ks.drop k).sum=c+(ks.drop (k+1)).sum:=by
    obtain⟨hk2,e⟩:=List.getElem?_eq_some_iff.1 hc
    rw[List.drop_eq_getElem_cons hk2,e,List.sum_cons]
   have hle:(ks.drop k).sum≤ks.sum:=by
    conv=>rhs;rw[←List.take_append_drop k ks,List.sum_append]
    omega
   obtain⟨f',rfl⟩:∃f',fu=f'+c+1:=⟨F+((ks.drop (k+1)).sum+(ns.length - (k+1))),by omega⟩
   have c1:=nM (f'+c) B nm true la tx (by omega)
   have cE:ah Tryz.prog 177 [.ptr 81 0,.r (ay 3 ndC n.kids)] (ME (f'+c) B nm true la tx) ⟨.r (ay 15 vlE vs),MO f' B nm true la tx⟩:=by rw[show ndC=ndE from funext aF];exact h k n c vs hn hc hvk f' true la tx (by omega)
   have e2:(vss.take k).flatMap vrC++vrC vs=(vss.take (k+1)).flatMap vrC:=by rw[gJ hvk];simp
   refine SX.goM ?_;refine W.oM (k+1) f' ⟨hlt,by omega⟩ (by omega) (by
    refine SX.St.aW [(100,some 29)] (by intro b h;exact SX.dY h rfl) ?_ ?_ rfl
    ·repeat(first|exact trivial|refine⟨⟨_,rfl,SX.aC.same rfl⟩,?_⟩|refine⟨⟨_,rfl,SX.aC.own rfl⟩,?_⟩)
    ·exact⟨SX.ak.same rfl rfl,SX.ak.same rfl rfl,SX.ak.same rfl rfl,SX.ak.same rfl rfl,SX.ak.row rfl rfl rfl e2,trivial⟩)
  ·obtain rfl:k=vss.length:=by omega
   rw[List.drop_of_length_le (by omega),List.sum_nil]at hfu
   obtain rfl:fu=F:=by omega
   rw[List.take_length];refine SX.WP.ahH 100 hB rfl rfl rfl rfl ?_;refine SX.goM ?_;exact kT (xs:=[.agg (vlA v),eNo 0]) ⟨aj.fD rfl rfl rfl,aj.tmp rfl,trivial⟩ ⟨rfl,rfl,rfl,trivial⟩
end
section
attribute [local irreducible] bS bV bX dx bW qv redS mf PrP qOk zOk vP dL lz vF cq rqv fC dn dI pScale mulV jn sq aH qS zS tS tbS plS mdS zmd
theorem xS:xO.length < 4294967281:=by have e:xO.length=226:=rfl;omega
theorem apa:PureOK Tryz.prog 164 [.v (str xO),.v (str (([32]++lT)++[32]))] (.v (.bool true)):=gY xS (by kernel_rfl)
theorem aoV:PureOK Tryz.prog 164 [.v (str xO),.v (str (([32]++jY)++[32]))] (.v (.bool true)):=gY xS (by kernel_rfl)
theorem arO:PureOK Tryz.prog 164 [.v (str xO),.v (str (([32]++iL)++[32]))] (.v (.bool true)):=gY xS (by kernel_rfl)
theorem aph:PureOK Tryz.prog 164 [.v (str lT),.v (str [32])] (.v (.bool false)):=gY (by decide) (by kernel_rfl)
theorem apn:PureOK Tryz.prog 164 [.v (str jY),.v (str [32])] (.v (.bool false)):=gY (by decide) (by kernel_rfl)
theorem asn:PureOK Tryz.prog 164 [.v (str iL),.v (str [32])] (.v (.bool false)):=gY (by decide) (by kernel_rfl)
theorem rZ{z:Int}{K:Nat}(h:z.natAbs < WB ^ K)(h1:1≤K)(hK:K≤100000):PureOK Tryz.prog 27 [.agg (vlA (vI z))] (.v (.bool true)):=
 (Cv.one (n:=0) (.num _ (RB.ofI h h1):Sh K (eF (z:Rat)))).F hK (by decide)
theorem ab9{r c:Nat}(hr:r≤64)(hc:c≤64):PureOK Tryz.prog 214 [.v (str lT),.r (ay 15 vlE [vI r,vI c])] (.tup [.agg (vlA (gP r c ((lH c (fun _ _=>0) r).map fun z:Int=>(z:Rat)))),eNo 0]):=by
 refine aby (n0:=0) (by decide) (by decide) (Nat.le_of_ble_eq_true rfl) (fun v hv=>?_) apa aph (fun k f hk _=>absurd hk (Nat.not_lt_zero _)) (fun f hf=>?_)
 ·rcases List.mem_cons.1 hv with rfl|hv
  ·exact rZ (zy hr) (Nat.le_refl 1) (by decide)
  ·rw[List.mem_singleton]at hv;subst hv;exact rZ (zy hc) (Nat.le_refl 1) (by decide)
 ·cases hf;exact aay hr hc
theorem ab8{K:Nat}{zs:List Int}(hz:∀z∈zs,z.natAbs < WB ^ K)(h1:1≤K)(hK:K≤100000)(hl:zs.length≤10000)(hn:pN zs):PureOK Tryz.prog 214 [.v (str jY),.r (ay 15 vlE (zs.map vI))] (.tup [.agg (vlA (iW zs)),eNo 0]):=by
 refine aby (n0:=5) (by decide) (by decide) (by rw[List.length_map];omega) (fun v hv=>?_) aoV apn (fun k f hk hf=>?_) (fun f hf=>?_)
 ·obtain⟨z,hz',rfl⟩:=List.mem_map.1 hv;exact rZ (hz z hz') h1 hK
 ·match k,hk,hf with
  |0,_,hf=>cases hf;exact aeh (.inl rfl)
  |1,_,hf=>cases hf;exact afj (.inl rfl)
  |2,_,hf=>cases hf;exact aaz (.inl rfl)
  |3,_,hf=>cases hf;exact xw (.inl rfl)
  |4,_,hf=>
   cases hf;by_cases h:(zs.map vI).length=1
   ·match zs,h with
    |[z],_=>exact agH ⟨fun h=>by have h':(1:Int)=4:=h;omega,fun h=>by have h':(1:Int)=5:=h;omega⟩
   ·exact acy h (by rw[List.length_map];omega)
 ·cases hf;exact aa0 hz h1 hK hl hn
theorem vG{v w r:Vl}{z:Int}(hF:PureOK Tryz.prog 27 [.agg (vlA v)] (.v (.bool true)))(hF':PureOK Tryz.prog 27 [.agg (vlA w)] (.v (.bool true)))(h:PureOK Tryz.prog 368 [.agg (vlA v)] (.tup [.agg (zN z),.one (.c (.val (.bool false)))]))(hM:PureOK Tryz.prog 331 [.agg (eP iL [v,w])] (.agg (qh r 0 true))):
  PureOK Tryz.prog 214 [.v (str iL),.r (ay 15 vlE [v,w])] (.tup [.agg (vlA r),eNo 0]):=by
 refine aby (n0:=5) (by decide) (by decide) (Nat.le_of_ble_eq_true rfl) (fun u hu=>?_) arO asn (fun k f hk hf=>?_) (fun f hf=>?_)
 ·rcases List.mem_cons.1 hu with rfl|hu
  ·exact hF
  ·rw[List.mem_singleton]at hu;subst hu;exact hF'
 ·match k,hk,hf with
  |0,_,hf=>cases hf;exact aeh (.inr rfl)
  |1,_,hf=>cases hf;exact afj (.inr rfl)
  |2,_,hf=>cases hf;exact aaz (.inr rfl)
  |3,_,hf=>cases hf;exact xw (.inr rfl)
  |4,_,hf=>cases hf;exact acy (fun h=>by have h':2=1:=h;omega) (Nat.le_of_ble_eq_true rfl)
 ·cases hf;exact abC h hM
theorem ai8{p:Nat}{l:List Nat}(h:∀x∈l,x < p):(l.map fun x:Nat=>(x:Int)).map (zmd p)=l:=by
 rw[List.map_map];refine(List.map_congr_left fun x hx=>?_).trans (List.map_id l)
 exact al4 (h x hx)
theorem aky{p:Nat}{l:List Nat}(h:∀x∈l,x < p)(hn:wN l):qm p l=l:=by
 unfold qm;rw[ags h];exact ag5 hn
theorem arv{l:List Nat}(hn:wN l):pN (l.map fun x:Nat=>(x:Int)):=by
 unfold pN;rw[List.length_map];rcases hn with h0|h0
 ·exact .inl h0
 ·refine .inr ?_;rw[List.getD_eq_getElem?_getD,List.getElem?_map]
  rw[List.getD_eq_getElem?_getD]at h0
  cases hx:l[l.length - 1]? with
  |none=>rw[hx]at h0;exact absurd rfl h0
  |some x=>
   rw[hx]at h0;have h1:x≠0:=h0;show ((x:Nat):Int)≠0;omega
theorem abA{p:Nat}(hp:PrP p){l:List Nat}(hl:l.length≤10000)(hn:wN l)(h:∀x∈l,x < p):PureOK Tryz.prog 214 [.v (str iL),.r (ay 15 vlE [iW (l.map fun x:Nat=>(x:Int)),vI p])] (.tup [.agg (vlA (lN p l)),eNo 0]):=by
 have hpl:=hp.lt;have hz:∀z∈l.map (fun x:Nat=>(x:Int)),z.natAbs < WB ^ 1:=fun z hz=>by
  obtain⟨x,hx,rfl⟩:=List.mem_map.1 hz;have:=h x hx;rw[Nat.pow_one,aX];omega
 have hn':=arv hn;obtain⟨z,w1⟩:=oV (v:=iW (l.map fun x:Nat=>(x:Int))) qU.1 qU.2 (fun h=>by have h':(3:Int)=1:=h;omega)
 have hM:=akW hp hz (by decide) (by rw[List.length_map];exact hl)
 rw[ai8 h,aky h hn]at hM;exact vG ((Cv.one (n:=0) (.pol _ (by rw[List.length_map];exact hl) hn' hz)).F (by decide) (by decide)) (rZ (K:=1) (by rw[Nat.pow_one,aX];omega) (by decide) (by decide)) w1 hM
theorem adE{p r c:Nat}(hp:PrP p){l:List Nat}(hl:l.length=r*c)(hr:r≤64)(hc:c≤64)(h:∀x∈l,x < p):PureOK Tryz.prog 214 [.v (str iL),.r (ay 15 vlE [gP r c ((l.map fun x:Nat=>(x:Int)).map fun z:Int=>(z:Rat)),vI p])] (.tup [.agg (vlA (lI p r c l)),eNo 0]):=by
 have hpl:=hp.lt;have hz:∀z∈l.map (fun x:Nat=>(x:Int)),z.natAbs < WB ^ 1:=fun z hz=>by
  obtain⟨x,hx,rfl⟩:=List.mem_map.1 hz;have:=h x hx;rw[Nat.pow_one,aX];omega
 have hrc:=Nat.mul_le_mul hr hc;obtain⟨z,w1⟩:=oV (v:=gP r c ((l.map fun x:Nat=>(x:Int)).map fun z:Int=>(z:Rat))) qU.1 qU.2 (fun h=>by have h':(2:Int)=1:=h;omega)
 have hM:=ajO hp (by rw[List.length_map];exact hl) hr hc hz (by decide) (by omega) (by decide)
 rw[ai8 h]at hM;refine vG ((Cv.one (n:=0) (.mat r c _ (by rw[List.length_map,List.length_map];exact hl) hr hc fun v hv=>?_:Sh 1 _)).F (by decide) (by decide)) (rZ (K:=1) (by rw[Nat.pow_one,aX];omega) (by decide) (by decide)) w1 hM
 obtain⟨z,hz',rfl⟩:=List.mem_map.1 hv;exact RB.ofI (hz z hz') (by decide)
end
section
section
theorem aap{B:Nat}:∀{l:List Nat} {b:Nat},(∀x∈l,x≤B)→b≤B→l.foldl max b≤B
 |[],b,_,h=>h
 |x::l,b,h,hb=>aap (l:=l) (b:=max b x) (fun y hy=>h y (List.mem_cons_of_mem _ hy)) (by have:=h x List.mem_cons_self;omega)
theorem uZ{α β:Type}[Inhabited β]{l:List α}{P:α→β→Prop}(h:∀x∈l,∃b,P x b):∃g:α→β,∀x∈l,P x (g x):=by
 classical
 exact⟨fun x=>if hx:x∈l then(h x hx).choose else default,fun x hx=>by simp only[dif_pos hx];exact(h x hx).choose_spec⟩
theorem arQ{x K:Nat}(h:x < 2 ^ K):bitLen x≤K:=by
 by_cases h0:x=0
 ·rw[nO.2 h0];omega
 ·have h1:=(bitLen_spec x).2 h0;have h2:2 ^ (bitLen x - 1) < 2 ^ K:=Nat.lt_of_le_of_lt h1 h;have:=(Nat.pow_lt_pow_iff_right (a:=2) (by omega)).1 h2
  omega
theorem sK{x k:Nat}(h:x < WB ^ k):bitLen x≤64*k:=by
 refine arQ (Nat.lt_of_lt_of_le h ?_);rw[kR,←Nat.pow_mul];exact Nat.le_refl _
theorem ahr{x:Rat}{K:Nat}(h:RB x K):qB x≤64*K:=by
 have h1:=sK h.n;have h2:=sK h.d;unfold qB;omega
attribute [local irreducible] IntKind.wrap Go1 Reg WP aQ aR bO bN aN aB aj ah aV Sat
attribute [local irreducible] bS bV bX dx bW qv redS mf PrP qOk zOk vP dL lz vF cq rqv fC dn dI pScale mulV jn sq aH qS zS tS tbS plS mdS zmd eU iR nmC qB
theorem bN0:PureOK Tryz.prog 60 [.r (bB (0:Int).natAbs)] (.v (.int .i64 0)):=by
 haveI:BdN 0 1:=⟨by rw[aX];decide⟩
 exact(yj (a:= .sat (bB 0))).h (by decide)
theorem akL{r c:Nat}{vs:List Rat}{K:Nat}(h:∀v∈vs,RB v K)(hK:K≤1000)(hl:vs.length≤10000):PureOK Tryz.prog 235 [.agg (vlA (gP r c vs))] (.v (.int .i64 (((vs.map qB).foldl max 0:Nat):Int))):=by
 have cO:=ajY 0 (by decide) (by decide)
 have cB:=bN0;have m1:((vs.map cq).map rq).length=vs.length:=agn vs;have m2:((gP r c vs).a.map rq).length=vs.length:=agn vs;refine PureOK.fnF Tryz.func235 Tryz.results235 Tryz.ntmps235 rfl rfl rfl (by simp[AV.ids,AV0.ids,Atom.ids]) rfl (fun w0 T B E0 hB=>?_)
 refine SX.goM ?_;refine W.om (fun k m=>k≤vs.length∧m≤64000∧m=((vs.take k).map qB).foldl max 0) (fun k m=>[(3,.v (.int .i64 (m:Int))),(25,.r (ay 4 q4C (mq vs))),(26,.v (.int .i64 (vs.length:Int))),(27,.v (.int .i64 (k:Int)))]) (fun _ _=>[]) (fun k _=>vs.length - k) 0 0 ⟨Nat.zero_le _,Nat.zero_le _,rfl⟩ (fun k m ⟨hk,hm,hmm⟩=>?_)
  (by
   refine SX.St.aW [] (by intro b h;cases h) ?_ ?_ rfl
   ·repeat(first|exact trivial|refine⟨⟨_,rfl,SX.aC.same rfl⟩,?_⟩|refine⟨⟨_,rfl,SX.aC.int (by omega)⟩,?_⟩)
   ·exact trivial)
 by_cases hk2:k < vs.length
 ·obtain⟨x,hx⟩:∃x,vs[k]? =some x:=⟨_,List.getElem?_eq_getElem hk2⟩
  have hx':(mq vs)[k]? =some (rq (cq x)):=by rw[List.getElem?_map,List.getElem?_map,hx];rfl
  have h':k < (mq vs).length:=by rw[agn];exact hk2
  have hb:=h x (List.mem_of_getElem? hx);have cx:=acr (q:=cq x) (by have:=(vZ0.num hb (show K≤100000 by omega)).q.2;dsimp only at this;omega)
  rw[iM]at cx;have hq:=ahr hb;have e1:((vs.take (k+1)).map qB).foldl max 0=max m (qB x):=by rw[List.take_add_one,hx,hmm];simp
  refine SX.goM ?_;exact W.oM (k+1) (max m (qB x)) ⟨hk2,by omega,e1.symm⟩ (by omega)
 ·obtain rfl:k=vs.length:=by omega
  rw[List.take_length]at hmm;refine SX.goM ?_;refine gV ?_;rw[←hmm]
theorem akH{zs:List Int}{K:Nat}(h:∀z∈zs,z.natAbs < WB ^ K)(hK:K≤1000)(hl:zs.length≤10000):PureOK Tryz.prog 235 [.agg (vlA (iW zs))] (.v (.int .i64 (((zs.map fun z=>bitLen z.natAbs).foldl max 0:Nat):Int))):=by
 have cO:=ajY 0 (by decide) (by decide)
 have cB:=bN0;have m1:((zs.map cz).map rz).length=zs.length:=ahs zs;have m2:((iW zs).po.map rz).length=zs.length:=ahs zs;refine PureOK.fnF Tryz.func235 Tryz.results235 Tryz.ntmps235 rfl rfl rfl (by simp[AV.ids,AV0.ids,Atom.ids]) rfl (fun w0 T B E0 hB=>?_)
 refine SX.goM ?_;refine W.om (fun k m=>k≤zs.length∧m≤64000∧m=((zs.take k).map fun z=>bitLen z.natAbs).foldl max 0) (fun k m=>[(3,.v (.int .i64 (m:Int))),(39,.r (ay 2 z2C (mz zs))),(40,.v (.int .i64 (zs.length:Int))),(41,.v (.int .i64 (k:Int)))]) (fun _ _=>[]) (fun k _=>zs.length - k) 0 0 ⟨Nat.zero_le _,Nat.zero_le _,rfl⟩ (fun k m ⟨hk,hm,hmm⟩=>?_)
  (by
   refine SX.St.aW [] (by intro b h;cases h) ?_ ?_ rfl
   ·repeat(first|exact trivial|refine⟨⟨_,rfl,SX.aC.same rfl⟩,?_⟩|refine⟨⟨_,rfl,SX.aC.int (by omega)⟩,?_⟩)
   ·exact trivial)
 by_cases hk2:k < zs.length
 ·obtain⟨z,hz⟩:∃z,zs[k]? =some z:=⟨_,List.getElem?_eq_getElem hk2⟩
  have hz':(mz zs)[k]? =some (rz (cz z)):=by rw[List.getElem?_map,List.getElem?_map,hz];rfl
  have h':k < (mz zs).length:=by rw[ahs];exact hk2
  have hb:=h z (List.mem_of_getElem? hz);have hlen:(cz z).2.length≤K:=lZ hb;have cx:PureOK Tryz.prog 134 [.agg [.c (.val (.bool (cz z).1)),.c (.sat (dJ (cz z).2))]] (.v (.int .i64 (bitLen (rzv (cz z)).natAbs:Int))):=(eu (h:=ZI.raw (cz z).1 (cz z).2)).h (by omega)
  rw[mX]at cx;have hq:=sK hb;have e1:((zs.take (k+1)).map fun z=>bitLen z.natAbs).foldl max 0=max m (bitLen z.natAbs):=by rw[List.take_add_one,hz,hmm];simp
  refine SX.goM ?_;exact W.oM (k+1) (max m (bitLen z.natAbs)) ⟨hk2,by omega,e1.symm⟩ (by omega)
 ·obtain rfl:k=zs.length:=by omega
  rw[List.take_length]at hmm;refine SX.goM ?_;refine gV ?_;rw[←hmm]
theorem ai4(v:Vl)(h:v.k=4∨v.k=5)(hp:v.p < WB):PureOK Tryz.prog 235 [.agg (vlA v)] (.v (.int .i64 (bitLen v.p:Int))):=by
 have cO:=nOf v.p hp;have cB:PureOK Tryz.prog 60 [.r (bB v.p)] (.v (.int .i64 (bitLen v.p:Int))):=by
  haveI:BdN v.p 1:=⟨by rw[Nat.pow_one];exact hp⟩
  exact(yj (a:= .sat (bB v.p))).h (by decide)
 have hk:¬v.k=1∧¬v.k=2∧¬v.k=3∧¬v.k=6:=by omega
 obtain⟨h1,h2,h3,h6⟩:=hk;refine PureOK.fnF Tryz.func235 Tryz.results235 Tryz.ntmps235 rfl rfl rfl (by simp[AV.ids,AV0.ids,Atom.ids]) rfl (fun w0 T B E0 hB=>?_)
 refine SX.goM ?_;exact gV rfl
theorem apq(v:Vl)(g:Vl→Nat)(h:v.k=6)(hp:v.p=0)(hl:v.li.length≤1000000)(hg:∀x∈v.li,g x≤64000)(hx:∀x∈v.li,PureOK Tryz.prog 235 [.agg (vlA x)] (.v (.int .i64 (g x:Int)))):
  PureOK Tryz.prog 235 [.agg (vlA v)] (.v (.int .i64 (((v.li.map g).foldl max 0:Nat):Int))):=by
 have cO:PureOK Tryz.prog 64 [.v (.int .u64 (v.p:Int))] (.r (bB (0:Int).natAbs)):=by rw[hp];exact ajY 0 (by decide) (by decide)
 have cB:=bN0;rw[ab2];refine PureOK.fnF Tryz.func235 Tryz.results235 Tryz.ntmps235 rfl rfl rfl (by simp[AV.ids,AV0.ids,Atom.ids]) rfl (fun w0 T B E0 hB=>?_)
 refine SX.goM ?_;refine W.om (fun k m=>k≤v.li.length∧m≤64000∧m=((v.li.take k).map g).foldl max 0) (fun k m=>[(3,.v (.int .i64 (m:Int))),(53,.r (ay 15 vlE v.li)),(54,.v (.int .i64 (v.li.length:Int))),(55,.v (.int .i64 (k:Int)))]) (fun _ _=>[]) (fun k _=>v.li.length - k) 0 0 ⟨Nat.zero_le _,Nat.zero_le _,rfl⟩ (fun k m ⟨hk,hm,hmm⟩=>?_)
 by_cases hlt:k < v.li.length
 ·obtain⟨x,hx'⟩:∃x,v.li[k]? =some x:=⟨_,List.getElem?_eq_getElem hlt⟩
  have c:=hx x (List.mem_of_getElem? hx');have hgx:=hg x (List.mem_of_getElem? hx');have e1:((v.li.take (k+1)).map g).foldl max 0=max m (g x):=by rw[List.take_add_one,hx',hmm];simp
  refine SX.goM ?_;exact W.oM (k+1) (max m (g x)) ⟨hlt,by omega,e1.symm⟩ (by omega)
 ·obtain rfl:k=v.li.length:=by omega
  rw[List.take_length]at hmm;refine SX.goM ?_;refine gV ?_;rw[←hmm]
theorem arV{v:Vl}{b:Nat}(hF:PureOK Tryz.prog 27 [.agg (vlA v)] (.v (.bool true)))(h:PureOK Tryz.prog 235 [.agg (vlA v)] (.v (.int .i64 (b:Int)))):PureOK Tryz.prog 209 [.agg (vlA v)] (.v (.int .i64 (b:Int))):=by
 refine PureOK.fnF Tryz.func209 Tryz.results209 Tryz.ntmps209 rfl rfl rfl (by simp[AV.ids,AV0.ids,Atom.ids]) rfl (fun w0 T B E0 hB=>?_)
 refine SX.goM ?_;exact gV rfl
end
inductive dW:List UInt8→List Wrd→Prop
 |nil {s:List UInt8} (h:s.drop (gp false s)=[]):dW s []
 |cons {s t:List UInt8} {w:Wrd} {ws:List Wrd} (h:s.drop (gp false s)=w.2++t) (h1:fst (w.2++t)=⟨w.1,w.2,0⟩) (h2:w.1≠0) (h3:w.2≠[]) (k:dW t ws):dW s (w::ws)
theorem dW.W{l s:List UInt8}{ws:List Wrd}(h:dW s ws):∀k,l.drop k=s→(qO l (k+gp false s)).2=none∧(qO l (k+gp false s)).1.map kt=ws:=by
 induction h with
 | @nil s h=>
  intro k hk;have hl:l.length≤k+gp false s:=by
   rw[←hk,List.drop_drop,hk]at h;exact List.drop_eq_nil_iff.1 h
  rw[qO.eq_1,dif_pos hl];exact⟨rfl,rfl⟩
 | @cons s t w ws h h1 h2 h3 _ ih=>
  intro k hk;have hd:l.drop (k+gp false s)=w.2++t:=by rw[←List.drop_drop,hk,h]
  have hd2:l.drop (k+gp false s+w.2.length)=t:=by rw[←List.drop_drop,hd,List.drop_left' rfl]
  have ih:=ih _ hd2;have hw:w.2.length≠0:=by simpa using h3
  have hlen:=congrArg List.length hd;rw[List.length_drop,List.length_append]at hlen;generalize k+gp false s=j at*;have hf:fst (l.drop j)=⟨w.1,w.2,0⟩:=by rw[hd];exact h1
  rw[qO.eq_1,dif_neg (by omega),hf]
  rw[dif_neg (by
   rintro(h4|h4)
   ·exact h2 h4
   ·exact hw h4)]
  show ((qO l (j+w.2.length+gp false (l.drop (j+w.2.length)))).2=none∧(kt ⟨w.1,w.2,j⟩::(qO l (j+w.2.length+gp false (l.drop (j+w.2.length)))).1.map kt)=w::ws);rw[hd2];exact⟨ih.1,by rw[ih.2];rfl⟩
theorem dW.R{l:List UInt8}{ws:List Wrd}(h:dW l ws)(hl:l.length≤20000):∃ts,adB l=(ts,0,0)∧ts.map kt=ws∧ts.all iF=true:=by
 obtain⟨h1,h2⟩:=h.W 0 List.drop_zero;rw[Nat.zero_add]at h1 h2;refine⟨(qO l (gp false l)).1,?_,h2,(aiw l _).2.1⟩;unfold adB;rw[if_neg (by omega),h1]
def NW(r:List UInt8):Prop:=r=[]∨∃c m,r=c::m∧wrd c=false
theorem amC{c:UInt8}{r:List UInt8}(h:srt c≠1)(h2:c.toNat≠35):gp false (c::r)=0:=by
 rw[gp,if_neg h,if_neg h2]
theorem dW.sp{c:UInt8}{r:List UInt8}{ws:List Wrd}(hc:srt c=1)(h:dW r ws):dW (c::r) ws:=by
 have e:(c::r).drop (gp false (c::r))=r.drop (gp false r):=by
  rw[gp,if_pos hc,Nat.add_comm,List.drop_succ_cons]
 cases h with
 |nil h=>exact .nil (by rw[e];exact h)
 |cons h h1 h2 h3 k=>exact .cons (by rw[e];exact h) h1 h2 h3 k
theorem amI(l r:List UInt8)(h:l.all wrd=true)(hr:NW r):run (l++r)=l.length:=by
 have hr0:r.takeWhile wrd=[]:=by
  rcases hr with rfl|⟨c,m,rfl,hc⟩
  ·rfl
  ·rw[List.takeWhile_cons,hc];rfl
 unfold run;rw[List.takeWhile_append_of_pos (by simpa using h),hr0,List.append_nil]
theorem dW.num{w r:List UInt8}{ws:List Wrd}(hw:num w=true)(hr:NW r)(h:dW r ws):dW (w++r) ((1,w)::ws):=by
 obtain⟨h1,c,m,e,hc⟩:=abR hw;have hg:gp false (w++r)=0:=by
  rw[e,List.cons_append];exact amC (by omega) (by rw[srt2]at hc;omega)
 refine .cons (by rw[hg];rfl) ?_ (by decide:(1:Int)≠0) (by rw[e];simp) h
 show fst (w++r)=_;unfold fst;rw[amI w r h1 hr,List.take_left' rfl,if_pos hw]
theorem dW.nam{w r:List UInt8}{ws:List Wrd}(hw:nam w=true)(hr:NW r)(h:dW r ws):dW (w++r) ((2,w)::ws):=by
 obtain⟨h1,c,m,e,hc⟩:=acC hw;have hg:gp false (w++r)=0:=by
  rw[e,List.cons_append];exact amC (by omega) (by rw[srt3]at hc;omega)
 have hn:Go.Proofs.YtmgfiodmdfaclaaGreatDoor.num w=false:=by
  cases h2:Go.Proofs.YtmgfiodmdfaclaaGreatDoor.num w with
  |false=>rfl
  |true=>
   obtain⟨_,c',m',e',hc'⟩:=abR h2;rw[e]at e';cases e';omega
 refine .cons (by rw[hg];rfl) ?_ (by decide:(2:Int)≠0) (by rw[e];simp) h
 show fst (w++r)=_;unfold fst;rw[amI w r h1 hr,List.take_left' rfl,hn,if_neg (by decide),if_pos hw]
def sgc(c:UInt8):Bool:=!wrd c&&sg1 [c]&&!decide (srt c=1)&&!decide (c.toNat=35)&&!decide (c=61)&&!decide (c=33)&&!decide (c=60)&&!decide (c=46)
theorem dW.sg{c:UInt8}{r:List UInt8}{ws:List Wrd}(hc:sgc c=true)(h:dW r ws):dW (c::r) (Go.Proofs.YtmgfiodmdfaclaaGreatDoor.sg [c]::ws):=by
 unfold sgc at hc;simp only[Bool.and_eq_true,Bool.not_eq_true',decide_eq_false_iff_not]at hc;obtain⟨⟨⟨⟨⟨⟨⟨h1,h2⟩,h3⟩,h4⟩,h5⟩,h6⟩,h7⟩,h8⟩:=hc;refine .cons (w:=Go.Proofs.YtmgfiodmdfaclaaGreatDoor.sg [c]) (t:=r) (by rw[amC h3 h4];rfl) ?_ (fun e=>by have e':(3:Int)=0:=e;omega) (fun e=>by cases e) h
 show fst (c::r)=_;have hr:run (c::r)=0:=by unfold run;rw[List.takeWhile_cons,h1];rfl
 have hn:Go.Proofs.YtmgfiodmdfaclaaGreatDoor.num []=false:=by unfold Go.Proofs.YtmgfiodmdfaclaaGreatDoor.num;rfl
 have hm:Go.Proofs.YtmgfiodmdfaclaaGreatDoor.nam []=false:=by unfold Go.Proofs.YtmgfiodmdfaclaaGreatDoor.nam;rfl
 unfold fst;rw[hr,List.take_zero,hn,if_neg (by decide),hm,if_neg (by decide),if_neg ?_,show (c::r).take 1=[c]from rfl,if_pos h2]
 rintro⟨_,h9⟩;have hh:∀d:UInt8,c≠d→∀e,(c::r).take 2≠[d,e]:=fun d hd e h=>by
  rw[List.take_succ_cons]at h;exact hd (List.cons.inj h).1
 rcases h9 with h9|h9|h9|h9
 ·exact hh _ h5 _ h9
 ·exact hh _ h6 _ h9
 ·exact hh _ h7 _ h9
 ·exact hh _ h8 _ h9
theorem lq{x:Nat}(h:(aH x).length≤2000):num (aH x)=true:=by
 have hk:∀l:List UInt8,l.all isD=true→dgL l=true:=fun l hl=>by
  unfold dgL;rw[List.all_eq_true]at*;intro c hc;have:=hl c hc;unfold isD at this;rw[decide_eq_true_iff,srt2];simpa using this
 unfold num;rw[Bool.and_eq_true,decide_eq_true_iff];unfold aH at h ⊢;by_cases h0:x=0
 ·rw[if_pos h0];exact⟨⟨by decide,by decide,.inl rfl⟩,by unfold dgL;simp only[List.all_cons,List.all_nil,Bool.and_true,decide_eq_true_iff,srt2];decide⟩
 ·rw[if_neg h0]at h ⊢;obtain⟨f1,f2,f3⟩:=xK x;exact⟨⟨(f3 h0).2,h,.inr (f3 h0).1⟩,hk _ f1⟩
def LV(s:List UInt8)(ws:List Wrd):Prop:=∀r rw,NW r→dW r rw→dW (s++r) (ws++rw)
theorem akp{c:UInt8}{r:List UInt8}(h:wrd c=false):NW (c::r):= .inr ⟨c,r,rfl,h⟩
theorem LV.num{w:List UInt8}(h:num w=true):LV w [(1,w)]:=fun r rw hr h2=>dW.num h hr h2
theorem LV.sg{c:UInt8}{s:List UInt8}{ws:List Wrd}(hc:sgc c=true)(h:LV s ws):LV (c::s) (Go.Proofs.YtmgfiodmdfaclaaGreatDoor.sg [c]::ws):=fun r rw hr h2=>dW.sg hc (h r rw hr h2)
theorem LV.nil:LV [] []:=fun r rw hr h2=>h2
theorem ael{c:UInt8}(h:sgc c=true):wrd c=false:=by
 unfold sgc at h;simp only[Bool.and_eq_true,Bool.not_eq_true']at h;exact h.1.1.1.1.1.1.1
theorem LV.mid{c:UInt8}{s t:List UInt8}{us ws:List Wrd}(h1:LV s us)(hc:sgc c=true)(h:LV t ws):LV (s++c::t) (us++Go.Proofs.YtmgfiodmdfaclaaGreatDoor.sg [c]::ws):=fun r rw hr h2=>by
 have h3:=h1 (c::(t++r)) _ (akp (ael hc)) (dW.sg hc (h r rw hr h2));simpa using h3
theorem LV.midB{c:UInt8}{s t:List UInt8}{us ws:List Wrd}(h1:LV s us)(hc:sgc c=true)(h:LV t ws):LV (s++c::32::t) (us++Go.Proofs.YtmgfiodmdfaclaaGreatDoor.sg [c]::ws):=fun r rw hr h2=>by
 have h3:=h1 (c::32::(t++r)) _ (akp (ael hc)) (dW.sg hc (dW.sp (by unfold srt;decide) (h r rw hr h2)))
 simpa using h3
theorem LV.nam{c:UInt8}{w t:List UInt8}{ws:List Wrd}(hw:nam w=true)(hc:sgc c=true)(h:LV t ws):LV (w++c::t) ((2,w)::Go.Proofs.YtmgfiodmdfaclaaGreatDoor.sg [c]::ws):=fun r rw hr h2=>by
 have h3:=dW.nam hw (akp (ael hc)) (dW.sg hc (h r rw hr h2));simpa using h3
theorem LV.end{c:UInt8}{s:List UInt8}{us:List Wrd}(h1:LV s us)(hc:sgc c=true):LV (s++[c]) (us++[Go.Proofs.YtmgfiodmdfaclaaGreatDoor.sg [c]]):=LV.mid h1 hc LV.nil
theorem LV.jn{c:UInt8}(hc:sgc c=true):∀(l:List (List UInt8×List Wrd)),(∀x∈l,LV x.1 x.2)→LV (jn c (l.map (·.1))) (aau (Go.Proofs.YtmgfiodmdfaclaaGreatDoor.sg [c]) (l.map (·.2)))
 |[],_=>LV.nil
 |[x],h=>h x (List.mem_cons_self ..)
 |x::y::l,h=>LV.midB (h x (List.mem_cons_self ..)) hc (LV.jn hc (y::l) fun z hz=>h z (List.mem_cons_of_mem _ hz))
theorem eD:sgc 45=true∧sgc 47=true∧sgc 44=true∧sgc 59=true∧sgc 91=true∧sgc 93=true∧sgc 40=true∧sgc 41=true∧sgc 123=true∧sgc 125=true:=by
 refine⟨?_,?_,?_,?_,?_,?_,?_,?_,?_,?_⟩ <;> (unfold sgc wrd sg1 srt;decide)
theorem oO:nam [122,101,114,111]=true∧nam [112,111,108,121]=true∧nam [109,111,100]=true:=by
 refine⟨?_,?_,?_⟩ <;> (unfold nam run wrd srt;decide)
theorem LV.zS{z:Int}(h:(aH z.natAbs).length≤2000):LV (zS z) (if z < 0 then [Go.Proofs.YtmgfiodmdfaclaaGreatDoor.sg [45],(1,aH z.natAbs)]else [(1,aH z.natAbs)]):=by
 unfold Go.Proofs.YtmgfiodmdfaclaaGreatDoor.zS
 split
 ·exact LV.sg eD.1 (LV.num (lq h))
 ·exact LV.num (lq h)
def PW(ws:List Wrd)(m:Nd):Prop:=∀(l:List Tok) f o r,af3 r→(ws++r).length < f→o+2*dep m+1≤600→∀a,rst l a=ws++r→(lev 600 l f).1 a o= .ok m (a+ws.length)
abbrev WN:=List Wrd×Nd
abbrev jW(ks:List WN):List Wrd:=aau (sg [44]) (ks.map (·.1))
abbrev kN(ks:List WN):List Nd:=ks.map (·.2)
abbrev noE:List (List UInt8):=[[91],[94],[42],[47],[43],[45],[61,61],[33,61],[60],[60,61],[40],[44]]
theorem asv{e:List UInt8}(he:e∉noE)(r:List Wrd):af3 (sg e::r):=sS (fun h=>he (List.mem_append_left [[44]] h)) r
theorem afM{l:List Tok}{f o:Nat}{e:List UInt8}(he:e∉noE):∀(ks:List WN) (acc:List Nd) (g a:Nat) (r:List Wrd),ks≠[]→(∀k∈ks,PW k.1 k.2∧o+2*dep k.2+1≤600)→
  (jW ks++sg e::r).length < f→(jW ks++sg e::r).length < g+1→rst l a=jW ks++sg e::r→rD l (lev 600 l f).1 e g acc a o= .ok (.mk 0 [] (acc++kN ks)) (a+(jW ks).length+1)
 |[],_,_,_,_,h,_,_,_,_=>absurd rfl h
 |[k],acc,g,a,r,_,hP,hf,hg,hr=>by
  obtain⟨h1,h2⟩:=hP k (by simp)
  have hj:jW [k]=k.1:=rfl;rw[hj]at hf hg hr ⊢;rw[List.length_append,List.length_cons]at hg;obtain⟨g,rfl⟩:∃k,g=k+1:=⟨g - 1,by omega⟩
  unfold rD;rw[h1 l f o _ (asv he r) hf h2 a hr];show (if isS l (a+k.1.length) e then _ else _)=_
  rw[bf,jG hr,if_pos (by simp[hS])];rfl
 |k::k2::ks,acc,g,a,r,_,hP,hf,hg,hr=>by
  obtain⟨h1,h2⟩:=hP k (by simp)
  have hj:jW (k::k2::ks)=k.1++sg [44]::jW (k2::ks):=rfl;have hr':rst l a=k.1++sg [44]::(jW (k2::ks)++sg e::r):=by rw[hr,hj];simp
  have hlen:(k.1++sg [44]::(jW (k2::ks)++sg e::r)).length=(jW (k::k2::ks)++sg e::r).length:=by rw[hj];simp
  have hlen2:(jW (k::k2::ks)++sg e::r).length=k.1.length+1+(jW (k2::ks)++sg e::r).length:=by rw[hj];simp;omega
  obtain⟨g,rfl⟩:∃k,g=k+1:=⟨g - 1,by omega⟩
  have he':af3 (sg [44]::(jW (k2::ks)++sg e::r)):=sS (by decide) _
  unfold rD;rw[h1 l f o _ he' (by rw[hlen];exact hf) h2 a hr']
  show (if isS l (a+k.1.length) e then _ else if isS l (a+k.1.length) [44]then _ else _)=_
  have hrr:=jG hr';have hne:e≠[44]:=fun h=>he (by rw[h];decide)
  rw[bf,hrr,if_neg (by simp[hS,Ne.symm hne]),bf,hrr,if_pos (by simp[hS])]
  rw[afM he (k2::ks) (acc++[k.2]) g (a+k.1.length+1) r (by simp) (fun x hx=>hP x (by simp at hx ⊢;exact .inr hx)) (by omega) (by omega) (jw hrr)]
  rw[hj];simp;omega
def HD(ws:List Wrd)(e:List UInt8):Prop:=∃w r,ws=w::r∧∀r',hS (w::r') e=false
theorem ac3{l:List Tok}{f o:Nat}{e:List UInt8}(he:e∉noE){ks:List WN}{a:Nat}{r:List Wrd}(hP:∀k∈ks,PW k.1 k.2∧o+2*dep k.2+1≤600∧HD k.1 e)
  (hf:(jW ks++sg e::r).length < f) (hr:rst l a=jW ks++sg e::r):jv l (lev 600 l f).1 e a o= .ok (.mk 0 [] (kN ks)) (a+(jW ks).length+1):=by
 unfold jv;cases ks with
 |nil=>
  have hr:rst l a=sg e::r:=hr;rw[bf,hr,if_pos (by simp[hS])];rfl
 |cons k ks=>
  have hh:∀r',hS (jW (k::ks)++r') e=false:=by
   intro r';obtain⟨w,u,hw,h1⟩:=(hP k (by simp)).2.2
   cases ks with
   |nil=>rw[show jW [k]=k.1 from rfl,hw];exact h1 _
   |cons k2 ks=>rw[show jW (k::k2::ks)=k.1++sg [44]::jW (k2::ks)from rfl,hw];exact h1 _
  have hl:=aik hr (by simp)
  rw[bf,hr,if_neg (by rw[hh];decide),afM he (k::ks) [] (l.length+1) a r (by simp) (fun x hx=>⟨(hP x hx).1,(hP x hx).2.1⟩) hf (by omega) hr];rfl
theorem acR{l:List Tok}{f o:Nat}{e:List UInt8}(he:e=[59]∨e=[93])(rs:List Nd):∀(ks:List WN) (acc:List Nd) (g a:Nat) (r:List Wrd),ks≠[]→(∀k∈ks,PW k.1 k.2∧o+2*dep k.2+1≤600)→
  (jW ks++sg e::r).length < f→(jW ks++sg e::r).length < g+1→rst l a=jW ks++sg e::r→∃g',(sg e::r).length < g'+2∧
  rX l (lev 600 l f).1 g rs acc a o=if e=[59]then rX l (lev 600 l f).1 g' (rs++[.mk 15 [] (acc++kN ks)]) [] (a+(jW ks).length+1) o else .ok (.mk 14 [] (rs++[.mk 15 [] (acc++kN ks)])) (a+(jW ks).length+1)
 |[],_,_,_,_,h,_,_,_,_=>absurd rfl h
 |[k],acc,g,a,r,_,hP,hf,hg,hr=>by
  obtain⟨h1,h2⟩:=hP k (by simp)
  have hj:jW [k]=k.1:=rfl;rw[hj]at hf hg hr ⊢;rw[List.length_append]at hg;have hgl:1≤(sg e::r).length:=by simp
  obtain⟨g,rfl⟩:∃k,g=k+1:=⟨g - 1,by omega⟩
  refine⟨g,by omega,?_⟩
  have he':af3 (sg e::r):=sS (by rcases he with rfl|rfl <;> decide) r
  rw[rX]
  dsimp only
  rw[h1 l f o _ he' hf h2 a hr];show (if isS l (a+k.1.length) [44]then _ else if isS l (a+k.1.length) [59]then _ else if isS l (a+k.1.length) [93]then _ else _)=_
  rw[bf,bf,bf,jG hr];rcases he with rfl|rfl
  ·rfl
  ·rfl
 |k::k2::ks,acc,g,a,r,_,hP,hf,hg,hr=>by
  obtain⟨h1,h2⟩:=hP k (by simp)
  have hj:jW (k::k2::ks)=k.1++sg [44]::jW (k2::ks):=rfl;have hr':rst l a=k.1++sg [44]::(jW (k2::ks)++sg e::r):=by rw[hr,hj];simp
  have hlen:(k.1++sg [44]::(jW (k2::ks)++sg e::r)).length=(jW (k::k2::ks)++sg e::r).length:=by rw[hj];simp
  have hlen2:(jW (k::k2::ks)++sg e::r).length=k.1.length+1+(jW (k2::ks)++sg e::r).length:=by rw[hj];simp;omega
  obtain⟨g,rfl⟩:∃k,g=k+1:=⟨g - 1,by omega⟩
  have he':af3 (sg [44]::(jW (k2::ks)++sg e::r)):=sS (by decide) _
  have hrr:=jG hr';obtain⟨g',hg',ih⟩:=acR (f:=f) (o:=o) he rs (k2::ks) (acc++[k.2]) g (a+k.1.length+1) r (by simp) (fun x hx=>hP x (by simp at hx ⊢;exact .inr hx)) (by omega) (by omega) (jw hrr)
  refine⟨g',hg',?_⟩;rw[rX]
  dsimp only
  rw[h1 l f o _ he' (by rw[hlen];exact hf) h2 a hr']
  show (if isS l (a+k.1.length) [44]then _ else _)=_
  rw[bf,hrr,if_pos (by rfl),ih]
  have e1:a+k.1.length+1+(jW (k2::ks)).length+1=a+(jW (k::k2::ks)).length+1:=by rw[hj];simp;omega
  rw[e1,List.append_assoc];rfl
abbrev jM(rs:List (List WN)):List Wrd:=aau (sg [59]) (rs.map jW)
abbrev kM(rs:List (List WN)):List Nd:=rs.map fun ks=> .mk 15 [] (kN ks)
theorem ahN{l:List Tok}{f o:Nat}:∀(rs:List (List WN)) (acc:List Nd) (g a:Nat) (r:List Wrd),rs≠[]→(∀x∈rs,x≠[])→(∀x∈rs,∀k∈x,PW k.1 k.2∧o+2*dep k.2+1≤600)→
  (jM rs++sg [93]::r).length < f→(jM rs++sg [93]::r).length < g+1→rst l a=jM rs++sg [93]::r→
  rX l (lev 600 l f).1 g acc [] a o= .ok (.mk 14 [] (acc++kM rs)) (a+(jM rs).length+1)
 |[],_,_,_,_,h,_,_,_,_,_=>absurd rfl h
 |[x],acc,g,a,r,_,hx,hP,hf,hg,hr=>by
  have hj:jM [x]=jW x:=rfl;rw[hj]at hf hg hr ⊢;obtain⟨g',_,h1⟩:=acR (f:=f) (o:=o) (.inr rfl) acc x [] g a r (hx x (by simp)) (hP x (by simp)) hf hg hr
  rw[h1,if_neg (by decide)];rfl
 |x::y::rs,acc,g,a,r,_,hx,hP,hf,hg,hr=>by
  have hj:jM (x::y::rs)=jW x++sg [59]::jM (y::rs):=rfl;have hr':rst l a=jW x++sg [59]::(jM (y::rs)++sg [93]::r):=by rw[hr,hj];simp
  have hlen:(jW x++sg [59]::(jM (y::rs)++sg [93]::r)).length=(jM (x::y::rs)++sg [93]::r).length:=by rw[hj];simp
  have hlen2:(jW x++sg [59]::(jM (y::rs)++sg [93]::r)).length=(jW x).length+1+(jM (y::rs)++sg [93]::r).length:=by simp;omega
  obtain⟨g',hg',h1⟩:=acR (f:=f) (o:=o) (.inl rfl) acc x [] g a _ (hx x (by simp)) (hP x (by simp)) (by rw[hlen];exact hf) (by rw[hlen];exact hg) hr'
  rw[List.length_cons]at hg';rw[h1,if_pos rfl,List.nil_append,ahN (f:=f) (o:=o) (y::rs) (acc++[Nd.mk 15 [] (kN x)]) g' (a+(jW x).length+1) r (by simp) (fun z hz=>hx z (by simp at hz ⊢;exact .inr hz)) (fun z hz=>hP z (by simp at hz ⊢;exact .inr hz)) (by omega) (by omega) (jw (jG hr'))]
  rw[hj];simp;omega
theorem PW.prim{w:Wrd}{u:List Wrd}{m:Nd}(hh:∀r,hS (w::r) [45]=false)
  (h:∀(l:List Tok) f o r,hS r [40]=false→(w::(u++r)).length < f+1→o+2*dep m+1≤600→∀a,rst l a=w::(u++r)→oJ 600 l (lev 600 l f).1 a o= .ok m (a+(u.length+1))):PW (w::u) m:=fun l f o r hr hf ho a ha=>by
 have hpos:1≤(w::u++r).length:=by simp
 obtain⟨f,rfl⟩:∃k,f=k+1:=⟨f - 1,by omega⟩
 show rG l (unG 600 l (lev 600 l f).1 (lev 600 l f).2) a o=_;have hend:=jG ha;have hp:=h l f o r (hr [40] (by decide)) (by simpa using hf) ho a (by simpa using ha)
 have hlen:(w::u).length=u.length+1:=rfl;rw[hlen]at hend ⊢;exact acT (pJ (pJ (aa7 hp (by rw[ha];exact hh _) (by rw[hend];exact hr _ (by decide)) (by rw[hend];exact hr _ (by decide))) (by rw[hend];exact hr _ (by decide)) (by rw[hend];exact hr _ (by decide))) (by rw[hend];exact hr _ (by decide)) (by rw[hend];exact hr _ (by decide))) (by rw[hend];exact hr _ (by decide)) (by rw[hend];exact hr _ (by decide)) (by rw[hend];exact hr _ (by decide)) (by rw[hend];exact hr _ (by decide))
abbrev nmN(t:List UInt8):Nd:= .mk 1 t []
theorem PW.num(t:List UInt8):PW [(1,t)] (nmN t):=PW.prim (w:=(1,t)) (u:=[]) (fun r=>rfl) fun l f o r _ _ _ a ha=>by
 rw[oo (w:=(1,t)) (r:=r) ha,if_pos rfl];rfl
theorem PW.call{t:List UInt8}(ht:tx 2 t=true){ks:List WN}(hk:∀k∈ks,PW k.1 k.2∧HD k.1 [41]):PW ((2,t)::sg [40]::(jW ks++[sg [41]])) (.mk 13 t (kN ks)):=
 PW.prim (w:=(2,t)) (u:=sg [40]::(jW ks++[sg [41]])) (fun r=>by
  show (!decide ((2:Int)=1)&&decide (t=[45]))=false;simp[ark ht (c:=45) (m:=[]) (by decide)]) fun l f o r hr hf ho a h=>by
 have h:rst l a=(2,t)::sg [40]::(jW ks++sg [41]::r):=by rw[h];simp
 have hf:((2,t)::sg [40]::(jW ks++sg [41]::r)).length < f+1:=by simpa using hf
 rw[oo h,if_neg (show¬(2:Int)=1 by decide),agB ht,if_pos rfl,if_pos (by rfl)]
 have hL:=ac3 (l:=l) (f:=f) (o:=o+1) (e:=[41]) (by decide) (ks:=ks) (a:=a+2) (r:=r) (fun k hkm=>⟨(hk k hkm).1,by have:=wW (o:=13) (t:=t) (show k.2∈kN ks from List.mem_map_of_mem hkm);omega,(hk k hkm).2⟩) (by simp only[List.length_cons]at hf;omega) (jw (jw h))
 refine adP (by omega) ?_
 show gM _ (jv l (lev 600 l f).1 [41] (a+2) (o+1))=_;rw[hL];show Res.ok _ _=_
 congr 1;simp;omega
theorem PW.lst{ks:List WN}(hk:∀k∈ks,PW k.1 k.2∧HD k.1 [125]):PW (sg [123]::(jW ks++[sg [125]])) (.mk 16 [] (kN ks)):=
 PW.prim (w:=sg [123]) (u:=jW ks++[sg [125]]) (fun r=>rfl) fun l f o r hr hf ho a h=>by
 have h:rst l a=sg [123]::(jW ks++sg [125]::r):=by rw[h];simp
 have hf:(sg [123]::(jW ks++sg [125]::r)).length < f+1:=by simpa using hf
 rw[oo h,if_neg (by decide),if_neg (by simp[hN]),if_neg (by simp[hS]),if_neg (by simp[hS]),if_pos (by rfl)]
 have hL:=ac3 (l:=l) (f:=f) (o:=o+1) (e:=[125]) (by decide) (ks:=ks) (a:=a+1) (r:=r) (fun k hkm=>⟨(hk k hkm).1,by have:=wW (o:=16) (t:=[]) (show k.2∈kN ks from List.mem_map_of_mem hkm);omega,(hk k hkm).2⟩) (by simp only[List.length_cons]at hf;omega) (jw h)
 refine adP (by omega) ?_
 show gM _ (jv l (lev 600 l f).1 [125] (a+1) (o+1))=_;rw[hL];show Res.ok _ _=_
 congr 1;simp;omega
theorem PW.mat{rs:List (List WN)}(h0:rs≠[])(hx:∀x∈rs,x≠[])(hk:∀x∈rs,∀k∈x,PW k.1 k.2):PW (sg [91]::(jM rs++[sg [93]])) (.mk 14 [] (kM rs)):=
 PW.prim (w:=sg [91]) (u:=jM rs++[sg [93]]) (fun r=>rfl) fun l f o r hr hf ho a h=>by
 have h:rst l a=sg [91]::(jM rs++sg [93]::r):=by rw[h];simp
 have hf:(sg [91]::(jM rs++sg [93]::r)).length < f+1:=by simpa using hf
 rw[oo h,if_neg (by decide),if_neg (by simp[hN]),if_neg (by simp[hS]),if_pos (by rfl)]
 rw[List.length_cons]at hf;have hl:=aik h (by simp)
 rw[List.length_cons]at hl;have hL:=ahN (l:=l) (f:=f) (o:=o+1) rs [] (l.length+1) (a+1) r h0 hx (fun x hx k hkx=>by
  have d1:=wW (o:=15) (t:=[]) (show k.2∈kN x from List.mem_map_of_mem hkx)
  have d2:=wW (o:=14) (t:=[]) (k:= .mk 15 [] (kN x)) (ks:=kM rs) (List.mem_map.2 ⟨x,hx,rfl⟩);exact⟨hk x hx k hkx,by omega⟩) (by omega) (by omega) (jw h)
 refine adP (by omega) ?_
 rw[hL];show Res.ok _ _=_
 congr 1;simp;omega
theorem aaY{l:List Tok}{f o a:Nat}{t:List UInt8}{r:List Wrd}(h:rst l a=(1,t)::r)(h1:hS r [91]=false)(h2:hS r [94]=false)(U:Gr):unG 600 l (lev 600 l f).1 U a o= .ok (nmN t) (a+1):=by
 refine aa7 (by rw[oo (w:=(1,t)) (r:=r) h,if_pos rfl]) (by rw[h];rfl) ?_ ?_
 ·rw[jw h];exact h1
 ·rw[jw h];exact h2
theorem arM{l:List Tok}{f o a:Nat}{t:List UInt8}{r:List Wrd}(h:rst l a=sg [45]::(1,t)::r)(h1:hS r [91]=false)(h2:hS r [94]=false)(ho:o+1≤600)(hf:1≤f):unG 600 l (lev 600 l f).1 (lev 600 l f).2 a o= .ok (.mk 3 [] [nmN t]) (a+2):=by
 obtain⟨f,rfl⟩:∃k,f=k+1:=⟨f - 1,by omega⟩
 unfold unG;rw[bf,h,if_pos (by rfl)]
 refine adP ho ?_;show gM _ (unG 600 l (lev 600 l f).1 (lev 600 l f).2 (a+1) (o+1))=_;rw[aaY (jw h) h1 h2];rfl
def zWd(z:Int):List Wrd:=if z < 0 then [sg [45],(1,aH z.natAbs)]else [(1,aH z.natAbs)]
def zNd(z:Int):Nd:=if z < 0 then .mk 3 [] [nmN (aH z.natAbs)]else nmN (aH z.natAbs)
theorem un_z{l:List Tok}{f o a:Nat}{z:Int}{r:List Wrd}(h:rst l a=zWd z++r)(h1:hS r [91]=false)(h2:hS r [94]=false)(ho:o+1≤600)(hf:1≤f):unG 600 l (lev 600 l f).1 (lev 600 l f).2 a o= .ok (zNd z) (a+(zWd z).length):=by
 unfold zWd at h ⊢;unfold zNd
 split at h
 ·rename_i hz;rw[if_pos hz,if_pos hz];exact arM h h1 h2 ho hf
 ·rename_i hz;rw[if_neg hz,if_neg hz];exact aaY h h1 h2 _
theorem PW.z(z:Int):PW (zWd z) (zNd z):=fun l f o r hr hf ho a ha=>by
 have hpos:1≤(zWd z).length:=by unfold zWd;split <;> simp
 rw[List.length_append]at hf;obtain⟨f,rfl⟩:∃k,f=k+1:=⟨f - 1,by omega⟩
 show rG l (unG 600 l (lev 600 l f).1 (lev 600 l f).2) a o=_;have hend:=jG ha;exact acT (pJ (pJ (un_z ha (hr _ (by decide)) (hr _ (by decide)) (by omega) (by omega)) (by rw[hend];exact hr _ (by decide)) (by rw[hend];exact hr _ (by decide))) (by rw[hend];exact hr _ (by decide)) (by rw[hend];exact hr _ (by decide))) (by rw[hend];exact hr _ (by decide)) (by rw[hend];exact hr _ (by decide)) (by rw[hend];exact hr _ (by decide)) (by rw[hend];exact hr _ (by decide))
theorem PW.frac(z:Int)(t:List UInt8):PW (zWd z++sg [47]::[(1,t)]) (.mk 7 [] [zNd z,nmN t]):=fun l f o r hr hf ho a ha=>by
 have hpos:1≤(zWd z).length:=by unfold zWd;split <;> simp
 rw[List.length_append,List.length_append]at hf;obtain⟨f,rfl⟩:∃k,f=k+1:=⟨f - 1,by omega⟩
 show rG l (unG 600 l (lev 600 l f).1 (lev 600 l f).2) a o=_;have ha:rst l a=zWd z++(sg [47]::((1,t)::r)):=by rw[ha];simp
 have e1:=jG ha;have e2:=jw e1;have e3:=jw e2;have u1:=un_z (f:=f) (o:=o) ha rfl rfl (by omega) (by omega)
 have u2:=aaY (f:=f) (o:=o) e2 (hr _ (by decide)) (hr _ (by decide)) (lev 600 l f).2
 have hc:=amt (l:=l) (s1:=[42]) (s2:=[47]) (x:=6) (y:=7) u1 (by rw[e1];rfl) (by rw[e1];rfl) u2 (by rw[e3];exact hr _ (by decide)) (by rw[e3];exact hr _ (by decide))
 have hfin:a+(zWd z).length+1+1=a+(zWd z++sg [47]::[(1,t)]).length:=by simp;omega
 rw[←hfin];exact acT (pJ hc (by rw[e3];exact hr _ (by decide)) (by rw[e3];exact hr _ (by decide))) (by rw[e3];exact hr _ (by decide)) (by rw[e3];exact hr _ (by decide)) (by rw[e3];exact hr _ (by decide)) (by rw[e3];exact hr _ (by decide))
end
end Go.Proofs.YtmgfiodmdfaclaaGreatDoor