import Derived.Test.YtegehclknhmkgaaGreatDoorA17
import Derived.Test.YtegehclknhmkgaaGreatDoorA21
import Derived.Test.YtegehclknhmkgaaGreatDoorA11
set_option linter.unusedVariables false
set_option linter.unusedSimpArgs false
namespace Go.Proofs.YtegehclknhmkgaaGreatDoor
open Go.RowKit QM SX LA
section
abbrev qU(bs:List UInt8):Ent:= .row 5 1 bs.length (bs.flatMap jA)
def acF:Bool→Atom
 |true=> .ptr 81 3
 |false=> .c (.val (.pointer none))
abbrev mB(F B:Nat)(u:Bool)(la:Vl):List Atom:=[.c (.val (.int .i64 (F:Int))),.c (.val (.int .i64 (B:Int))),.own 82,acF u,.own 84,.c (.val (.int .i64 la.k)),.c (.val (.bool la.q.1)),.c (.sat (dQ la.q.2.1)),.c (.val (.bool la.q.2.2.1)),.c (.sat (dQ la.q.2.2.2)),.c (.val (.int .i64 la.r)),.c (.val (.int .i64 la.c)),.c (.sat (aF 4 q4C (la.a.map rq))),.c (.sat (aF 2 z2C (la.po.map rz))),.c (.val (.int .u64 (la.p:Int))),.c (.val (.int .i64 la.fr)),.c (.val (.int .i64 la.fc)),.c (.sat (aF 1 wdC la.fa)),.c (.sat (aF 1 wdC la.ri)),.c (.sat (aF 15 vlC la.li)),.c (.val (.int .i64 0))]
abbrev MB(F B:Nat)(u:Bool)(la:Vl):Ent:= .box 72 (mB F B u la)
abbrev Nms:=List (List UInt8×Vl)
def nmC(nm:Nms):List (List UInt8×List CA):=nm.map fun p=>(p.1,vlE p.2)
abbrev ME(F B:Nat)(nm:Nms)(u:Bool)(la:Vl)(tx:List UInt8):List (Nat×Ent):=[(81,MB F B u la),(82,.abs (gI (nmC nm))),(84,qU tx)]
abbrev MO(F B:Nat)(nm:Nms)(u:Bool)(la:Vl)(tx:List UInt8):List (Nat×Slot):=[(81,.ent (MB F B u la)),(82,.ent (.abs (gI (nmC nm)))),(84,.ent (qU tx))]
attribute [local irreducible] IntKind.wrap Go1 Reg WP aN aQ bM bI aL aC aj ah aT Sat
attribute [local irreducible] dz bU bV dA bT qv dN mf PrP qOk zOk vP dZ lz vF cq rqv fT dJ eD bX gD jn sq aO qS zS tS tbS plS mdS
theorem aln(F Bt n:Nat)(nm:Nms)(u:Bool)(la:Vl)(tx:List UInt8)(h:F+n≤1000000000):ah Tryz.prog 139 [.ptr 81 0,.v (.int .i64 (n:Int))] (ME (F+n) Bt nm u la tx) ⟨.v (.bool true),MO F Bt nm u la tx⟩:=by
 refine ah.fnM Tryz.func139 Tryz.results139 Tryz.ntmps139 rfl rfl rfl rfl (by first|rfl|(cases u <;> rfl)) (by first|rfl|(cases u <;> rfl)) (by first|rfl|(cases u <;> rfl)) (fun w0 T B E0 hB=>?_)
 refine SX.goM ?_;have e:F+n - n=F:=by omega
 refine gG (xs:=[.one (.c (.val (.bool true)))]) ⟨aj.tmp rfl,trivial⟩ ⟨?_,rfl,rfl,trivial⟩;refine Eq.trans (b:=Slot.ent (Ent.box 72 (.c (.val (.int .i64 ((F+n - n:Nat):Int)))::(mB F Bt u la).tail))) rfl ?_;rw[e];rfl
theorem lY(F B:Nat)(nm:Nms)(u:Bool)(la:Vl)(tx:List UInt8)(h:F+1≤1000000000):ah Tryz.prog 139 [.ptr 81 0,.v (.int .i64 1)] (ME (F+1) B nm u la tx) ⟨.v (.bool true),MO F B nm u la tx⟩:=aln F B 1 nm u la tx h
section
variable(v:Vl)
theorem aij(h:v.k=2)(hl:v.a.length≤1000000):PureOK Tryz.prog 224 [.agg (vlA v)] (.v (.int .i64 (v.a.length:Int))):=by
 have e:(v.a.map rq).length=v.a.length:=List.length_map _;refine PureOK.fnF Tryz.func224 Tryz.results224 Tryz.ntmps224 rfl rfl rfl (by simp[AV.ids,AV0.ids,Atom.ids]) rfl (fun w0 T B E0 hB=>?_)
 refine SX.goM ?_;refine iN ?_;rw[e]
theorem ahy(h:v.k=3)(hl:v.po.length≤1000000):PureOK Tryz.prog 224 [.agg (vlA v)] (.v (.int .i64 (v.po.length:Int))):=by
 have e:(v.po.map rz).length=v.po.length:=List.length_map _;refine PureOK.fnF Tryz.func224 Tryz.results224 Tryz.ntmps224 rfl rfl rfl (by simp[AV.ids,AV0.ids,Atom.ids]) rfl (fun w0 T B E0 hB=>?_)
 refine SX.goM ?_;refine iN ?_;rw[e]
theorem aht(h:v.k=4)(hl:v.fa.length≤1000000):PureOK Tryz.prog 224 [.agg (vlA v)] (.v (.int .i64 (v.fa.length:Int))):=by
 refine PureOK.fnF Tryz.func224 Tryz.results224 Tryz.ntmps224 rfl rfl rfl (by simp[AV.ids,AV0.ids,Atom.ids]) rfl (fun w0 T B E0 hB=>?_)
 refine SX.goM ?_;exact iN rfl
theorem aiy(h:v.k=5)(hl:v.ri.length≤1000000):PureOK Tryz.prog 224 [.agg (vlA v)] (.v (.int .i64 (v.ri.length:Int))):=by
 refine PureOK.fnF Tryz.func224 Tryz.results224 Tryz.ntmps224 rfl rfl rfl (by simp[AV.ids,AV0.ids,Atom.ids]) rfl (fun w0 T B E0 hB=>?_)
 refine SX.goM ?_;exact iN rfl
theorem ko(h:¬v.k=6):PureOK Tryz.prog 222 [.agg (vlA v)] (.v (.int .i64 0)):=by
 refine PureOK.fnF Tryz.func222 Tryz.results222 Tryz.ntmps222 rfl rfl rfl (by simp[AV.ids,AV0.ids,Atom.ids]) rfl (fun w0 T B E0 hB=>?_)
 refine SX.goM ?_;exact iN rfl
end
theorem uN(v:Vl)(g:Vl→Nat)(h:¬v.k=2∧¬v.k=3∧¬v.k=4∧¬v.k=5)(hl:(v.li.map g).sum≤1000000)(hn:v.li.length≤1000000)(hx:∀x∈v.li,PureOK Tryz.prog 224 [.agg (vlA x)] (.v (.int .i64 (g x:Int)))):
  PureOK Tryz.prog 224 [.agg (vlA v)] (.v (.int .i64 ((1+(v.li.map g).sum:Nat):Int))):=by
 obtain⟨h2,h3,h4,h5⟩:=h;rw[ak1];refine PureOK.fnF Tryz.func224 Tryz.results224 Tryz.ntmps224 rfl rfl rfl (by simp[AV.ids,AV0.ids,Atom.ids]) rfl (fun w0 T B E0 hB=>?_)
 refine SX.goM ?_;refine W.loop (fun k=>k≤v.li.length) (fun k=>[(3,.v (.int .i64 ((1+((v.li.take k).map g).sum:Nat):Int))),(31,.r (aF 15 vlE v.li)),(32,.v (.int .i64 (v.li.length:Int))),(33,.v (.int .i64 (k:Int)))]) (fun _=>[]) (fun k=>v.li.length - k) 0 (Nat.zero_le _) (fun k hk=>?_)
 by_cases hlt:k < v.li.length
 ·obtain⟨x,hx'⟩:∃x,v.li[k]? =some x:=⟨_,List.getElem?_eq_getElem hlt⟩
  have c:=hx x (List.mem_of_getElem? hx');have e1:((v.li.take (k+1)).map g).sum=((v.li.take k).map g).sum+g x:=by rw[List.take_add_one,hx'];simp
  have e2:((v.li.take (k+1)).map g).sum≤(v.li.map g).sum:=by
   conv=>rhs;rw[←List.take_append_drop (k+1) v.li,List.map_append,List.sum_append]
   omega
  refine SX.goM ?_;exact W.next (k+1) hlt (by omega)
 ·obtain rfl:k=v.li.length:=by omega
  rw[List.take_length];refine SX.goM ?_;exact iN rfl
theorem acS(v:Vl)(g:Vl→Nat)(h:v.k=6)(hl:v.li.length≤1000000)(hg:∀x∈v.li,g x≤100)(hx:∀x∈v.li,PureOK Tryz.prog 222 [.agg (vlA x)] (.v (.int .i64 (g x:Int)))):
  PureOK Tryz.prog 222 [.agg (vlA v)] (.v (.int .i64 ((1+(v.li.map g).foldl max 0:Nat):Int))):=by
 rw[ak1];refine PureOK.fnF Tryz.func222 Tryz.results222 Tryz.ntmps222 rfl rfl rfl (by simp[AV.ids,AV0.ids,Atom.ids]) rfl (fun w0 T B E0 hB=>?_)
 refine SX.goM ?_;refine W.lC (fun k m=>k≤v.li.length∧m≤100∧m=((v.li.take k).map g).foldl max 0) (fun k m=>[(3,.v (.int .i64 (m:Int))),(10,.r (aF 15 vlE v.li)),(11,.v (.int .i64 (v.li.length:Int))),(12,.v (.int .i64 (k:Int)))]) (fun _ _=>[]) (fun k _=>v.li.length - k) 0 0 ⟨Nat.zero_le _,Nat.zero_le _,rfl⟩ (fun k m ⟨hk,hm,hmm⟩=>?_)
 by_cases hlt:k < v.li.length
 ·obtain⟨x,hx'⟩:∃x,v.li[k]? =some x:=⟨_,List.getElem?_eq_getElem hlt⟩
  have c:=hx x (List.mem_of_getElem? hx');have hgx:=hg x (List.mem_of_getElem? hx');have e1:((v.li.take (k+1)).map g).foldl max 0=max m (g x):=by rw[List.take_add_one,hx',hmm];simp
  refine SX.goM ?_;exact W.kG (k+1) (max m (g x)) ⟨hlt,by omega,e1.symm⟩ (by omega)
 ·obtain rfl:k=v.li.length:=by omega
  rw[List.take_length]at hmm;refine SX.goM ?_;refine iN ?_;rw[←hmm]
end
section
abbrev ndM(n:Nd):List Atom:=[.c (.val (.int .i64 n.op)),.c (.val (str n.text)),.c (.sat (aF 3 ndE n.kids))]
theorem vH(n:Nd):AV.agg (ndA n)=AV.agg (ndM n):=by
 unfold ndA ndM;rw[show ndC=ndE from funext aD]
structure VI(B s:Nat)(v:Vl):Prop where
 n:∃d:Nat,d≤20∧PureOK Tryz.prog 222 [.agg (vlA v)] (.v (.int .i64 (d:Int)))
 b:∃b:Nat,b≤B∧PureOK Tryz.prog 223 [.agg (vlA v)] (.v (.int .i64 (b:Int)))
 s:PureOK Tryz.prog 224 [.agg (vlA v)] (.v (.int .i64 (s:Int)))
def EX(B:Nat)(nm:Nms)(n:Nd)(k:Nat)(v:Vl):Prop:=∀F u la tx,F+k≤1000000000→ah Tryz.prog 140 [.ptr 81 0,.agg (ndA n)] (ME (F+k) B nm u la tx) ⟨.agg (vlA v),MO F B nm u la tx⟩
def AL(B:Nat)(nm:Nms)(ns:List Nd)(k:Nat)(vs:List Vl):Prop:=∀F u la tx,F+k≤1000000000→ah Tryz.prog 190 [.ptr 81 0,.r (aF 3 ndE ns)] (ME (F+k) B nm u la tx) ⟨.r (aF 15 vlE vs),MO F B nm u la tx⟩
theorem alg{nm:Nms}{t:List UInt8}{v:Vl}(h:dF nm t=some v):dF (nmC nm) t=some (vlE v):=by
 induction nm with
 |nil=>cases h
 |cons p nm ih=>
  obtain⟨k,c⟩:=p;unfold dF at h;show (if t=k then some (vlE c)else dF (nmC nm) t)=_
  by_cases hk:t=k
  ·rw[if_pos hk]at h ⊢;cases h;rfl
  ·rw[if_neg hk]at h ⊢;exact ih h
theorem afU(nm:Nms)(t:List UInt8)(v:Vl):nmC (eG nm t v)=eG (nmC nm) t (vlE v):=by
 induction nm with
 |nil=>rfl
 |cons p nm ih=>
  obtain⟨k,c⟩:=p;show nmC (if t=k then(k,v)::nm else(k,c)::eG nm t v)=(if t=k then(k,vlE v)::nmC nm else(k,vlE c)::eG (nmC nm) t (vlE v))
  by_cases hk:t=k
  ·rw[if_pos hk,if_pos hk];rfl
  ·rw[if_neg hk,if_neg hk];show (k,vlE c)::nmC (eG nm t v)=_;rw[ih]
attribute [local irreducible] IntKind.wrap Go1 Reg WP aN aQ bM bI aL aC aj ah aT Sat
attribute [local irreducible] dz bU bV dA bT qv dN mf PrP qOk zOk vP dZ lz vF cq rqv fT dJ eD bX gD jn sq aO qS zS tS tbS plS mdS dF eG nmC
theorem yR(F B s:Nat)(nm:Nms)(u:Bool)(la:Vl)(tx:List UInt8){v:Vl}(h:VI B s v)(hB:B≤1000000000)(hF:F+s≤1000000000):ah Tryz.prog 186 [.ptr 81 0,.agg (vlA v),.v (.int .i64 0)] (ME (F+s) B nm u la tx) ⟨.agg (vlA v),MO F B nm u la tx⟩:=by
 obtain⟨⟨d,hd,cN⟩,⟨b,hb,cB⟩,cS⟩:=h;have cT:=aln F B s nm u la tx hF;cases u <;> (
  refine ah.fnM Tryz.func186 Tryz.results186 Tryz.ntmps186 rfl rfl rfl rfl (by first|rfl|(cases u <;> rfl)) (by first|rfl|(cases u <;> rfl)) (by first|rfl|(cases u <;> rfl)) (fun w0 Tw Bw E0 hB=>?_)
  refine SX.goM ?_;exact gG (xs:=[.agg (vlA v)]) ⟨aj.gK rfl rfl rfl,trivial⟩ ⟨rfl,rfl,rfl,trivial⟩
 )
theorem anA(F B:Nat){nm:Nms}(u:Bool)(la:Vl)(tx:List UInt8){t:List UInt8}{v:Vl}(h:dF (nmC nm) t=some (vlE v)):ah Tryz.prog 188 [.ptr 81 0,.v (str t)] (ME F B nm u la tx) ⟨.tup [.agg (vlA v),eNo 0],MO F B nm u la tx⟩:=by
 refine ah.fnM Tryz.func188 Tryz.results188 Tryz.ntmps188 rfl rfl rfl rfl (by first|rfl|(cases u <;> rfl)) (by first|rfl|(cases u <;> rfl)) (by first|rfl|(cases u <;> rfl)) (fun w0 Tw Bw E0 hB=>?_)
 refine SX.goM ?_;exact gG (xs:=[.agg (vlA v),eNo 0]) ⟨aj.gK rfl rfl rfl,aj.tmp rfl,trivial⟩ ⟨rfl,rfl,rfl,trivial⟩
theorem aki(B:Nat)(nm:Nms)(ns:List Nd)(ks:List Nat)(vs:List Vl)(hk:ks.length=ns.length)(hv:vs.length=ns.length)(hl:ns.length≤100000)
  (h:∀(i:Nat) n k v,ns[i]? =some n→ks[i]? =some k→vs[i]? =some v→EX B nm n k v):AL B nm ns ks.sum vs:=fun F u la tx hF=>by
 cases u with
 |false=>
  refine ah.fnM Tryz.func190 Tryz.results190 Tryz.ntmps190 rfl rfl rfl rfl (by first|rfl|(cases u <;> rfl)) (by first|rfl|(cases u <;> rfl)) (by first|rfl|(cases u <;> rfl)) (fun w0 Tw Bw E0 hB=>?_)
  refine SX.goM ?_;refine W.lC (fun k fu=>k≤ns.length∧fu=F+(ks.drop k).sum) (fun k fu=>[(0,.ptr 81 0),(5,.own 100),(8,.r (aF 3 ndE ns)),(9,.v (.int .i64 (ns.length:Int))),(10,.v (.int .i64 (k:Int)))]) (fun k fu=>[(81,MB fu B false la),(82,.abs (gI (nmC nm))),(84,qU tx),(100,.row 50 15 k ((vs.take k).flatMap vlE))]) (fun k _=>ns.length - k) 0 (F+ks.sum) ⟨Nat.zero_le _,rfl⟩ (fun k fu ⟨hkn,hfu⟩=>?_)
   (by
    refine SX.St.bG [(100,none)] (by intro b h;exact SX.dw h rfl) ?_ ?_ rfl
    ·repeat(first|exact trivial|refine⟨⟨_,rfl,SX.aG.same rfl⟩,?_⟩|refine⟨⟨_,rfl,SX.aG.nil rfl⟩,?_⟩)
    ·exact⟨SX.ak.same rfl rfl,SX.ak.same rfl rfl,SX.ak.same rfl rfl,SX.ak.dL rfl,trivial⟩)
  by_cases hlt:k < ns.length
  ·obtain⟨n,hn⟩:∃n,ns[k]? =some n:=⟨_,List.getElem?_eq_getElem hlt⟩
   obtain⟨c,hc⟩:∃c,ks[k]? =some c:=⟨_,List.getElem?_eq_getElem (by omega)⟩
   obtain⟨v,hvk⟩:∃v,vs[k]? =some v:=⟨_,List.getElem?_eq_getElem (by omega)⟩
   have hsum:(ks.drop k).sum=c+(ks.drop (k+1)).sum:=by
    obtain⟨hk2,e⟩:=List.getElem?_eq_some_iff.1 hc
    rw[List.drop_eq_getElem_cons hk2,e,List.sum_cons]
   have hle:(ks.drop k).sum≤ks.sum:=by
    conv=>rhs;rw[←List.take_append_drop k ks,List.sum_append]
    omega
   obtain⟨f',rfl⟩:∃f',fu=f'+c:=⟨F+(ks.drop (k+1)).sum,by omega⟩
   have cE:=h k n c v hn hc hvk f' false la tx (by omega)
   have e2:(vs.take k).flatMap vlE++vlE v=(vs.take (k+1)).flatMap vlE:=by rw[j5 hvk];simp
   refine SX.goM ?_;refine W.kG (k+1) f' ⟨hlt,by omega⟩ (by omega) (by
    refine SX.St.bG [(100,some 19)] (by intro b h;exact SX.dw h rfl) ?_ ?_ rfl
    ·repeat(first|exact trivial|refine⟨⟨_,rfl,SX.aG.same rfl⟩,?_⟩|refine⟨⟨_,rfl,SX.aG.own rfl⟩,?_⟩)
    ·exact⟨SX.ak.same rfl rfl,SX.ak.same rfl rfl,SX.ak.same rfl rfl,SX.ak.row rfl rfl rfl e2,trivial⟩)
  ·obtain rfl:k=vs.length:=by omega
   rw[List.drop_of_length_le (by omega),List.sum_nil]at hfu
   subst hfu;rw[List.take_length];refine SX.goM ?_;refine aL.frzM 100 hB rfl rfl rfl rfl ?_;exact gG (xs:=[.one (.c (.sat (aF 15 vlE vs)))]) ⟨aj.tmp rfl,trivial⟩ ⟨rfl,rfl,rfl,trivial⟩
 |true=>
  refine ah.fnM Tryz.func190 Tryz.results190 Tryz.ntmps190 rfl rfl rfl rfl (by first|rfl|(cases u <;> rfl)) (by first|rfl|(cases u <;> rfl)) (by first|rfl|(cases u <;> rfl)) (fun w0 Tw Bw E0 hB=>?_)
  refine SX.goM ?_;refine W.lC (fun k fu=>k≤ns.length∧fu=F+(ks.drop k).sum) (fun k fu=>[(0,.ptr 81 0),(5,.own 100),(8,.r (aF 3 ndE ns)),(9,.v (.int .i64 (ns.length:Int))),(10,.v (.int .i64 (k:Int)))]) (fun k fu=>[(81,MB fu B true la),(82,.abs (gI (nmC nm))),(84,qU tx),(100,.row 50 15 k ((vs.take k).flatMap vlE))]) (fun k _=>ns.length - k) 0 (F+ks.sum) ⟨Nat.zero_le _,rfl⟩ (fun k fu ⟨hkn,hfu⟩=>?_)
   (by
    refine SX.St.bG [(100,none)] (by intro b h;exact SX.dw h rfl) ?_ ?_ rfl
    ·repeat(first|exact trivial|refine⟨⟨_,rfl,SX.aG.same rfl⟩,?_⟩|refine⟨⟨_,rfl,SX.aG.nil rfl⟩,?_⟩)
    ·exact⟨SX.ak.same rfl rfl,SX.ak.same rfl rfl,SX.ak.same rfl rfl,SX.ak.dL rfl,trivial⟩)
  by_cases hlt:k < ns.length
  ·obtain⟨n,hn⟩:∃n,ns[k]? =some n:=⟨_,List.getElem?_eq_getElem hlt⟩
   obtain⟨c,hc⟩:∃c,ks[k]? =some c:=⟨_,List.getElem?_eq_getElem (by omega)⟩
   obtain⟨v,hvk⟩:∃v,vs[k]? =some v:=⟨_,List.getElem?_eq_getElem (by omega)⟩
   have hsum:(ks.drop k).sum=c+(ks.drop (k+1)).sum:=by
    obtain⟨hk2,e⟩:=List.getElem?_eq_some_iff.1 hc
    rw[List.drop_eq_getElem_cons hk2,e,List.sum_cons]
   have hle:(ks.drop k).sum≤ks.sum:=by
    conv=>rhs;rw[←List.take_append_drop k ks,List.sum_append]
    omega
   obtain⟨f',rfl⟩:∃f',fu=f'+c:=⟨F+(ks.drop (k+1)).sum,by omega⟩
   have cE:=h k n c v hn hc hvk f' true la tx (by omega)
   have e2:(vs.take k).flatMap vlE++vlE v=(vs.take (k+1)).flatMap vlE:=by rw[j5 hvk];simp
   refine SX.goM ?_;refine W.kG (k+1) f' ⟨hlt,by omega⟩ (by omega) (by
    refine SX.St.bG [(100,some 19)] (by intro b h;exact SX.dw h rfl) ?_ ?_ rfl
    ·repeat(first|exact trivial|refine⟨⟨_,rfl,SX.aG.same rfl⟩,?_⟩|refine⟨⟨_,rfl,SX.aG.own rfl⟩,?_⟩)
    ·exact⟨SX.ak.same rfl rfl,SX.ak.same rfl rfl,SX.ak.same rfl rfl,SX.ak.row rfl rfl rfl e2,trivial⟩)
  ·obtain rfl:k=vs.length:=by omega
   rw[List.drop_of_length_le (by omega),List.sum_nil]at hfu
   subst hfu;rw[List.take_length];refine SX.goM ?_;refine aL.frzM 100 hB rfl rfl rfl rfl ?_;exact gG (xs:=[.one (.c (.sat (aF 15 vlE vs)))]) ⟨aj.tmp rfl,trivial⟩ ⟨rfl,rfl,rfl,trivial⟩
section
variable{B:Nat}{nm:Nms}{n:Nd}{v:Vl}{s:Nat}(hB0:B≤1000000000)
include hB0
theorem EX.num(hop:n.op=1){z:Nat}(cP:PureOK Tryz.prog 185 [.v (str n.text)] (.tup [.agg (zN z),.one (.c (.val (.bool true)))]))(cW:PureOK Tryz.prog 187 [.agg (zN z)] (.agg (vlA v)))(hv:VI B s v):EX B nm n (s+1) v:=fun F u la tx hF=>by
 have c1:=lY (F+s) B nm u la tx (by omega)
 have c2:=yR F B s nm u la tx hv hB0 (by omega)
 rw[show F+(s+1)=F+s+1 from rfl,vH]
 cases u <;> (
  refine ah.fnM Tryz.func140 Tryz.results140 Tryz.ntmps140 rfl rfl rfl rfl (by first|rfl|(cases u <;> rfl)) (by first|rfl|(cases u <;> rfl)) (by first|rfl|(cases u <;> rfl)) (fun w0 Tw Bw E0 hB=>?_)
  refine SX.goM ?_;exact gG (xs:=[.agg (vlA v)]) ⟨aj.gK rfl rfl rfl,trivial⟩ ⟨rfl,rfl,rfl,trivial⟩
 )
theorem EX.name(hop:n.op=2)(hl:dF nm n.text=some v)(hv:VI B s v):EX B nm n (s+1) v:=fun F u la tx hF=>by
 have c1:=lY (F+s) B nm u la tx (by omega)
 have c2:=yR F B s nm u la tx hv hB0 (by omega)
 have c3:=anA (F+s) B u la tx (alg hl);rw[show F+(s+1)=F+s+1 from rfl,vH]
 cases u <;> (
  refine ah.fnM Tryz.func140 Tryz.results140 Tryz.ntmps140 rfl rfl rfl rfl (by first|rfl|(cases u <;> rfl)) (by first|rfl|(cases u <;> rfl)) (by first|rfl|(cases u <;> rfl)) (fun w0 Tw Bw E0 hB=>?_)
  refine SX.goM ?_;exact gG (xs:=[.agg (vlA v)]) ⟨aj.gK rfl rfl rfl,trivial⟩ ⟨rfl,rfl,rfl,trivial⟩
 )
theorem EX.opr(hop:¬n.op=1∧¬n.op=2∧¬n.op=14){k:Nat}{vs:List Vl}(hA:AL B nm n.kids k vs)(cO:PureOK Tryz.prog 191 [.agg (ndM n),.r (aF 15 vlE vs)] (.tup [.agg (vlA v),eNo 0]))(hv:VI B s v):EX B nm n (s+k+1) v:=fun F u la tx hF=>by
 obtain⟨h1,h2,h3⟩:=hop;have c1:=lY (F+s+k) B nm u la tx (by omega)
 have cA:=hA (F+s) u la tx (by omega)
 have c2:=yR F B s nm u la tx hv hB0 (by omega)
 rw[show F+(s+k+1)=F+s+k+1 by omega,vH]
 cases u <;> (
  refine ah.fnM Tryz.func140 Tryz.results140 Tryz.ntmps140 rfl rfl rfl rfl (by first|rfl|(cases u <;> rfl)) (by first|rfl|(cases u <;> rfl)) (by first|rfl|(cases u <;> rfl)) (fun w0 Tw Bw E0 hB=>?_)
  refine SX.goM ?_;exact gG (xs:=[.agg (vlA v)]) ⟨aj.gK rfl rfl rfl,trivial⟩ ⟨rfl,rfl,rfl,trivial⟩
 )
theorem EX.mat(hop:n.op=14){k:Nat}(hR:∀F u la tx,F+k≤1000000000→ah Tryz.prog 189 [.ptr 81 0,.r (aF 3 ndE n.kids)] (ME (F+k) B nm u la tx) ⟨.tup [.agg (vlA v),eNo 0],MO F B nm u la tx⟩)(hv:VI B s v):EX B nm n (s+k+1) v:=fun F u la tx hF=>by
 have c1:=lY (F+s+k) B nm u la tx (by omega)
 have cA:=hR (F+s) u la tx (by omega)
 have c2:=yR F B s nm u la tx hv hB0 (by omega)
 rw[show F+(s+k+1)=F+s+k+1 by omega,vH]
 cases u <;> (
  refine ah.fnM Tryz.func140 Tryz.results140 Tryz.ntmps140 rfl rfl rfl rfl (by first|rfl|(cases u <;> rfl)) (by first|rfl|(cases u <;> rfl)) (by first|rfl|(cases u <;> rfl)) (fun w0 Tw Bw E0 hB=>?_)
  refine SX.goM ?_;exact gG (xs:=[.agg (vlA v)]) ⟨aj.gK rfl rfl rfl,trivial⟩ ⟨rfl,rfl,rfl,trivial⟩
 )
end
section
variable{n:Nd}{v:Vl}
theorem ajP(hop:n.op=3){a:Vl}(c:PureOK Tryz.prog 228 [.v (.int .i64 3),.agg (vlA a)] (.tup [.agg (vlA v),eNo 0])):PureOK Tryz.prog 191 [.agg (ndM n),.r (aF 15 vlE [a])] (.tup [.agg (vlA v),eNo 0]):=by
 have ha:[a][0]? =some a:=rfl;rw[←hop]at c;refine PureOK.fnF Tryz.func191 Tryz.results191 Tryz.ntmps191 rfl rfl rfl (by simp[AV.ids,AV0.ids,Atom.ids]) rfl (fun w0 T B E0 hB=>?_)
 refine SX.goM ?_;exact .ok (aC.mk2 (aj.gK rfl rfl rfl) (aj.tmp rfl))
theorem ag5(hop:n.op=13){vs:List Vl}(c:PureOK Tryz.prog 229 [.v (str n.text),.r (aF 15 vlE vs)] (.tup [.agg (vlA v),eNo 0])):PureOK Tryz.prog 191 [.agg (ndM n),.r (aF 15 vlE vs)] (.tup [.agg (vlA v),eNo 0]):=by
 refine PureOK.fnF Tryz.func191 Tryz.results191 Tryz.ntmps191 rfl rfl rfl (by simp[AV.ids,AV0.ids,Atom.ids]) rfl (fun w0 T B E0 hB=>?_)
 refine SX.goM ?_;exact .ok (aC.mk2 (aj.gK rfl rfl rfl) (aj.tmp rfl))
theorem akk(hop:4≤n.op∧n.op≤12){a b:Vl}(c:PureOK Tryz.prog 231 [.v (.int .i64 n.op),.agg (vlA a),.agg (vlA b)] (.tup [.agg (vlA v),eNo 0])):PureOK Tryz.prog 191 [.agg (ndM n),.r (aF 15 vlE [a,b])] (.tup [.agg (vlA v),eNo 0]):=by
 have ha:[a,b][0]? =some a:=rfl;have hb:[a,b][1]? =some b:=rfl;refine PureOK.fnF Tryz.func191 Tryz.results191 Tryz.ntmps191 rfl rfl rfl (by simp[AV.ids,AV0.ids,Atom.ids]) rfl (fun w0 T B E0 hB=>?_)
 refine SX.goM ?_;exact .ok (aC.mk2 (aj.gK rfl rfl rfl) (aj.tmp rfl))
end
end
section
theorem apw(bs s:List UInt8):bs.length+s.length=(bs++s).length:=List.length_append.symm
theorem aoN(bs s:List UInt8):bs.flatMap jA++s.flatMap jA=(bs++s).flatMap jA:=List.flatMap_append.symm
abbrev wrt(tx:List UInt8):Bool:=!tx.isEmpty
def kE(F B:Nat)(nm:Nms)(la:Vl)(tx:List UInt8):lD:=lM 81 (fun _:Unit=>True) 72 (fun _=>mB F B (wrt tx) la) (fun _=>[(82,.abs (gI (nmC nm))),(84,qU tx)])
theorem aoG{F B:Nat}{u:Bool}{la:Vl}{i:Nat}(h:i∈(mB F B u la).flatMap Atom.ids):i=82∨i=81∨i=84:=by
 cases u
 ·have h':i=82∨i=84:=by simpa[acF,Atom.ids]using h
  rcases h' with h'|h'
  ·exact .inl h'
  ·exact .inr (.inr h')
 ·have h':i=82∨i=81∨i=84:=by simpa[acF,Atom.ids]using h
  exact h'
theorem qE{P:Program}{C:Ctx}{st:St}{Q:Exit→St→Prop}{cd:Code}{F B:Nat}{nm:Nms}{la:Vl}{tx:List UInt8}(hb:st.hp 81= .ent (.abs (kE F B nm la tx)))(h1:st.hp 82= .free)(h2:st.hp 84= .free)(f1:C.fix 82=false)(f2:C.fix 84=false)
  (h:WP P C cd (uP st 81 72 (mB F B (wrt tx) la) [(82,.abs (gI (nmC nm))),(84,qU tx)]) Q):WP P C cd st Q:=
 WP.ahj (ι:=Unit) (b:=81) [82,84] hb (fun p=>rfl) (by intro i hi;simp at hi;rcases hi with rfl|rfl <;> assumption) (by intro i hi;simp at hi;rcases hi with rfl|rfl <;> assumption)
  (by
   intro p i hi;rcases aoG hi with rfl|rfl|rfl <;> simp)
  (by intro p i e he;simp at he;rcases he with⟨rfl,rfl⟩|⟨rfl,rfl⟩ <;> rfl) (fun p hp=>h)
theorem ac4{ρ:List (Nat×Option Nat)}{u u':Bool}(e:u=u')(h:fresh ρ [81]=true):aA ρ (acF u) (acF u'):=by
 subst e;cases u
 ·exact aA.same rfl
 ·exact aA.same h
theorem zD{C:Ctx}{st:St}{F B:Nat}{nm:Nms}{la:Vl}{tx:List UInt8}{cells0:List Atom}(ρ:List (Nat×Option Nat))(os:List Nat)(hb:st.hp 81= .ent (.box 72 cells0))
  (hc:nP ρ cells0 (mB F B (wrt tx) la)) (hR:zT st ρ [(82,.abs (gI (nmC nm))),(84,qU tx)])
  (hos:(([(82,.abs (gI (nmC nm))),(84,qU tx)]:List (Nat×Ent)).all fun q=>match SX.src ρ q.1 with|some o=>iK os o|none=>true)=true) (hbo:iK os 81=false) (hdi:(([(82,.abs (gI (nmC nm))),(84,qU tx)]:List (Nat×Ent)).all fun q=>([(82,.abs (gI (nmC nm))),(84,qU tx)]:List (Nat×Ent)).all fun q'=>Nat.beq q.1 q'.1||!(eqO (SX.src ρ q.1) (SX.src ρ q'.1)))=true)
  (hfb:lk ρ 81=none:=by rfl):St.le C st (pE st 81 (kE F B nm la tx) os):=
 St.adk (ι:=Unit) (b:=81) () ρ os trivial hb hc hR hos hbo hdi hfb
abbrev S21{ρ:List (Nat×Option Nat)}{x:Atom}(h:fresh ρ x.ids=true:=by rfl):aA ρ x x:=aA.same h
theorem rF{C:Ctx}{st:St}{F B:Nat}{nm:Nms}{u:Bool}{la:Vl}{tx:List UInt8}(hu:u=wrt tx)(hb:st.hp 81= .ent (MB F B u la))(h2:st.hp 82= .ent (.abs (gI (nmC nm))))(h4:st.hp 84= .ent (qU tx)):St.le C st (pE st 81 (kE F B nm la tx) [82,84]):=
 zD [] [82,84] hb ⟨S21,S21,S21,ac4 hu rfl,S21,S21,S21,S21,S21,S21,S21,S21,S21,S21,S21,S21,S21,S21,S21,S21,S21,trivial⟩ ⟨SX.ak.same h2 rfl,SX.ak.same h4 rfl,trivial⟩ rfl rfl rfl
abbrev MP(F B:Nat)(nm:Nms)(la:Vl)(tx:List UInt8):List (Nat×Ent):=[(81,.abs (kE F B nm la tx))]
abbrev MQ(F B:Nat)(nm:Nms)(la:Vl)(tx:List UInt8):List (Nat×Slot):=[(81,.ent (.abs (kE F B nm la tx)))]
theorem ah.mach{f:FuncId}{args:List AV}{r:AV}{F F' B:Nat}{nm nm':Nms}{la la':Vl}{tx:List UInt8}(h:ah Tryz.prog f args (ME F B nm (wrt tx) la tx) ⟨r,MO F' B nm' (wrt tx) la' tx⟩)(hargs:∀v∈args,∀i∈v.ids,i=81)(hr:r.ids=[]):
  ah Tryz.prog f args (MP F B nm la tx) ⟨r,MQ F' B nm' la' tx⟩:=
 ah.bun (R:=[(82,.abs (gI (nmC nm))),(84,qU tx)]) (R':=[(82,.abs (gI (nmC nm'))),(84,qU tx)]) h hargs hr (by intro e he;simp at he)
theorem args1{a:AV}(h:a.ids=[]):∀v∈[AV.ptr 81 0,a],∀i∈v.ids,i=81:=by
 intro v hv i hi;simp at hv
 rcases hv with rfl|rfl
 ·simpa[AV.ids,AV0.ids,Atom.ids]using hi
 ·rw[h]at hi;cases hi
theorem EX.mach{B:Nat}{nm:Nms}{n:Nd}{k:Nat}{v:Vl}(h:EX B nm n k v)(F:Nat)(la:Vl)(tx:List UInt8)(hF:F+k≤1000000000):ah Tryz.prog 140 [.ptr 81 0,.agg (ndA n)] (MP (F+k) B nm la tx) ⟨.agg (vlA v),MQ F B nm la tx⟩:=
 ah.mach (h F (wrt tx) la tx hF) (args1 rfl) rfl
theorem wG(F B:Nat)(nm:Nms)(la:Vl)(tx:List UInt8)(h:F+1≤1000000000):ah Tryz.prog 139 [.ptr 81 0,.v (.int .i64 1)] (MP (F+1) B nm la tx) ⟨.v (.bool true),MQ F B nm la tx⟩:=
 ah.mach (lY F B nm (wrt tx) la tx h) (args1 rfl) rfl
theorem St.ajo{C:Ctx}{st:St}{b:Nat}{t:TypeId}{cells:List Atom}(hb:st.hp b= .ent (.box t cells)):St.le C st ⟨st.tm,upd st.hp b .gone⟩:=fun a w ⟨E,S,hs⟩=>by
 have hu:∀i,(st.hp i).used=true→(upd st.hp b .gone i).used=true:=fun i hi=>by
  by_cases e:i=b
  ·subst e;rw[upd_same];rfl
  ·rw[upd_ne _ _ e];exact hi
 have hk:∀c e,upd st.hp b .gone c= .ent e→st.hp c= .ent e:=fun c e hc=>by
  by_cases e1:c=b
  ·subst e1;rw[upd_same]at hc;cases hc
  ·rw[upd_ne _ _ e1]at hc;exact hc
 exact⟨E,S,{dfr:=hs.dfr,nt:=hs.nt,cT:=hs.cT,cT0:=hs.cT0,cS:=hs.cS,lt:=hs.lt,tm:=hs.tm,tid:=fun t v h i hi=>hu i (hs.tid t v h i hi),hp:=fun c e hc=>hs.hp c e (hk c e hc),hid:=fun c e hc i hi=>hu i (hs.hid c e (hk c e hc) i hi),blk:=fun c e k hc=>hs.blk c e k (hk c e hc),sep:=fun c c' e e' k hne hc hc'=>hs.sep c c' e e' k hne (hk c e hc) (hk c' e' hc'),off:=hs.off,env:=fun c hc=>let⟨g1,g2,g3⟩:=hs.env c hc;⟨g1,g2,hu c g3⟩,gl:=hs.gl}⟩
theorem apO(v:Value)(w:World):(callFunc 200 #[v]).run Tryz.prog w= .ok (.value v) w:=by
 rw[run_callFunc_extern Tryz.func200 (by kernel_rfl) (by kernel_rfl) (by kernel_rfl) (e:=Extern.AbiNoEscape.same) (by kernel_rfl)]
 rw[Lib.run_noEscape];rfl
theorem St.wK{C:Ctx}{a b c:St}(h:St.le C a b)(k:St.le C b c):St.le C a c:=fun x w hs=>k x w (h x w hs)
attribute [local irreducible] IntKind.wrap Go1 Reg WP aN aQ bM bI aL aC aj ah aT Sat
attribute [local irreducible] dz bU bV dA bT qv dN mf PrP qOk zOk vP dZ lz vF cq rqv fT dJ eD bX gD jn sq aO qS zS tS tbS plS mdS dF eG nmC
theorem am2(F B:Nat)(nm:Nms)(u:Bool)(la:Vl)(tx:List UInt8):ah Tryz.prog 156 [.ptr 81 3] (ME F B nm u la tx) ⟨.tup [],MO F B nm true la tx⟩:=by
 cases u with
 |false=>
  refine ah.fnM Tryz.func156 Tryz.results156 Tryz.ntmps156 rfl rfl rfl rfl (by first|rfl|(cases u <;> rfl)) (by first|rfl|(cases u <;> rfl)) (by first|rfl|(cases u <;> rfl)) (fun w0 Tw Bw E0 hB=>?_)
  refine SX.goM ?_;refine SX.Go1.alS (b:=81) (off:=3) rfl apO rfl ?_;refine SX.goM ?_;refine SX.Go1.apy (m:=21) rfl rfl rfl rfl (by kernel_rfl) ?_
  refine SX.goM ?_;exact gG (xs:=[]) trivial ⟨rfl,rfl,rfl,trivial⟩
 |true=>
  refine ah.fnM Tryz.func156 Tryz.results156 Tryz.ntmps156 rfl rfl rfl rfl (by first|rfl|(cases u <;> rfl)) (by first|rfl|(cases u <;> rfl)) (by first|rfl|(cases u <;> rfl)) (fun w0 Tw Bw E0 hB=>?_)
  refine SX.goM ?_;exact gG (xs:=[]) trivial ⟨rfl,rfl,rfl,trivial⟩
theorem aoK(F B:Nat)(nm:Nms)(la:Vl)(tx:List UInt8):ah Tryz.prog 192 [.ptr 81 3] (MP F B nm la tx) ⟨.v (.int .i64 (tx.length:Int)),MQ F B nm la tx⟩:=by
 refine ah.fnA Tryz.func192 Tryz.results192 Tryz.ntmps192 rfl rfl rfl rfl rfl rfl rfl rfl (fun w0 T B E0 hB=>?_)
 refine qE rfl rfl rfl rfl rfl ?_;refine SX.goM ?_;refine aL.le (rF rfl rfl rfl rfl) ?_;exact gG (xs:=[.one (.c (.val (.int .i64 (tx.length:Int))))]) ⟨aj.tmp rfl,trivial⟩ ⟨rfl,trivial⟩
theorem am4(tx s:List UInt8)(h:s≠[]):true=wrt (tx++s):=by
 cases tx <;> cases s <;> simp_all
theorem yP(F B:Nat)(nm:Nms)(la:Vl)(tx s:List UInt8)(h:tx.length+s.length≤1000000000)(hs:s≠[]):ah Tryz.prog 104 [.ptr 81 3,.v (str s)] (MP F B nm la tx) ⟨.tup [.one (.c (.val (.int .i64 (s.length:Int)))),.one (.c (.val .nilIface))],MQ F B nm la (tx++s)⟩:=by
 have c:=am2 F B nm (wrt tx) la tx;refine ah.fnA Tryz.func104 Tryz.results104 Tryz.ntmps104 rfl rfl rfl rfl rfl rfl rfl rfl (fun w0 T B E0 hB=>?_)
 refine qE rfl rfl rfl rfl rfl ?_;generalize wrt tx=u at c ⊢;cases u <;> (
  refine SX.goM ?_;refine aL.le (zD (tx:=tx++s) [(84,some 14)] [82,14] rfl ⟨S21,S21,S21,ac4 (am4 tx s hs) rfl,aA.own rfl,S21,S21,S21,S21,S21,S21,S21,S21,S21,S21,S21,S21,S21,S21,S21,S21,trivial⟩ ⟨SX.ak.same rfl rfl,SX.ak.row rfl rfl (apw _ _) (aoN _ _),trivial⟩ rfl rfl rfl) ?_;exact gG (xs:=[.one (.c (.val (.int .i64 (s.length:Int)))),.one (.c (.val .nilIface))]) ⟨aj.tmp rfl,aj.tmp rfl,trivial⟩ ⟨rfl,trivial⟩
 )
theorem ai9(F B:Nat)(nm:Nms)(la:Vl)(tx:List UInt8)(h0:tx≠[]):ah Tryz.prog 21 [.ptr 81 3] (MP F B nm la tx) ⟨.v (str tx),[(81,.gone)]⟩:=by
 have hl:0 < tx.length:=by
  cases tx with
  |nil=>exact absurd rfl h0
  |cons=>simp
 refine ah.fnA Tryz.func21 Tryz.results21 Tryz.ntmps21 rfl rfl rfl rfl rfl rfl rfl rfl (fun w0 T B E0 hB=>?_)
 refine qE rfl rfl rfl rfl rfl ?_;refine SX.goM ?_;refine aL.le (St.ajo (b:=81) rfl) ?_;exact gG (xs:=[.one (.c (.val (str tx)))]) ⟨aj.tmp rfl,trivial⟩ ⟨rfl,trivial⟩
theorem aoR(F Bt:Nat)(nm:Nms)(la:Vl)(tx:List UInt8){v:Vl}{s:List UInt8}(cP:PureOK Tryz.prog 12 [.agg (vlA v)] (.tup [.one (.c (.val (str s))),eNo 0]))(hl:tx.length+s.length+1≤100000):
  ah Tryz.prog 141 [.ptr 81 0,.agg (vlA v)] (MP F Bt nm la tx) ⟨.tup [],MQ F Bt nm v (tx++(s++[10]))⟩:=by
 have cL:=aoK F Bt nm la tx;have hsl:(s++[10]).length=s.length+1:=by simp
 have cW:=yP F Bt nm v tx (s++[10]) (by omega) (by simp)
 have hq:Hide (¬((tx.length:Int)+(s.length:Int)+1 > 100000)):=⟨by omega⟩
 refine ah.fnA Tryz.func141 Tryz.results141 Tryz.ntmps141 rfl rfl rfl rfl rfl rfl rfl rfl (fun w0 T B E0 hB=>?_)
 refine W.meet [(0,.ptr 81 0),(3,.ptr 3 0)] [(3,.box 50 (vlA v)),(81,.abs (kE F Bt nm la tx))] ?_ ?_
 ·refine SX.goM ?_;exact W.le
 refine W.meet [(0,.ptr 81 0),(3,.ptr 3 0),(4,.v (str s)),(5,.v (.int .i64 0))] [(3,.box 50 (vlA v)),(81,.abs (kE F Bt nm la tx))] ?_ ?_
 ·refine SX.goM ?_;exact W.le
 refine W.meet [(0,.ptr 81 0),(3,.ptr 3 0),(4,.v (str s))] [(3,.box 50 (vlA v)),(81,.abs (kE F Bt nm la tx))] ?_ ?_
 ·refine SX.goM ?_;exact W.le
 refine qE rfl rfl rfl rfl rfl ?_;refine W.meet [(0,.ptr 81 0),(4,.v (str s))] [(81,.abs (kE F Bt nm v tx))] ?_ ?_
 ·refine SX.goM ?_;refine St.wK (rF (la:=v) rfl rfl rfl rfl) ?_;exact W.le
 refine SX.goM ?_;exact gG (xs:=[]) trivial ⟨rfl,trivial⟩
end
section
abbrev Ms:=Nms×Vl×List UInt8
def ST(B:Nat)(n:Nd)(k:Nat)(σ σ':Ms):Prop:=∀F,F+k≤1000000000→ah Tryz.prog 87 [.ptr 81 0,.agg (ndA n)] (MP (F+k) B σ.1 σ.2.1 σ.2.2) ⟨.tup [],MQ F B σ'.1 σ'.2.1 σ'.2.2⟩
def BL(B:Nat)(ns:List Nd)(k:Nat)(σ σ':Ms):Prop:=∀F,F+k≤1000000000→ah Tryz.prog 43 [.ptr 81 0,.r (aF 3 ndE ns)] (MP (F+k) B σ.1 σ.2.1 σ.2.2) ⟨.tup [],MQ F B σ'.1 σ'.2.1 σ'.2.2⟩
theorem aA.ofI{ρ:List (Nat×Option Nat)}{x y:CA}(h:aV (.c x) (.c y)):aA ρ (.c x) (.c y):=fun E S w v hv=>h (dK ρ E) S w v hv
theorem agb{α:Type}{l:List α}{m:α}{r:List α}(h:l=m::r):l[0]? =some m∧0 < l.length:=by subst h;exact⟨rfl,by simp⟩
theorem amB:nmC []=[]:=rfl
theorem am3{P:Program}{C:Ctx}{ops:List Oper}{rest:List Oper}{st:St}{acc:_}{K:_}{d:Tmp}{ty:TypeId}{f:FuncId}{xs:Array Operand}{tys:Array TypeId}{args:List AV}{b:Nat}{A:lD}(hc:ah P f args [] ⟨.ptr b 0,[(b,.ent (.abs A))]⟩)(ha:evs st xs.toList=some args)(hd:ay (some d) C.nt=true)(hf:st.hp b= .free)
  (next:Reg P C ops rest (st.app (some d) ⟨.ptr b 0,[(b,.ent (.abs A))]⟩) (([b],[b])::acc) K):Go1 P C ops (some d) (.call ⟨.value (.func f),xs,tys⟩) ty rest st acc K:=
 Go1.aaO (cap:=[]) (pre:=[]) (out:=⟨.ptr b 0,[(b,.ent (.abs A))]⟩) (fp:=[b]) hd rfl ha (by simpa using hc) (fun b e hb=>by cases hb) (fun b s hb=>by simp at hb;rw[hb.1];exact .inr hf) (fun b s hb=>by simp at hb;rw[hb.2];rfl) (fun b s hb=>by simp at hb;simp[hb.1])
  (fun i hi=>by
   left
   rcases hi with hi|⟨b,e,hb,hi⟩
   ·have:i=b:=by simpa[AV.ids,AV0.ids,Atom.ids]using hi
    subst this;exact⟨_,by simp;rfl⟩
   ·simp at hb;obtain⟨rfl,rfl⟩:=hb;cases hi) next
attribute [local irreducible] IntKind.wrap Go1 Reg WP aN aQ bM bI aL aC aj ah aT Sat
attribute [local irreducible] dz bU bV dA bT qv dN mf PrP qOk zOk vP dZ lz vF cq rqv fT dJ eD bX gD jn sq aO qS zS tS tbS plS mdS dF eG nmC
section
variable{B:Nat}{n m:Nd}{v:Vl}{k:Nat}{nm:Nms}{la:Vl}{tx:List UInt8}
theorem ST.set(hop:n.op=18){r:List Nd}(hk:n.kids=m::r)(h:EX B nm m k v):ST B n (k+1) (nm,la,tx) (eG nm n.text v,la,tx):=fun F hF=>by
 obtain⟨u,hu⟩:∃u,u=wrt tx:=⟨_,rfl⟩;have c1:=lY (F+k) B nm u la tx (by omega)
 have cE:=h F u la tx (by omega)
 obtain⟨h0,hl⟩:=agb hk
 dsimp only
 rw[show F+(k+1)=F+k+1 from rfl,vH]
 refine ah.fnA Tryz.func87 Tryz.results87 Tryz.ntmps87 rfl rfl rfl rfl rfl rfl rfl rfl (fun w0 T B E0 hB=>?_)
 refine qE rfl rfl rfl rfl rfl ?_;rw[←hu];cases u <;> (
  refine SX.goM ?_;refine aL.le (rF (nm:=eG nm n.text v) hu rfl (by rw[afU];rfl) rfl) ?_
  exact gG (xs:=[]) trivial ⟨rfl,trivial⟩
 )
theorem ST.show(hop:n.op=19){r:List Nd}(hk:n.kids=m::r)(h:EX B nm m k v){s:List UInt8}(cP:PureOK Tryz.prog 12 [.agg (vlA v)] (.tup [.one (.c (.val (str s))),eNo 0]))(hl:tx.length+s.length+1≤100000):ST B n (k+1) (nm,la,tx) (nm,v,tx++(s++[10])):=fun F hF=>by
 have c1:=wG (F+k) B nm la tx (by omega)
 have cE:=h.mach F la tx (by omega)
 have cS:=aoR F B nm la tx cP hl;obtain⟨h0,hl⟩:=agb hk
 dsimp only
 rw[show F+(k+1)=F+k+1 from rfl,vH]
 refine ah.fnA Tryz.func87 Tryz.results87 Tryz.ntmps87 rfl rfl rfl rfl rfl rfl rfl rfl (fun w0 T B E0 hB=>?_)
 refine SX.goM ?_;exact gG (xs:=[]) trivial ⟨rfl,trivial⟩
theorem ST.block(hop:n.op=22){σ σ':Ms}(h:BL B n.kids k σ σ'):ST B n (k+1) σ σ':=fun F hF=>by
 have c1:=wG (F+k) B σ.1 σ.2.1 σ.2.2 (by omega)
 have cE:=h F (by omega)
 rw[show F+(k+1)=F+k+1 from rfl,vH]
 refine ah.fnA Tryz.func87 Tryz.results87 Tryz.ntmps87 rfl rfl rfl rfl rfl rfl rfl rfl (fun w0 T B E0 hB=>?_)
 refine SX.goM ?_;exact gG (xs:=[]) trivial ⟨rfl,trivial⟩
end
theorem abj(Bt:Nat)(ns:List Nd)(ks:List Nat)(σ:Nat→Ms)(hk:ks.length=ns.length)(hl:ns.length≤100000)(h:∀(i:Nat) n k,ns[i]? =some n→ks[i]? =some k→ST Bt n k (σ i) (σ (i+1))):BL Bt ns ks.sum (σ 0) (σ ns.length):=fun F hF=>by
 refine ah.fnA Tryz.func43 Tryz.results43 Tryz.ntmps43 rfl rfl rfl rfl rfl rfl rfl rfl (fun w0 T B E0 hB=>?_)
 refine SX.goM ?_;refine W.lC (fun k fu=>k≤ns.length∧fu=F+(ks.drop k).sum) (fun k fu=>[(0,.ptr 81 0),(6,.r (aF 3 ndE ns)),(7,.v (.int .i64 (ns.length:Int))),(8,.v (.int .i64 (k:Int)))]) (fun k fu=>[(81,.abs (kE fu Bt (σ k).1 (σ k).2.1 (σ k).2.2))]) (fun k _=>ns.length - k) 0 (F+ks.sum) ⟨Nat.zero_le _,rfl⟩ (fun k fu ⟨hkn,hfu⟩=>?_)
  (by
   refine SX.St.bG [] (by intro b h;exact SX.dw h rfl) ?_ ?_ rfl
   ·repeat(first|exact trivial|refine⟨⟨_,rfl,SX.aG.same rfl⟩,?_⟩)
   ·exact⟨SX.ak.same rfl rfl,trivial⟩)
 by_cases hlt:k < ns.length
 ·obtain⟨n,hn⟩:∃n,ns[k]? =some n:=⟨_,List.getElem?_eq_getElem hlt⟩
  obtain⟨c,hc⟩:∃c,ks[k]? =some c:=⟨_,List.getElem?_eq_getElem (by omega)⟩
  have hsum:(ks.drop k).sum=c+(ks.drop (k+1)).sum:=by
   obtain⟨hk2,e⟩:=List.getElem?_eq_some_iff.1 hc
   rw[List.drop_eq_getElem_cons hk2,e,List.sum_cons]
  have hle:(ks.drop k).sum≤ks.sum:=by
   conv=>rhs;rw[←List.take_append_drop k ks,List.sum_append]
   omega
  obtain⟨f',rfl⟩:∃f',fu=f'+c:=⟨F+(ks.drop (k+1)).sum,by omega⟩
  have cS:=h k n c hn hc f' (by omega)
  refine SX.goM ?_;refine W.kG (k+1) f' ⟨hlt,by omega⟩ (by omega) (by
   refine SX.St.bG [] (by intro b h;exact SX.dw h rfl) ?_ ?_ rfl
   ·repeat(first|exact trivial|refine⟨⟨_,rfl,SX.aG.same rfl⟩,?_⟩)
   ·exact⟨SX.ak.same rfl rfl,trivial⟩)
 ·obtain rfl:k=ns.length:=by omega
  rw[List.drop_of_length_le (by omega),List.sum_nil]at hfu
  subst hfu;refine SX.goM ?_;exact gG (xs:=[]) trivial ⟨rfl,trivial⟩
abbrev afl(F B D:Nat):List Atom:=[.c (.val (.int .i64 (F:Int))),.c (.val (.int .i64 (B:Int))),.c (.val (.int .i64 (D:Int)))]
theorem amA(F B D:Nat)(h:D≤200):PureOK Tryz.prog 40 [.agg (afl F B D)] (.v (.bool true)):=by
 have hd:decide ((D:Int)≤200)=true:=decide_eq_true (by omega)
 refine PureOK.fnF Tryz.func40 Tryz.results40 Tryz.ntmps40 rfl rfl rfl (by simp[AV.ids,AV0.ids,Atom.ids]) rfl (fun w0 T B E0 hB=>?_)
 refine SX.goM ?_;exact bK hd
theorem yu{F B D:Nat}(hD:D≤200){s:List UInt8}{ts:List Tok}{l:List Nd}{p:Nat}(hs:s.length≤20000)(hL:ach s=(ts,0,0))(hts:ts.length≤1000000∧∀t∈ts,t.text.length≤9223372036854775807)(hP:qF ts D=(l,p,0)):PureOK Tryz.prog 19 [.v (str s),.agg (afl F B D)] (.tup [.one (.c (.sat (aF 3 ndC l))),eNo 0]):=by
 have cM:=amA F B D hD;have cL:=(amK s).h (by omega)
 rw[hL]at cL;have cP:=afn hts.1 hts.2 hP;refine PureOK.fnF Tryz.func19 Tryz.results19 Tryz.ntmps19 rfl rfl rfl (by simp[AV.ids,AV0.ids,Atom.ids]) rfl (fun w0 T B E0 hB=>?_)
 refine SX.goM ?_;exact .ok (aC.mk2 (aj.tmp rfl) (aj.tmp rfl))
theorem ahm{F Bt D k:Nat}{l:List Nd}{σ:Ms}(h:BL Bt l k ([],v0,[]) σ)(hF:F+k≤1000000000):ah Tryz.prog 20 [.r (aF 3 ndE l),.agg (afl (F+k) Bt D)] [] ⟨.ptr 81 0,MQ F Bt σ.1 σ.2.1 σ.2.2⟩:=by
 have n81:Named 12 81:=⟨⟩;have cB:=h F hF;refine ah.fnA Tryz.func20 Tryz.results20 Tryz.ntmps20 rfl rfl rfl rfl rfl rfl rfl rfl (fun w0 T B E0 hB=>?_)
 refine W.meet [(0,.r (aF 3 ndE l)),(3,.ptr 3 0)] [(3,.box 33 (afl (F+k) Bt D))] ?_ ?_
 ·refine SX.goM ?_;exact W.le
 refine W.meet [(0,.r (aF 3 ndE l)),(5,.ptr 81 0)] [(81,.abs (kE (F+k) Bt [] v0 []))] ?_ ?_
 ·refine SX.goM ?_;refine St.wK (zD (F:=F+k) (B:=Bt) (nm:=[]) (la:=v0) (tx:=[]) [(82,some 10),(84,none)] [10] rfl ⟨S21,S21,aA.own rfl,S21,aA.nil rfl,S21,S21,aA.ofI aV.aeR,S21,aA.ofI aV.aeR,S21,S21,aA.ofI aV.nil,aA.ofI aV.nil,S21,S21,S21,aA.ofI aV.nil,aA.ofI aV.nil,aA.ofI aV.nil,S21,trivial⟩ ⟨SX.ak.abs (by rw[amB];rfl) rfl rfl,SX.ak.dL rfl,trivial⟩ rfl rfl rfl) ?_
  exact W.le
 refine SX.goM ?_;exact gG (xs:=[.one (.ptr 81 0)]) ⟨aj.tmp rfl,trivial⟩ ⟨rfl,trivial⟩
theorem agx{F B D k:Nat}{s:List UInt8}{l:List Nd}{σ:Ms}(cp:PureOK Tryz.prog 19 [.v (str s),.agg (afl (F+k) B D)] (.tup [.one (.c (.sat (aF 3 ndC l))),eNo 0]))(h:BL B l k ([],v0,[]) σ)(hF:F+k≤1000000000)(h0:σ.2.2≠[]):
  PureOK Tryz.prog 7 [.v (str s),.agg (afl (F+k) B D)] (.tup [.one (.c (.val (str σ.2.2))),eNo 0]):=by
 rw[show ndC=ndE from funext aD]at cp
 have cs:=ahm (D:=D) h hF;have cS:=ai9 F B σ.1 σ.2.1 σ.2.2 h0;refine PureOK.fnF Tryz.func7 Tryz.results7 Tryz.ntmps7 rfl rfl rfl (by simp[AV.ids,AV0.ids,Atom.ids]) rfl (fun w0 T B E0 hB=>?_)
 refine SX.goM ?_;refine am3 cs rfl rfl rfl ?_;refine SX.goM ?_;exact .ok (aC.mk2 (aj.tmp rfl) (aj.tmp rfl))
end
end Go.Proofs.YtegehclknhmkgaaGreatDoor