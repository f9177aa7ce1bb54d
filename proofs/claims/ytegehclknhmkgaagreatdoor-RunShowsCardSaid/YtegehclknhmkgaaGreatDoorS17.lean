import Derived.Test.YtegehclknhmkgaaGreatDoorS11
import Derived.Test.YtegehclknhmkgaaGreatDoorS13
import Derived.Test.YtegehclknhmkgaaGreatDoorS6
set_option linter.unusedVariables false
set_option linter.unusedSimpArgs false
open Go.Proofs.Tryz
namespace Go.Proofs.YtegehclknhmkgaaGreatDoor
open Go.RowKit QM SX LA
section
abbrev sP(bs:List UInt8):Ent:= .row 5 1 bs.length (bs.flatMap jH)
def aeI:Bool→Atom
 |true=> .ptr 81 3
 |false=> .c (.val (.pointer none))
abbrev mB(F B:Nat)(u:Bool)(la:Vl):List Atom:=[.c (.val (.int .i64 (F:Int))),.c (.val (.int .i64 (B:Int))),.own 82,aeI u,.own 84,.c (.val (.int .i64 la.k)),.c (.val (.bool la.q.1)),.c (.sat (dN la.q.2.1)),.c (.val (.bool la.q.2.2.1)),.c (.sat (dN la.q.2.2.2)),.c (.val (.int .i64 la.r)),.c (.val (.int .i64 la.c)),.c (.sat (aA 4 q4C (la.a.map rq))),.c (.sat (aA 2 z2C (la.po.map rz))),.c (.val (.int .u64 (la.p:Int))),.c (.val (.int .i64 la.fr)),.c (.val (.int .i64 la.fc)),.c (.sat (aA 1 wdC la.fa)),.c (.sat (aA 1 wdC la.ri)),.c (.sat (aA 15 vlC la.li)),.c (.val (.int .i64 0))]
abbrev MB(F B:Nat)(u:Bool)(la:Vl):Ent:= .box 72 (mB F B u la)
abbrev Nms:=List (List UInt8×Vl)
def nmC(nm:Nms):List (List UInt8×List CA):=nm.map fun p=>(p.1,vlE p.2)
abbrev ME(F B:Nat)(nm:Nms)(u:Bool)(la:Vl)(tx:List UInt8):List (Nat×Ent):=[(81,MB F B u la),(82,.abs (gT (nmC nm))),(84,sP tx)]
abbrev MO(F B:Nat)(nm:Nms)(u:Bool)(la:Vl)(tx:List UInt8):List (Nat×Slot):=[(81,.ent (MB F B u la)),(82,.ent (.abs (gT (nmC nm)))),(84,.ent (sP tx))]
attribute [local irreducible] IntKind.wrap Go1 Reg WP aS aT bR bO aQ aC ak aj aX Sat
attribute [local irreducible] bT bX bY dw bZ qv dR mf PrP qOk zOk vP dQ lz vF cq rqv eY bW dL dh gD jn sq aO qS zS tS tbS plS mdS
theorem aoW(F Bt n:Nat)(nm:Nms)(u:Bool)(la:Vl)(tx:List UInt8)(h:F+n≤1000000000):aj prog 139 [.ptr 81 0,.v (.int .i64 (n:Int))] (ME (F+n) Bt nm u la tx) ⟨.v (.bool true),MO F Bt nm u la tx⟩:=by
 refine aj.fnM func139 results139 ntmps139 rfl rfl rfl rfl (by first|rfl|(cases u <;> rfl)) (by first|rfl|(cases u <;> rfl)) (by first|rfl|(cases u <;> rfl)) (fun w0 T B E0 hB=>?_)
 refine SX.goM ?_;have e:F+n - n=F:=by omega
 refine gY (xs:=[.one (.c (.val (.bool true)))]) ⟨ak.tmp rfl,trivial⟩ ⟨?_,rfl,rfl,trivial⟩;refine Eq.trans (b:=Slot.ent (Ent.box 72 (.c (.val (.int .i64 ((F+n - n:Nat):Int)))::(mB F Bt u la).tail))) rfl ?_;rw[e];rfl
theorem mM(F B:Nat)(nm:Nms)(u:Bool)(la:Vl)(tx:List UInt8)(h:F+1≤1000000000):aj prog 139 [.ptr 81 0,.v (.int .i64 1)] (ME (F+1) B nm u la tx) ⟨.v (.bool true),MO F B nm u la tx⟩:=aoW F B 1 nm u la tx h
section
variable(v:Vl)
theorem akh(h:v.k=2)(hl:v.a.length≤1000000):ah prog 224 [.agg (vlA v)] (.v (.int .i64 (v.a.length:Int))):=by
 have e:(v.a.map rq).length=v.a.length:=zq5 _;refine ah.fnF func224 results224 ntmps224 rfl rfl rfl (by simp[AV.ids,AV0.ids,Atom.ids]) rfl (fun w0 T B E0 hB=>?_)
 refine SX.goM ?_;refine gK ?_;rw[e]
theorem aku(h:v.k=3)(hl:v.po.length≤1000000):ah prog 224 [.agg (vlA v)] (.v (.int .i64 (v.po.length:Int))):=by
 have e:(v.po.map rz).length=v.po.length:=zq5 _;refine ah.fnF func224 results224 ntmps224 rfl rfl rfl (by simp[AV.ids,AV0.ids,Atom.ids]) rfl (fun w0 T B E0 hB=>?_)
 refine SX.goM ?_;refine gK ?_;rw[e]
theorem aly(h:v.k=4)(hl:v.fa.length≤1000000):ah prog 224 [.agg (vlA v)] (.v (.int .i64 (v.fa.length:Int))):=by
 refine ah.fnF func224 results224 ntmps224 rfl rfl rfl (by simp[AV.ids,AV0.ids,Atom.ids]) rfl (fun w0 T B E0 hB=>?_)
 refine SX.goM ?_;exact gK rfl
theorem alD(h:v.k=5)(hl:v.ri.length≤1000000):ah prog 224 [.agg (vlA v)] (.v (.int .i64 (v.ri.length:Int))):=by
 refine ah.fnF func224 results224 ntmps224 rfl rfl rfl (by simp[AV.ids,AV0.ids,Atom.ids]) rfl (fun w0 T B E0 hB=>?_)
 refine SX.goM ?_;exact gK rfl
theorem kJ(h:¬v.k=6):ah prog 222 [.agg (vlA v)] (.v (.int .i64 0)):=by
 refine ah.fnF func222 results222 ntmps222 rfl rfl rfl (by simp[AV.ids,AV0.ids,Atom.ids]) rfl (fun w0 T B E0 hB=>?_)
 refine SX.goM ?_;exact gK rfl
end
theorem ac8(v:Vl)(g:Vl→Nat)(h:¬v.k=2∧¬v.k=3∧¬v.k=4∧¬v.k=5)(hl:(v.li.map g).sum≤1000000)(hn:v.li.length≤1000000)(hx:∀x∈v.li,ah prog 224 [.agg (vlA x)] (.v (.int .i64 (g x:Int)))):
  ah prog 224 [.agg (vlA v)] (.v (.int .i64 ((1+(v.li.map g).sum:Nat):Int))):=by
 obtain⟨h2,h3,h4,h5⟩:=h;rw[ac3];refine ah.fnF func224 results224 ntmps224 rfl rfl rfl (by simp[AV.ids,AV0.ids,Atom.ids]) rfl (fun w0 T B E0 hB=>?_)
 refine SX.goM ?_;refine W.loop (fun k=>k≤v.li.length) (fun k=>[(3,.v (.int .i64 ((1+((v.li.take k).map g).sum:Nat):Int))),(31,.r (aA 15 vlE v.li)),(32,.v (.int .i64 (v.li.length:Int))),(33,.v (.int .i64 (k:Int)))]) (fun _=>[]) (fun k=>v.li.length - k) 0 (Nat.zero_le _) (fun k hk=>?_)
 by_cases hlt:k < v.li.length
 ·obtain⟨x,hx'⟩:∃x,v.li[k]? =some x:=⟨_,zq2 hlt⟩
  have c:=hx x (zq4 hx');have e1:((v.li.take (k+1)).map g).sum=((v.li.take k).map g).sum+g x:=by rw[List.take_add_one,hx'];simp
  have e2:((v.li.take (k+1)).map g).sum≤(v.li.map g).sum:=by
   conv=>rhs;rw[←List.take_append_drop (k+1) v.li,List.map_append,List.sum_append]
   omega
  refine SX.goM ?_;exact W.next (k+1) hlt (by omega)
 ·obtain rfl:k=v.li.length:=by omega
  rw[List.take_length];refine SX.goM ?_;exact gK rfl
theorem afg(v:Vl)(g:Vl→Nat)(h:v.k=6)(hl:v.li.length≤1000000)(hg:∀x∈v.li,g x≤100)(hx:∀x∈v.li,ah prog 222 [.agg (vlA x)] (.v (.int .i64 (g x:Int)))):
  ah prog 222 [.agg (vlA v)] (.v (.int .i64 ((1+(v.li.map g).foldl max 0:Nat):Int))):=by
 rw[ac3];refine ah.fnF func222 results222 ntmps222 rfl rfl rfl (by simp[AV.ids,AV0.ids,Atom.ids]) rfl (fun w0 T B E0 hB=>?_)
 refine SX.goM ?_;refine W.mO (fun k m=>k≤v.li.length∧m≤100∧m=((v.li.take k).map g).foldl max 0) (fun k m=>[(3,.v (.int .i64 (m:Int))),(10,.r (aA 15 vlE v.li)),(11,.v (.int .i64 (v.li.length:Int))),(12,.v (.int .i64 (k:Int)))]) (fun _ _=>[]) (fun k _=>v.li.length - k) 0 0 ⟨Nat.zero_le _,Nat.zero_le _,rfl⟩ (fun k m ⟨hk,hm,hmm⟩=>?_)
 by_cases hlt:k < v.li.length
 ·obtain⟨x,hx'⟩:∃x,v.li[k]? =some x:=⟨_,zq2 hlt⟩
  have c:=hx x (zq4 hx');have hgx:=hg x (zq4 hx');have e1:((v.li.take (k+1)).map g).foldl max 0=max m (g x):=by rw[List.take_add_one,hx',hmm];simp
  refine SX.goM ?_;exact W.lX (k+1) (max m (g x)) ⟨hlt,by omega,e1.symm⟩ (by omega)
 ·obtain rfl:k=v.li.length:=by omega
  rw[List.take_length]at hmm;refine SX.goM ?_;refine gK ?_;rw[←hmm]
end
section
abbrev ndM(n:Nd):List Atom:=[.c (.val (.int .i64 n.op)),.c (.val (str n.text)),.c (.sat (aA 3 ndE n.kids))]
theorem abD(n:Nd):AV.agg (ndA n)=AV.agg (ndM n):=by
 unfold ndA ndM;rw[show ndC=ndE from funext aH]
structure VI(B s:Nat)(v:Vl):Prop where
 n:∃d:Nat,d≤20∧ah prog 222 [.agg (vlA v)] (.v (.int .i64 (d:Int)))
 b:∃b:Nat,b≤B∧ah prog 223 [.agg (vlA v)] (.v (.int .i64 (b:Int)))
 s:ah prog 224 [.agg (vlA v)] (.v (.int .i64 (s:Int)))
def EX(B:Nat)(nm:Nms)(n:Nd)(k:Nat)(v:Vl):Prop:=∀F u la tx,F+k≤1000000000→aj prog 140 [.ptr 81 0,.agg (ndA n)] (ME (F+k) B nm u la tx) ⟨.agg (vlA v),MO F B nm u la tx⟩
def AL(B:Nat)(nm:Nms)(ns:List Nd)(k:Nat)(vs:List Vl):Prop:=∀F u la tx,F+k≤1000000000→aj prog 190 [.ptr 81 0,.r (aA 3 ndE ns)] (ME (F+k) B nm u la tx) ⟨.r (aA 15 vlE vs),MO F B nm u la tx⟩
theorem am5{nm:Nms}{t:List UInt8}{v:Vl}(h:eO nm t=some v):eO (nmC nm) t=some (vlE v):=by
 induction nm with
 |nil=>cases h
 |cons p nm ih=>
  obtain⟨k,c⟩:=p;unfold eO at h;show (if t=k then some (vlE c)else eO (nmC nm) t)=_
  by_cases hk:t=k
  ·rw[if_pos hk]at h ⊢;cases h;rfl
  ·rw[if_neg hk]at h ⊢;exact ih h
theorem arG(nm:Nms)(t:List UInt8)(v:Vl):nmC (iJ nm t v)=iJ (nmC nm) t (vlE v):=by
 induction nm with
 |nil=>rfl
 |cons p nm ih=>
  obtain⟨k,c⟩:=p;show nmC (if t=k then(k,v)::nm else(k,c)::iJ nm t v)=(if t=k then(k,vlE v)::nmC nm else(k,vlE c)::iJ (nmC nm) t (vlE v))
  by_cases hk:t=k
  ·rw[if_pos hk,if_pos hk];rfl
  ·rw[if_neg hk,if_neg hk];show (k,vlE c)::nmC (iJ nm t v)=_;rw[ih]
attribute [local irreducible] IntKind.wrap Go1 Reg WP aS aT bR bO aQ aC ak aj aX Sat
attribute [local irreducible] bT bX bY dw bZ qv dR mf PrP qOk zOk vP dQ lz vF cq rqv eY bW dL dh gD jn sq aO qS zS tS tbS plS mdS eO iJ nmC
theorem adH(F B s:Nat)(nm:Nms)(u:Bool)(la:Vl)(tx:List UInt8){v:Vl}(h:VI B s v)(hB:B≤1000000000)(hF:F+s≤1000000000):aj prog 186 [.ptr 81 0,.agg (vlA v),.v (.int .i64 0)] (ME (F+s) B nm u la tx) ⟨.agg (vlA v),MO F B nm u la tx⟩:=by
 obtain⟨⟨d,hd,cN⟩,⟨b,hb,cB⟩,cS⟩:=h;have cT:=aoW F B s nm u la tx hF;cases u <;> (
  refine aj.fnM func186 results186 ntmps186 rfl rfl rfl rfl (by first|rfl|(cases u <;> rfl)) (by first|rfl|(cases u <;> rfl)) (by first|rfl|(cases u <;> rfl)) (fun w0 Tw Bw E0 hB=>?_)
  refine SX.goM ?_;exact gY (xs:=[.agg (vlA v)]) ⟨ak.gJ rfl rfl rfl,trivial⟩ ⟨rfl,rfl,rfl,trivial⟩
 )
theorem aqu(F B:Nat){nm:Nms}(u:Bool)(la:Vl)(tx:List UInt8){t:List UInt8}{v:Vl}(h:eO (nmC nm) t=some (vlE v)):aj prog 188 [.ptr 81 0,.v (str t)] (ME F B nm u la tx) ⟨.tup [.agg (vlA v),eNo 0],MO F B nm u la tx⟩:=by
 refine aj.fnM func188 results188 ntmps188 rfl rfl rfl rfl (by first|rfl|(cases u <;> rfl)) (by first|rfl|(cases u <;> rfl)) (by first|rfl|(cases u <;> rfl)) (fun w0 Tw Bw E0 hB=>?_)
 refine SX.goM ?_;exact gY (xs:=[.agg (vlA v),eNo 0]) ⟨ak.gJ rfl rfl rfl,ak.tmp rfl,trivial⟩ ⟨rfl,rfl,rfl,trivial⟩
theorem anc(B:Nat)(nm:Nms)(ns:List Nd)(ks:List Nat)(vs:List Vl)(hk:ks.length=ns.length)(hv:vs.length=ns.length)(hl:ns.length≤100000)
  (h:∀(i:Nat) n k v,ns[i]? =some n→ks[i]? =some k→vs[i]? =some v→EX B nm n k v):AL B nm ns ks.sum vs:=fun F u la tx hF=>by
 cases u with
 |false=>
  refine aj.fnM func190 results190 ntmps190 rfl rfl rfl rfl (by first|rfl|(cases u <;> rfl)) (by first|rfl|(cases u <;> rfl)) (by first|rfl|(cases u <;> rfl)) (fun w0 Tw Bw E0 hB=>?_)
  refine SX.goM ?_;refine W.mO (fun k fu=>k≤ns.length∧fu=F+(ks.drop k).sum) (fun k fu=>[(0,.ptr 81 0),(5,.own 100),(8,.r (aA 3 ndE ns)),(9,.v (.int .i64 (ns.length:Int))),(10,.v (.int .i64 (k:Int)))]) (fun k fu=>[(81,MB fu B false la),(82,.abs (gT (nmC nm))),(84,sP tx),(100,.row 50 15 k ((vs.take k).flatMap vlE))]) (fun k _=>ns.length - k) 0 (F+ks.sum) ⟨Nat.zero_le _,rfl⟩ (fun k fu ⟨hkn,hfu⟩=>?_)
   (by
    refine SX.St.aY [(100,none)] (by intro b h;exact SX.dB h rfl) ?_ ?_ rfl
    ·repeat(first|exact trivial|refine⟨⟨_,rfl,SX.aG.same rfl⟩,?_⟩|refine⟨⟨_,rfl,SX.aG.nil rfl⟩,?_⟩)
    ·exact⟨SX.ay.same rfl rfl,SX.ay.same rfl rfl,SX.ay.same rfl rfl,SX.ay.bV rfl,trivial⟩)
  by_cases hlt:k < ns.length
  ·obtain⟨n,hn⟩:∃n,ns[k]? =some n:=⟨_,zq2 hlt⟩
   obtain⟨c,hc⟩:∃c,ks[k]? =some c:=⟨_,zq2 (by omega)⟩
   obtain⟨v,hvk⟩:∃v,vs[k]? =some v:=⟨_,zq2 (by omega)⟩
   have hsum:(ks.drop k).sum=c+(ks.drop (k+1)).sum:=by
    obtain⟨hk2,e⟩:=List.getElem?_eq_some_iff.1 hc
    rw[List.drop_eq_getElem_cons hk2,e,List.sum_cons]
   have hle:(ks.drop k).sum≤ks.sum:=by
    conv=>rhs;rw[←List.take_append_drop k ks,List.sum_append]
    omega
   obtain⟨f',rfl⟩:∃f',fu=f'+c:=⟨F+(ks.drop (k+1)).sum,by omega⟩
   have cE:=h k n c v hn hc hvk f' false la tx (by omega)
   have e2:(vs.take k).flatMap vlE++vlE v=(vs.take (k+1)).flatMap vlE:=by rw[jV hvk];simp
   refine SX.goM ?_;refine W.lX (k+1) f' ⟨hlt,by omega⟩ (by omega) (by
    refine SX.St.aY [(100,some 19)] (by intro b h;exact SX.dB h rfl) ?_ ?_ rfl
    ·repeat(first|exact trivial|refine⟨⟨_,rfl,SX.aG.same rfl⟩,?_⟩|refine⟨⟨_,rfl,SX.aG.own rfl⟩,?_⟩)
    ·exact⟨SX.ay.same rfl rfl,SX.ay.same rfl rfl,SX.ay.same rfl rfl,SX.ay.row rfl rfl rfl e2,trivial⟩)
  ·obtain rfl:k=vs.length:=by omega
   rw[List.drop_of_length_le (by omega),List.sum_nil]at hfu
   subst hfu;rw[List.take_length];refine SX.goM ?_;refine aQ.frzM 100 hB rfl rfl rfl rfl ?_;exact gY (xs:=[.one (.c (.sat (aA 15 vlE vs)))]) ⟨ak.tmp rfl,trivial⟩ ⟨rfl,rfl,rfl,trivial⟩
 |true=>
  refine aj.fnM func190 results190 ntmps190 rfl rfl rfl rfl (by first|rfl|(cases u <;> rfl)) (by first|rfl|(cases u <;> rfl)) (by first|rfl|(cases u <;> rfl)) (fun w0 Tw Bw E0 hB=>?_)
  refine SX.goM ?_;refine W.mO (fun k fu=>k≤ns.length∧fu=F+(ks.drop k).sum) (fun k fu=>[(0,.ptr 81 0),(5,.own 100),(8,.r (aA 3 ndE ns)),(9,.v (.int .i64 (ns.length:Int))),(10,.v (.int .i64 (k:Int)))]) (fun k fu=>[(81,MB fu B true la),(82,.abs (gT (nmC nm))),(84,sP tx),(100,.row 50 15 k ((vs.take k).flatMap vlE))]) (fun k _=>ns.length - k) 0 (F+ks.sum) ⟨Nat.zero_le _,rfl⟩ (fun k fu ⟨hkn,hfu⟩=>?_)
   (by
    refine SX.St.aY [(100,none)] (by intro b h;exact SX.dB h rfl) ?_ ?_ rfl
    ·repeat(first|exact trivial|refine⟨⟨_,rfl,SX.aG.same rfl⟩,?_⟩|refine⟨⟨_,rfl,SX.aG.nil rfl⟩,?_⟩)
    ·exact⟨SX.ay.same rfl rfl,SX.ay.same rfl rfl,SX.ay.same rfl rfl,SX.ay.bV rfl,trivial⟩)
  by_cases hlt:k < ns.length
  ·obtain⟨n,hn⟩:∃n,ns[k]? =some n:=⟨_,zq2 hlt⟩
   obtain⟨c,hc⟩:∃c,ks[k]? =some c:=⟨_,zq2 (by omega)⟩
   obtain⟨v,hvk⟩:∃v,vs[k]? =some v:=⟨_,zq2 (by omega)⟩
   have hsum:(ks.drop k).sum=c+(ks.drop (k+1)).sum:=by
    obtain⟨hk2,e⟩:=List.getElem?_eq_some_iff.1 hc
    rw[List.drop_eq_getElem_cons hk2,e,List.sum_cons]
   have hle:(ks.drop k).sum≤ks.sum:=by
    conv=>rhs;rw[←List.take_append_drop k ks,List.sum_append]
    omega
   obtain⟨f',rfl⟩:∃f',fu=f'+c:=⟨F+(ks.drop (k+1)).sum,by omega⟩
   have cE:=h k n c v hn hc hvk f' true la tx (by omega)
   have e2:(vs.take k).flatMap vlE++vlE v=(vs.take (k+1)).flatMap vlE:=by rw[jV hvk];simp
   refine SX.goM ?_;refine W.lX (k+1) f' ⟨hlt,by omega⟩ (by omega) (by
    refine SX.St.aY [(100,some 19)] (by intro b h;exact SX.dB h rfl) ?_ ?_ rfl
    ·repeat(first|exact trivial|refine⟨⟨_,rfl,SX.aG.same rfl⟩,?_⟩|refine⟨⟨_,rfl,SX.aG.own rfl⟩,?_⟩)
    ·exact⟨SX.ay.same rfl rfl,SX.ay.same rfl rfl,SX.ay.same rfl rfl,SX.ay.row rfl rfl rfl e2,trivial⟩)
  ·obtain rfl:k=vs.length:=by omega
   rw[List.drop_of_length_le (by omega),List.sum_nil]at hfu
   subst hfu;rw[List.take_length];refine SX.goM ?_;refine aQ.frzM 100 hB rfl rfl rfl rfl ?_;exact gY (xs:=[.one (.c (.sat (aA 15 vlE vs)))]) ⟨ak.tmp rfl,trivial⟩ ⟨rfl,rfl,rfl,trivial⟩
section
variable{B:Nat}{nm:Nms}{n:Nd}{v:Vl}{s:Nat}(hB0:B≤1000000000)
include hB0
theorem EX.num(hop:n.op=1){z:Nat}(cP:ah prog 185 [.v (str n.text)] (.tup [.agg (zN z),.one (.c (.val (.bool true)))]))(cW:ah prog 187 [.agg (zN z)] (.agg (vlA v)))(hv:VI B s v):EX B nm n (s+1) v:=fun F u la tx hF=>by
 have c1:=mM (F+s) B nm u la tx (by omega)
 have c2:=adH F B s nm u la tx hv hB0 (by omega)
 rw[show F+(s+1)=F+s+1 from rfl,abD]
 cases u <;> (
  refine aj.fnM func140 results140 ntmps140 rfl rfl rfl rfl (by first|rfl|(cases u <;> rfl)) (by first|rfl|(cases u <;> rfl)) (by first|rfl|(cases u <;> rfl)) (fun w0 Tw Bw E0 hB=>?_)
  refine SX.goM ?_;exact gY (xs:=[.agg (vlA v)]) ⟨ak.gJ rfl rfl rfl,trivial⟩ ⟨rfl,rfl,rfl,trivial⟩
 )
theorem EX.name(hop:n.op=2)(hl:eO nm n.text=some v)(hv:VI B s v):EX B nm n (s+1) v:=fun F u la tx hF=>by
 have c1:=mM (F+s) B nm u la tx (by omega)
 have c2:=adH F B s nm u la tx hv hB0 (by omega)
 have c3:=aqu (F+s) B u la tx (am5 hl);rw[show F+(s+1)=F+s+1 from rfl,abD]
 cases u <;> (
  refine aj.fnM func140 results140 ntmps140 rfl rfl rfl rfl (by first|rfl|(cases u <;> rfl)) (by first|rfl|(cases u <;> rfl)) (by first|rfl|(cases u <;> rfl)) (fun w0 Tw Bw E0 hB=>?_)
  refine SX.goM ?_;exact gY (xs:=[.agg (vlA v)]) ⟨ak.gJ rfl rfl rfl,trivial⟩ ⟨rfl,rfl,rfl,trivial⟩
 )
theorem EX.opr(hop:¬n.op=1∧¬n.op=2∧¬n.op=14){k:Nat}{vs:List Vl}(hA:AL B nm n.kids k vs)(cO:ah prog 191 [.agg (ndM n),.r (aA 15 vlE vs)] (.tup [.agg (vlA v),eNo 0]))(hv:VI B s v):EX B nm n (s+k+1) v:=fun F u la tx hF=>by
 obtain⟨h1,h2,h3⟩:=hop;have c1:=mM (F+s+k) B nm u la tx (by omega)
 have cA:=hA (F+s) u la tx (by omega)
 have c2:=adH F B s nm u la tx hv hB0 (by omega)
 rw[show F+(s+k+1)=F+s+k+1 by omega,abD]
 cases u <;> (
  refine aj.fnM func140 results140 ntmps140 rfl rfl rfl rfl (by first|rfl|(cases u <;> rfl)) (by first|rfl|(cases u <;> rfl)) (by first|rfl|(cases u <;> rfl)) (fun w0 Tw Bw E0 hB=>?_)
  refine SX.goM ?_;exact gY (xs:=[.agg (vlA v)]) ⟨ak.gJ rfl rfl rfl,trivial⟩ ⟨rfl,rfl,rfl,trivial⟩
 )
theorem EX.mat(hop:n.op=14){k:Nat}(hR:∀F u la tx,F+k≤1000000000→aj prog 189 [.ptr 81 0,.r (aA 3 ndE n.kids)] (ME (F+k) B nm u la tx) ⟨.tup [.agg (vlA v),eNo 0],MO F B nm u la tx⟩)(hv:VI B s v):EX B nm n (s+k+1) v:=fun F u la tx hF=>by
 have c1:=mM (F+s+k) B nm u la tx (by omega)
 have cA:=hR (F+s) u la tx (by omega)
 have c2:=adH F B s nm u la tx hv hB0 (by omega)
 rw[show F+(s+k+1)=F+s+k+1 by omega,abD]
 cases u <;> (
  refine aj.fnM func140 results140 ntmps140 rfl rfl rfl rfl (by first|rfl|(cases u <;> rfl)) (by first|rfl|(cases u <;> rfl)) (by first|rfl|(cases u <;> rfl)) (fun w0 Tw Bw E0 hB=>?_)
  refine SX.goM ?_;exact gY (xs:=[.agg (vlA v)]) ⟨ak.gJ rfl rfl rfl,trivial⟩ ⟨rfl,rfl,rfl,trivial⟩
 )
end
section
variable{n:Nd}{v:Vl}
theorem aoZ(hop:n.op=3){a:Vl}(c:ah prog 228 [.v (.int .i64 3),.agg (vlA a)] (.tup [.agg (vlA v),eNo 0])):ah prog 191 [.agg (ndM n),.r (aA 15 vlE [a])] (.tup [.agg (vlA v),eNo 0]):=by
 have ha:[a][0]? =some a:=rfl;rw[←hop]at c;refine ah.fnF func191 results191 ntmps191 rfl rfl rfl (by simp[AV.ids,AV0.ids,Atom.ids]) rfl (fun w0 T B E0 hB=>?_)
 refine SX.goM ?_;exact .ok (aC.mk2 (ak.gJ rfl rfl rfl) (ak.tmp rfl))
theorem yO(hop:n.op=13){vs:List Vl}(c:ah prog 229 [.v (str n.text),.r (aA 15 vlE vs)] (.tup [.agg (vlA v),eNo 0])):ah prog 191 [.agg (ndM n),.r (aA 15 vlE vs)] (.tup [.agg (vlA v),eNo 0]):=by
 refine ah.fnF func191 results191 ntmps191 rfl rfl rfl (by simp[AV.ids,AV0.ids,Atom.ids]) rfl (fun w0 T B E0 hB=>?_)
 refine SX.goM ?_;exact .ok (aC.mk2 (ak.gJ rfl rfl rfl) (ak.tmp rfl))
theorem apM(hop:n.op=16)(vs:List Vl):ah prog 191 [.agg (ndM n),.r (aA 15 vlE vs)] (.tup [.agg (vlA (kG vs)),eNo 0]):=by
 refine ah.fnF func191 results191 ntmps191 rfl rfl rfl (by simp[AV.ids,AV0.ids,Atom.ids]) rfl (fun w0 T B E0 hB=>?_)
 refine SX.goM ?_;refine .ok (aC.mk2 ((ak.gJ rfl rfl rfl).imp ?_) (ak.tmp rfl));rw[←uV];exact mQ ⟨aI.refl _,aI.refl _,aI.sI,aI.refl _,aI.sI,aI.refl _,aI.refl _,aI.nil,aI.nil,aI.refl _,aI.refl _,aI.refl _,aI.nil,aI.nil,aI.refl _,trivial⟩
theorem asV(hop:4≤n.op∧n.op≤12){a b:Vl}(c:ah prog 231 [.v (.int .i64 n.op),.agg (vlA a),.agg (vlA b)] (.tup [.agg (vlA v),eNo 0])):ah prog 191 [.agg (ndM n),.r (aA 15 vlE [a,b])] (.tup [.agg (vlA v),eNo 0]):=by
 have ha:[a,b][0]? =some a:=rfl;have hb:[a,b][1]? =some b:=rfl;refine ah.fnF func191 results191 ntmps191 rfl rfl rfl (by simp[AV.ids,AV0.ids,Atom.ids]) rfl (fun w0 T B E0 hB=>?_)
 refine SX.goM ?_;exact .ok (aC.mk2 (ak.gJ rfl rfl rfl) (ak.tmp rfl))
end
end
section
theorem atP(bs s:List UInt8):bs.length+s.length=(bs++s).length:=List.length_append.symm
theorem atD(bs s:List UInt8):bs.flatMap jH++s.flatMap jH=(bs++s).flatMap jH:=List.flatMap_append.symm
abbrev wrt(tx:List UInt8):Bool:=!tx.isEmpty
def qO(F B:Nat)(nm:Nms)(la:Vl)(tx:List UInt8):lW:=kP 81 (fun _:Unit=>True) 72 (fun _=>mB F B (wrt tx) la) (fun _=>[(82,.abs (gT (nmC nm))),(84,sP tx)])
theorem auj{F B:Nat}{u:Bool}{la:Vl}{i:Nat}(h:i∈(mB F B u la).flatMap Atom.ids):i=82∨i=81∨i=84:=by
 cases u
 ·have h':i=82∨i=84:=by simpa[aeI,Atom.ids]using h
  rcases h' with h'|h'
  ·exact .inl h'
  ·exact .inr (.inr h')
 ·have h':i=82∨i=81∨i=84:=by simpa[aeI,Atom.ids]using h
  exact h'
theorem aa8{P:Program}{C:Ctx}{st:St}{Q:Exit→St→Prop}{cd:Code}{F B:Nat}{nm:Nms}{la:Vl}{tx:List UInt8}(hb:st.hp 81= .ent (.abs (qO F B nm la tx)))(h1:st.hp 82= .free)(h2:st.hp 84= .free)(f1:C.fix 82=false)(f2:C.fix 84=false)
  (h:WP P C cd (wo st 81 72 (mB F B (wrt tx) la) [(82,.abs (gT (nmC nm))),(84,sP tx)]) Q):WP P C cd st Q:=
 WP.ajw (ι:=Unit) (b:=81) [82,84] hb (fun p=>rfl) (by intro i hi;simp at hi;rcases hi with rfl|rfl <;> assumption) (by intro i hi;simp at hi;rcases hi with rfl|rfl <;> assumption)
  (by
   intro p i hi;rcases auj hi with rfl|rfl|rfl <;> simp)
  (by intro p i e he;simp at he;rcases he with⟨rfl,rfl⟩|⟨rfl,rfl⟩ <;> rfl) (fun p hp=>h)
theorem afQ{ρ:List (Nat×Option Nat)}{u u':Bool}(e:u=u')(h:fresh ρ [81]=true):aD ρ (aeI u) (aeI u'):=by
 subst e;cases u
 ·exact aD.same rfl
 ·exact aD.same h
theorem aa2{C:Ctx}{st:St}{F B:Nat}{nm:Nms}{la:Vl}{tx:List UInt8}{cells0:List Atom}(ρ:List (Nat×Option Nat))(os:List Nat)(hb:st.hp 81= .ent (.box 72 cells0))
  (hc:oD ρ cells0 (mB F B (wrt tx) la)) (hR:ab1 st ρ [(82,.abs (gT (nmC nm))),(84,sP tx)])
  (hos:(([(82,.abs (gT (nmC nm))),(84,sP tx)]:List (Nat×Ent)).all fun q=>match SX.src ρ q.1 with|some o=>iV os o|none=>true)=true) (hbo:iV os 81=false) (hdi:(([(82,.abs (gT (nmC nm))),(84,sP tx)]:List (Nat×Ent)).all fun q=>([(82,.abs (gT (nmC nm))),(84,sP tx)]:List (Nat×Ent)).all fun q'=>Nat.beq q.1 q'.1||!(eqO (SX.src ρ q.1) (SX.src ρ q'.1)))=true)
  (hfb:lk ρ 81=none:=by rfl):St.le C st (rH st 81 (qO F B nm la tx) os):=
 St.aeU (ι:=Unit) (b:=81) () ρ os trivial hb hc hR hos hbo hdi hfb
abbrev S21{ρ:List (Nat×Option Nat)}{x:Atom}(h:fresh ρ x.ids=true:=by rfl):aD ρ x x:=aD.same h
theorem adg{C:Ctx}{st:St}{F B:Nat}{nm:Nms}{u:Bool}{la:Vl}{tx:List UInt8}(hu:u=wrt tx)(hb:st.hp 81= .ent (MB F B u la))(h2:st.hp 82= .ent (.abs (gT (nmC nm))))(h4:st.hp 84= .ent (sP tx)):St.le C st (rH st 81 (qO F B nm la tx) [82,84]):=
 aa2 [] [82,84] hb ⟨S21,S21,S21,afQ hu rfl,S21,S21,S21,S21,S21,S21,S21,S21,S21,S21,S21,S21,S21,S21,S21,S21,S21,trivial⟩ ⟨SX.ay.same h2 rfl,SX.ay.same h4 rfl,trivial⟩ rfl rfl rfl
abbrev MP(F B:Nat)(nm:Nms)(la:Vl)(tx:List UInt8):List (Nat×Ent):=[(81,.abs (qO F B nm la tx))]
abbrev MQ(F B:Nat)(nm:Nms)(la:Vl)(tx:List UInt8):List (Nat×Slot):=[(81,.ent (.abs (qO F B nm la tx)))]
theorem aj.mach{f:FuncId}{args:List AV}{r:AV}{F F' B:Nat}{nm nm':Nms}{la la':Vl}{tx:List UInt8}(h:aj prog f args (ME F B nm (wrt tx) la tx) ⟨r,MO F' B nm' (wrt tx) la' tx⟩)(hargs:∀v∈args,∀i∈v.ids,i=81)(hr:r.ids=[]):
  aj prog f args (MP F B nm la tx) ⟨r,MQ F' B nm' la' tx⟩:=
 aj.bun (R:=[(82,.abs (gT (nmC nm))),(84,sP tx)]) (R':=[(82,.abs (gT (nmC nm'))),(84,sP tx)]) h hargs hr (by intro e he;simp at he)
theorem args1{a:AV}(h:a.ids=[]):∀v∈[AV.ptr 81 0,a],∀i∈v.ids,i=81:=by
 intro v hv i hi;simp at hv
 rcases hv with rfl|rfl
 ·simpa[AV.ids,AV0.ids,Atom.ids]using hi
 ·rw[h]at hi;cases hi
theorem EX.mach{B:Nat}{nm:Nms}{n:Nd}{k:Nat}{v:Vl}(h:EX B nm n k v)(F:Nat)(la:Vl)(tx:List UInt8)(hF:F+k≤1000000000):aj prog 140 [.ptr 81 0,.agg (ndA n)] (MP (F+k) B nm la tx) ⟨.agg (vlA v),MQ F B nm la tx⟩:=
 aj.mach (h F (wrt tx) la tx hF) (args1 rfl) rfl
theorem arv(F B:Nat)(nm:Nms)(la:Vl)(tx:List UInt8)(h:F+1≤1000000000):aj prog 139 [.ptr 81 0,.v (.int .i64 1)] (MP (F+1) B nm la tx) ⟨.v (.bool true),MQ F B nm la tx⟩:=
 aj.mach (mM F B nm (wrt tx) la tx h) (args1 rfl) rfl
theorem St.aow{C:Ctx}{st:St}{b:Nat}{t:TypeId}{cells:List Atom}(hb:st.hp b= .ent (.box t cells)):St.le C st ⟨st.tm,upd st.hp b .gone⟩:=fun a w ⟨E,S,hs⟩=>by
 have hu:∀i,(st.hp i).used=true→(upd st.hp b .gone i).used=true:=fun i hi=>by
  by_cases e:i=b
  ·subst e;rw[upd_same];rfl
  ·rw[upd_ne _ _ e];exact hi
 have hk:∀c e,upd st.hp b .gone c= .ent e→st.hp c= .ent e:=fun c e hc=>by
  by_cases e1:c=b
  ·subst e1;rw[upd_same]at hc;cases hc
  ·rw[upd_ne _ _ e1]at hc;exact hc
 exact⟨E,S,{dfr:=hs.dfr,nt:=hs.nt,cT:=hs.cT,cT0:=hs.cT0,cS:=hs.cS,lt:=hs.lt,tm:=hs.tm,tid:=fun t v h i hi=>hu i (hs.tid t v h i hi),hp:=fun c e hc=>hs.hp c e (hk c e hc),hid:=fun c e hc i hi=>hu i (hs.hid c e (hk c e hc) i hi),blk:=fun c e k hc=>hs.blk c e k (hk c e hc),sep:=fun c c' e e' k hne hc hc'=>hs.sep c c' e e' k hne (hk c e hc) (hk c' e' hc'),off:=hs.off,env:=fun c hc=>let⟨g1,g2,g3⟩:=hs.env c hc;⟨g1,g2,hu c g3⟩,gl:=hs.gl}⟩
theorem atu(v:Value)(w:World):(callFunc 200 #[v]).run prog w= .ok (.value v) w:=by
 rw[run_callFunc_extern func200 (by kernel_rfl) (by kernel_rfl) (by kernel_rfl) (e:=Extern.AbiNoEscape.same) (by kernel_rfl)]
 rw[Lib.run_noEscape];rfl
theorem St.ajF{C:Ctx}{a b c:St}(h:St.le C a b)(k:St.le C b c):St.le C a c:=fun x w hs=>k x w (h x w hs)
attribute [local irreducible] IntKind.wrap Go1 Reg WP aS aT bR bO aQ aC ak aj aX Sat
attribute [local irreducible] bT bX bY dw bZ qv dR mf PrP qOk zOk vP dQ lz vF cq rqv eY bW dL dh gD jn sq aO qS zS tS tbS plS mdS eO iJ nmC
theorem aqZ(F B:Nat)(nm:Nms)(u:Bool)(la:Vl)(tx:List UInt8):aj prog 156 [.ptr 81 3] (ME F B nm u la tx) ⟨.tup [],MO F B nm true la tx⟩:=by
 cases u with
 |false=>
  refine aj.fnM func156 results156 ntmps156 rfl rfl rfl rfl (by first|rfl|(cases u <;> rfl)) (by first|rfl|(cases u <;> rfl)) (by first|rfl|(cases u <;> rfl)) (fun w0 Tw Bw E0 hB=>?_)
  refine SX.goM ?_;refine SX.Go1.anP (b:=81) (off:=3) rfl atu rfl ?_;refine SX.goM ?_;refine SX.Go1.atW (m:=21) rfl rfl rfl rfl (by kernel_rfl) ?_
  refine SX.goM ?_;exact gY (xs:=[]) trivial ⟨rfl,rfl,rfl,trivial⟩
 |true=>
  refine aj.fnM func156 results156 ntmps156 rfl rfl rfl rfl (by first|rfl|(cases u <;> rfl)) (by first|rfl|(cases u <;> rfl)) (by first|rfl|(cases u <;> rfl)) (fun w0 Tw Bw E0 hB=>?_)
  refine SX.goM ?_;exact gY (xs:=[]) trivial ⟨rfl,rfl,rfl,trivial⟩
theorem aup(F B:Nat)(nm:Nms)(la:Vl)(tx:List UInt8):aj prog 192 [.ptr 81 3] (MP F B nm la tx) ⟨.v (.int .i64 (tx.length:Int)),MQ F B nm la tx⟩:=by
 refine aj.fnA func192 results192 ntmps192 rfl rfl rfl rfl rfl rfl rfl rfl (fun w0 T B E0 hB=>?_)
 refine aa8 rfl rfl rfl rfl rfl ?_;refine SX.goM ?_;refine aQ.le (adg rfl rfl rfl rfl) ?_;exact gY (xs:=[.one (.c (.val (.int .i64 (tx.length:Int))))]) ⟨ak.tmp rfl,trivial⟩ ⟨rfl,trivial⟩
theorem aq8(tx s:List UInt8)(h:s≠[]):true=wrt (tx++s):=by
 cases tx <;> cases s <;> simp_all
theorem zZ(F B:Nat)(nm:Nms)(la:Vl)(tx s:List UInt8)(h:tx.length+s.length≤1000000000)(hs:s≠[]):aj prog 104 [.ptr 81 3,.v (str s)] (MP F B nm la tx) ⟨.tup [.one (.c (.val (.int .i64 (s.length:Int)))),.one (.c (.val .nilIface))],MQ F B nm la (tx++s)⟩:=by
 have c:=aqZ F B nm (wrt tx) la tx;refine aj.fnA func104 results104 ntmps104 rfl rfl rfl rfl rfl rfl rfl rfl (fun w0 T B E0 hB=>?_)
 refine aa8 rfl rfl rfl rfl rfl ?_;generalize wrt tx=u at c ⊢;cases u <;> (
  refine SX.goM ?_;refine aQ.le (aa2 (tx:=tx++s) [(84,some 14)] [82,14] rfl ⟨S21,S21,S21,afQ (aq8 tx s hs) rfl,aD.own rfl,S21,S21,S21,S21,S21,S21,S21,S21,S21,S21,S21,S21,S21,S21,S21,S21,trivial⟩ ⟨SX.ay.same rfl rfl,SX.ay.row rfl rfl (atP _ _) (atD _ _),trivial⟩ rfl rfl rfl) ?_;exact gY (xs:=[.one (.c (.val (.int .i64 (s.length:Int)))),.one (.c (.val .nilIface))]) ⟨ak.tmp rfl,ak.tmp rfl,trivial⟩ ⟨rfl,trivial⟩
 )
theorem aks(F B:Nat)(nm:Nms)(la:Vl)(tx:List UInt8)(h0:tx≠[]):aj prog 21 [.ptr 81 3] (MP F B nm la tx) ⟨.v (str tx),[(81,.gone)]⟩:=by
 have hl:0 < tx.length:=by
  cases tx with
  |nil=>exact absurd rfl h0
  |cons=>simp
 refine aj.fnA func21 results21 ntmps21 rfl rfl rfl rfl rfl rfl rfl rfl (fun w0 T B E0 hB=>?_)
 refine aa8 rfl rfl rfl rfl rfl ?_;refine SX.goM ?_;refine aQ.le (St.aow (b:=81) rfl) ?_;exact gY (xs:=[.one (.c (.val (str tx)))]) ⟨ak.tmp rfl,trivial⟩ ⟨rfl,trivial⟩
theorem atX(F Bt:Nat)(nm:Nms)(la:Vl)(tx:List UInt8){v:Vl}{s:List UInt8}(cP:ah prog 12 [.agg (vlA v)] (.tup [.one (.c (.val (str s))),eNo 0]))(hl:tx.length+s.length+1≤100000):
  aj prog 141 [.ptr 81 0,.agg (vlA v)] (MP F Bt nm la tx) ⟨.tup [],MQ F Bt nm v (tx++(s++[10]))⟩:=by
 have cL:=aup F Bt nm la tx;have hsl:(s++[10]).length=s.length+1:=by simp
 have cW:=zZ F Bt nm v tx (s++[10]) (by omega) (by simp)
 have hq:Hide (¬((tx.length:Int)+(s.length:Int)+1 > 100000)):=⟨by omega⟩
 refine aj.fnA func141 results141 ntmps141 rfl rfl rfl rfl rfl rfl rfl rfl (fun w0 T B E0 hB=>?_)
 refine W.meet [(0,.ptr 81 0),(3,.ptr 3 0)] [(3,.box 50 (vlA v)),(81,.abs (qO F Bt nm la tx))] ?_ ?_
 ·refine SX.goM ?_;exact W.le
 refine W.meet [(0,.ptr 81 0),(3,.ptr 3 0),(4,.v (str s)),(5,.v (.int .i64 0))] [(3,.box 50 (vlA v)),(81,.abs (qO F Bt nm la tx))] ?_ ?_
 ·refine SX.goM ?_;exact W.le
 refine W.meet [(0,.ptr 81 0),(3,.ptr 3 0),(4,.v (str s))] [(3,.box 50 (vlA v)),(81,.abs (qO F Bt nm la tx))] ?_ ?_
 ·refine SX.goM ?_;exact W.le
 refine aa8 rfl rfl rfl rfl rfl ?_;refine W.meet [(0,.ptr 81 0),(4,.v (str s))] [(81,.abs (qO F Bt nm v tx))] ?_ ?_
 ·refine SX.goM ?_;refine St.ajF (adg (la:=v) rfl rfl rfl rfl) ?_;exact W.le
 refine SX.goM ?_;exact gY (xs:=[]) trivial ⟨rfl,trivial⟩
end
section
abbrev Ms:=Nms×Vl×List UInt8
def ST(B:Nat)(n:Nd)(k:Nat)(σ σ':Ms):Prop:=∀F,F+k≤1000000000→aj prog 87 [.ptr 81 0,.agg (ndA n)] (MP (F+k) B σ.1 σ.2.1 σ.2.2) ⟨.tup [],MQ F B σ'.1 σ'.2.1 σ'.2.2⟩
def BL(B:Nat)(ns:List Nd)(k:Nat)(σ σ':Ms):Prop:=∀F,F+k≤1000000000→aj prog 43 [.ptr 81 0,.r (aA 3 ndE ns)] (MP (F+k) B σ.1 σ.2.1 σ.2.2) ⟨.tup [],MQ F B σ'.1 σ'.2.1 σ'.2.2⟩
theorem aD.ofI{ρ:List (Nat×Option Nat)}{x y:CA}(h:aI (.c x) (.c y)):aD ρ (.c x) (.c y):=fun E S w v hv=>h (dM ρ E) S w v hv
theorem ajG{α:Type}{l:List α}{m:α}{r:List α}(h:l=m::r):l[0]? =some m∧0 < l.length:=by subst h;exact⟨rfl,by simp⟩
theorem aq0:nmC []=[]:=rfl
theorem aiM{P:Program}{C:Ctx}{ops:List Oper}{rest:List Oper}{st:St}{acc:_}{K:_}{d:Tmp}{ty:TypeId}{f:FuncId}{xs:Array Operand}{tys:Array TypeId}{args:List AV}{b:Nat}{A:lW}(hc:aj P f args [] ⟨.ptr b 0,[(b,.ent (.abs A))]⟩)(ha:evs st xs.toList=some args)(hd:aB (some d) C.nt=true)(hf:st.hp b= .free)
  (next:Reg P C ops rest (st.app (some d) ⟨.ptr b 0,[(b,.ent (.abs A))]⟩) (([b],[b])::acc) K):Go1 P C ops (some d) (.call ⟨.value (.func f),xs,tys⟩) ty rest st acc K:=
 Go1.abH (cap:=[]) (pre:=[]) (out:=⟨.ptr b 0,[(b,.ent (.abs A))]⟩) (fp:=[b]) hd rfl ha (by simpa using hc) (fun b e hb=>by cases hb) (fun b s hb=>by simp at hb;rw[hb.1];exact .inr hf) (fun b s hb=>by simp at hb;rw[hb.2];rfl) (fun b s hb=>by simp at hb;simp[hb.1])
  (fun i hi=>by
   left
   rcases hi with hi|⟨b,e,hb,hi⟩
   ·have:i=b:=by simpa[AV.ids,AV0.ids,Atom.ids]using hi
    subst this;exact⟨_,by simp;rfl⟩
   ·simp at hb;obtain⟨rfl,rfl⟩:=hb;cases hi) next
attribute [local irreducible] IntKind.wrap Go1 Reg WP aS aT bR bO aQ aC ak aj aX Sat
attribute [local irreducible] bT bX bY dw bZ qv dR mf PrP qOk zOk vP dQ lz vF cq rqv eY bW dL dh gD jn sq aO qS zS tS tbS plS mdS eO iJ nmC
section
variable{B:Nat}{n m:Nd}{v:Vl}{k:Nat}{nm:Nms}{la:Vl}{tx:List UInt8}
theorem ST.set(hop:n.op=18){r:List Nd}(hk:n.kids=m::r)(h:EX B nm m k v):ST B n (k+1) (nm,la,tx) (iJ nm n.text v,la,tx):=fun F hF=>by
 obtain⟨u,hu⟩:∃u,u=wrt tx:=⟨_,rfl⟩;have c1:=mM (F+k) B nm u la tx (by omega)
 have cE:=h F u la tx (by omega)
 obtain⟨h0,hl⟩:=ajG hk
 dsimp only
 rw[show F+(k+1)=F+k+1 from rfl,abD]
 refine aj.fnA func87 results87 ntmps87 rfl rfl rfl rfl rfl rfl rfl rfl (fun w0 T B E0 hB=>?_)
 refine aa8 rfl rfl rfl rfl rfl ?_;rw[←hu];cases u <;> (
  refine SX.goM ?_;refine aQ.le (adg (nm:=iJ nm n.text v) hu rfl (by rw[arG];rfl) rfl) ?_
  exact gY (xs:=[]) trivial ⟨rfl,trivial⟩
 )
theorem ST.show(hop:n.op=19){r:List Nd}(hk:n.kids=m::r)(h:EX B nm m k v){s:List UInt8}(cP:ah prog 12 [.agg (vlA v)] (.tup [.one (.c (.val (str s))),eNo 0]))(hl:tx.length+s.length+1≤100000):ST B n (k+1) (nm,la,tx) (nm,v,tx++(s++[10])):=fun F hF=>by
 have c1:=arv (F+k) B nm la tx (by omega)
 have cE:=h.mach F la tx (by omega)
 have cS:=atX F B nm la tx cP hl;obtain⟨h0,hl⟩:=ajG hk
 dsimp only
 rw[show F+(k+1)=F+k+1 from rfl,abD]
 refine aj.fnA func87 results87 ntmps87 rfl rfl rfl rfl rfl rfl rfl rfl (fun w0 T B E0 hB=>?_)
 refine SX.goM ?_;exact gY (xs:=[]) trivial ⟨rfl,trivial⟩
end
theorem aj8(Bt:Nat)(ns:List Nd)(ks:List Nat)(σ:Nat→Ms)(hk:ks.length=ns.length)(hl:ns.length≤100000)(h:∀(i:Nat) n k,ns[i]? =some n→ks[i]? =some k→ST Bt n k (σ i) (σ (i+1))):BL Bt ns ks.sum (σ 0) (σ ns.length):=fun F hF=>by
 refine aj.fnA func43 results43 ntmps43 rfl rfl rfl rfl rfl rfl rfl rfl (fun w0 T B E0 hB=>?_)
 refine SX.goM ?_;refine W.mO (fun k fu=>k≤ns.length∧fu=F+(ks.drop k).sum) (fun k fu=>[(0,.ptr 81 0),(6,.r (aA 3 ndE ns)),(7,.v (.int .i64 (ns.length:Int))),(8,.v (.int .i64 (k:Int)))]) (fun k fu=>[(81,.abs (qO fu Bt (σ k).1 (σ k).2.1 (σ k).2.2))]) (fun k _=>ns.length - k) 0 (F+ks.sum) ⟨Nat.zero_le _,rfl⟩ (fun k fu ⟨hkn,hfu⟩=>?_)
  (by
   refine SX.St.aY [] (by intro b h;exact SX.dB h rfl) ?_ ?_ rfl
   ·repeat(first|exact trivial|refine⟨⟨_,rfl,SX.aG.same rfl⟩,?_⟩)
   ·exact⟨SX.ay.same rfl rfl,trivial⟩)
 by_cases hlt:k < ns.length
 ·obtain⟨n,hn⟩:∃n,ns[k]? =some n:=⟨_,zq2 hlt⟩
  obtain⟨c,hc⟩:∃c,ks[k]? =some c:=⟨_,zq2 (by omega)⟩
  have hsum:(ks.drop k).sum=c+(ks.drop (k+1)).sum:=by
   obtain⟨hk2,e⟩:=List.getElem?_eq_some_iff.1 hc
   rw[List.drop_eq_getElem_cons hk2,e,List.sum_cons]
  have hle:(ks.drop k).sum≤ks.sum:=by
   conv=>rhs;rw[←List.take_append_drop k ks,List.sum_append]
   omega
  obtain⟨f',rfl⟩:∃f',fu=f'+c:=⟨F+(ks.drop (k+1)).sum,by omega⟩
  have cS:=h k n c hn hc f' (by omega)
  refine SX.goM ?_;refine W.lX (k+1) f' ⟨hlt,by omega⟩ (by omega) (by
   refine SX.St.aY [] (by intro b h;exact SX.dB h rfl) ?_ ?_ rfl
   ·repeat(first|exact trivial|refine⟨⟨_,rfl,SX.aG.same rfl⟩,?_⟩)
   ·exact⟨SX.ay.same rfl rfl,trivial⟩)
 ·obtain rfl:k=ns.length:=by omega
  rw[List.drop_of_length_le (by omega),List.sum_nil]at hfu
  subst hfu;refine SX.goM ?_;exact gY (xs:=[]) trivial ⟨rfl,trivial⟩
abbrev abm(F B D:Nat):List Atom:=[.c (.val (.int .i64 (F:Int))),.c (.val (.int .i64 (B:Int))),.c (.val (.int .i64 (D:Int)))]
theorem ar5(F B D:Nat)(h:D≤200):ah prog 40 [.agg (abm F B D)] (.v (.bool true)):=by
 have hd:decide ((D:Int)≤200)=true:=decide_eq_true (by omega)
 refine ah.fnF func40 results40 ntmps40 rfl rfl rfl (by simp[AV.ids,AV0.ids,Atom.ids]) rfl (fun w0 T B E0 hB=>?_)
 refine SX.goM ?_;exact aJ hd
theorem aaB{F B D:Nat}(hD:D≤200){s:List UInt8}{ts:List Tok}{l:List Nd}{p:Nat}(hs:s.length≤20000)(hL:adC s=(ts,0,0))(hts:ts.length≤1000000∧∀t∈ts,t.text.length≤9223372036854775807)(hP:sH ts D=(l,p,0)):ah prog 19 [.v (str s),.agg (abm F B D)] (.tup [.one (.c (.sat (aA 3 ndC l))),eNo 0]):=by
 have cM:=ar5 F B D hD;have cL:=(ar8 s).h (by omega)
 rw[hL]at cL;have cP:=ag6 hts.1 hts.2 hP;refine ah.fnF func19 results19 ntmps19 rfl rfl rfl (by simp[AV.ids,AV0.ids,Atom.ids]) rfl (fun w0 T B E0 hB=>?_)
 refine SX.goM ?_;exact .ok (aC.mk2 (ak.tmp rfl) (ak.tmp rfl))
theorem acd{F Bt D k:Nat}{l:List Nd}{σ:Ms}(h:BL Bt l k ([],v0,[]) σ)(hF:F+k≤1000000000):aj prog 20 [.r (aA 3 ndE l),.agg (abm (F+k) Bt D)] [] ⟨.ptr 81 0,MQ F Bt σ.1 σ.2.1 σ.2.2⟩:=by
 have n81:Named 12 81:=⟨⟩;have cB:=h F hF;refine aj.fnA func20 results20 ntmps20 rfl rfl rfl rfl rfl rfl rfl rfl (fun w0 T B E0 hB=>?_)
 refine W.meet [(0,.r (aA 3 ndE l)),(3,.ptr 3 0)] [(3,.box 33 (abm (F+k) Bt D))] ?_ ?_
 ·refine SX.goM ?_;exact W.le
 refine W.meet [(0,.r (aA 3 ndE l)),(5,.ptr 81 0)] [(81,.abs (qO (F+k) Bt [] v0 []))] ?_ ?_
 ·refine SX.goM ?_;refine St.ajF (aa2 (F:=F+k) (B:=Bt) (nm:=[]) (la:=v0) (tx:=[]) [(82,some 10),(84,none)] [10] rfl ⟨S21,S21,aD.own rfl,S21,aD.nil rfl,S21,S21,aD.ofI aI.sI,S21,aD.ofI aI.sI,S21,S21,aD.ofI aI.nil,aD.ofI aI.nil,S21,S21,S21,aD.ofI aI.nil,aD.ofI aI.nil,aD.ofI aI.nil,S21,trivial⟩ ⟨SX.ay.abs (by rw[aq0];rfl) rfl rfl,SX.ay.bV rfl,trivial⟩ rfl rfl rfl) ?_
  exact W.le
 refine SX.goM ?_;exact gY (xs:=[.one (.ptr 81 0)]) ⟨ak.tmp rfl,trivial⟩ ⟨rfl,trivial⟩
theorem aiO{F B D k:Nat}{s:List UInt8}{l:List Nd}{σ:Ms}(cp:ah prog 19 [.v (str s),.agg (abm (F+k) B D)] (.tup [.one (.c (.sat (aA 3 ndC l))),eNo 0]))(h:BL B l k ([],v0,[]) σ)(hF:F+k≤1000000000)(h0:σ.2.2≠[]):
  ah prog 7 [.v (str s),.agg (abm (F+k) B D)] (.tup [.one (.c (.val (str σ.2.2))),eNo 0]):=by
 rw[show ndC=ndE from funext aH]at cp
 have cs:=acd (D:=D) h hF;have cS:=aks F B σ.1 σ.2.1 σ.2.2 h0;refine ah.fnF func7 results7 ntmps7 rfl rfl rfl (by simp[AV.ids,AV0.ids,Atom.ids]) rfl (fun w0 T B E0 hB=>?_)
 refine SX.goM ?_;refine aiM cs rfl rfl rfl ?_;refine SX.goM ?_;exact .ok (aC.mk2 (ak.tmp rfl) (ak.tmp rfl))
theorem ako{F B D k:Nat}{s:List UInt8}{n:Nd}{σ:Ms}(hop:n.op=19)(cp:ah prog 19 [.v (str s),.agg (abm (F+k) B D)] (.tup [.one (.c (.sat (aA 3 ndC [n]))),eNo 0]))(h:BL B [n] k ([],v0,[]) σ)(hF:F+k≤1000000000):
  ah prog 13 [.v (str s),.agg (abm (F+k) B D)] (.tup [.agg (vlA σ.2.1),eNo 0]):=by
 rw[show ndC=ndE from funext aH]at cp
 have cs:=acd (D:=D) h hF;have hn:[n][0]? =some n:=rfl;refine ah.fnF func13 results13 ntmps13 rfl rfl rfl (by simp[AV.ids,AV0.ids,Atom.ids]) rfl (fun w0 T B E0 hB=>?_)
 refine SX.goM ?_;refine aiM cs rfl rfl rfl ?_;refine SX.goM ?_;exact .ok (aC.mk2 (ak.gJ rfl rfl rfl) (ak.tmp rfl))
end
end Go.Proofs.YtegehclknhmkgaaGreatDoor