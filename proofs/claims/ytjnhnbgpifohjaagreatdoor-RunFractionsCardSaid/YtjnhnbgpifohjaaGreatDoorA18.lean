import Derived.Test.YtjnhnbgpifohjaaGreatDoorA12
import Derived.Test.YtjnhnbgpifohjaaGreatDoorA14
import Derived.Test.YtjnhnbgpifohjaaGreatDoorA7
set_option linter.unusedVariables false
set_option linter.unusedSimpArgs false
open Go.Proofs.Tryz
namespace Go.Proofs.YtjnhnbgpifohjaaGreatDoor
open Go.RowKit QM SX LA
section
abbrev tC(bs:List UInt8):Ent:= .row 5 1 bs.length (bs.flatMap jR)
def aeV:Bool→Atom
 |true=> .ptr 81 3
 |false=> .c (.val (.pointer none))
abbrev mB(F B:Nat)(u:Bool)(la:Vl):List Atom:=[.c (.val (.int .i64 (F:Int))),.c (.val (.int .i64 (B:Int))),.own 82,aeV u,.own 84,.c (.val (.int .i64 la.k)),.c (.val (.bool la.q.1)),.c (.sat (dM la.q.2.1)),.c (.val (.bool la.q.2.2.1)),.c (.sat (dM la.q.2.2.2)),.c (.val (.int .i64 la.r)),.c (.val (.int .i64 la.c)),.c (.sat (aA 4 q4C (la.a.map rq))),.c (.sat (aA 2 z2C (la.po.map rz))),.c (.val (.int .u64 (la.p:Int))),.c (.val (.int .i64 la.fr)),.c (.val (.int .i64 la.fc)),.c (.sat (aA 1 wdC la.fa)),.c (.sat (aA 1 wdC la.ri)),.c (.sat (aA 15 vlC la.li)),.c (.val (.int .i64 0))]
abbrev MB(F B:Nat)(u:Bool)(la:Vl):Ent:= .box 159 (mB F B u la)
abbrev Nms:=List (List UInt8×Vl)
def nmC(nm:Nms):List (List UInt8×List CA):=nm.map fun p=>(p.1,vlE p.2)
abbrev ME(F B:Nat)(nm:Nms)(u:Bool)(la:Vl)(tx:List UInt8):List (Nat×Ent):=[(81,MB F B u la),(82,.abs (gV (nmC nm))),(84,tC tx)]
abbrev MO(F B:Nat)(nm:Nms)(u:Bool)(la:Vl)(tx:List UInt8):List (Nat×Slot):=[(81,.ent (MB F B u la)),(82,.ent (.abs (gV (nmC nm)))),(84,.ent (tC tx))]
attribute [local irreducible] IntKind.wrap Go1 Reg WP aR aU bR bO aN aF ak aj aY Sat
attribute [local irreducible] bS dn cK dD dh qv bW mf PrP qOk zOk vP eu lz vF cq rqv fB dw dN d9 gP jn sq aV qS zS tS tbS plS mdS
theorem aml(F Bt n:Nat)(nm:Nms)(u:Bool)(la:Vl)(tx:List UInt8)(h:F+n≤1000000000):aj prog 393 [.ptr 81 0,.v (.int .i64 (n:Int))] (ME (F+n) Bt nm u la tx) ⟨.v (.bool true),MO F Bt nm u la tx⟩:=by
 refine aj.fnM func393 results393 ntmps393 rfl rfl rfl rfl (by first|rfl|(cases u <;> rfl)) (by first|rfl|(cases u <;> rfl)) (by first|rfl|(cases u <;> rfl)) (fun w0 T B E0 hB=>?_)
 refine SX.goM ?_;have e:F+n - n=F:=by omega
 refine gI (xs:=[.one (.c (.val (.bool true)))]) ⟨ak.tmp rfl,trivial⟩ ⟨?_,rfl,rfl,trivial⟩;refine Eq.trans (b:=Slot.ent (Ent.box 159 (.c (.val (.int .i64 ((F+n - n:Nat):Int)))::(mB F Bt u la).tail))) rfl ?_;rw[e];rfl
theorem mP(F B:Nat)(nm:Nms)(u:Bool)(la:Vl)(tx:List UInt8)(h:F+1≤1000000000):aj prog 393 [.ptr 81 0,.v (.int .i64 1)] (ME (F+1) B nm u la tx) ⟨.v (.bool true),MO F B nm u la tx⟩:=aml F B 1 nm u la tx h
section
variable(v:Vl)
theorem akh(h:v.k=2)(hl:v.a.length≤1000000):ah prog 486 [.agg (vlA v)] (.v (.int .i64 (v.a.length:Int))):=by
 have e:(v.a.map rq).length=v.a.length:=zq5 _;refine ah.fnF func486 results486 ntmps486 rfl rfl rfl (by simp[AV.ids,AV0.ids,Atom.ids]) rfl (fun w0 T B E0 hB=>?_)
 refine SX.goM ?_;refine gM ?_;rw[e]
theorem akK(h:v.k=3)(hl:v.po.length≤1000000):ah prog 486 [.agg (vlA v)] (.v (.int .i64 (v.po.length:Int))):=by
 have e:(v.po.map rz).length=v.po.length:=zq5 _;refine ah.fnF func486 results486 ntmps486 rfl rfl rfl (by simp[AV.ids,AV0.ids,Atom.ids]) rfl (fun w0 T B E0 hB=>?_)
 refine SX.goM ?_;refine gM ?_;rw[e]
theorem ajJ(h:v.k=4)(hl:v.fa.length≤1000000):ah prog 486 [.agg (vlA v)] (.v (.int .i64 (v.fa.length:Int))):=by
 refine ah.fnF func486 results486 ntmps486 rfl rfl rfl (by simp[AV.ids,AV0.ids,Atom.ids]) rfl (fun w0 T B E0 hB=>?_)
 refine SX.goM ?_;exact gM rfl
theorem ajy(h:v.k=5)(hl:v.ri.length≤1000000):ah prog 486 [.agg (vlA v)] (.v (.int .i64 (v.ri.length:Int))):=by
 refine ah.fnF func486 results486 ntmps486 rfl rfl rfl (by simp[AV.ids,AV0.ids,Atom.ids]) rfl (fun w0 T B E0 hB=>?_)
 refine SX.goM ?_;exact gM rfl
theorem kW(h:¬v.k=6):ah prog 484 [.agg (vlA v)] (.v (.int .i64 0)):=by
 refine ah.fnF func484 results484 ntmps484 rfl rfl rfl (by simp[AV.ids,AV0.ids,Atom.ids]) rfl (fun w0 T B E0 hB=>?_)
 refine SX.goM ?_;exact gM rfl
end
theorem ab9(v:Vl)(g:Vl→Nat)(h:¬v.k=2∧¬v.k=3∧¬v.k=4∧¬v.k=5)(hl:(v.li.map g).sum≤1000000)(hn:v.li.length≤1000000)(hx:∀x∈v.li,ah prog 486 [.agg (vlA x)] (.v (.int .i64 (g x:Int)))):
  ah prog 486 [.agg (vlA v)] (.v (.int .i64 ((1+(v.li.map g).sum:Nat):Int))):=by
 obtain⟨h2,h3,h4,h5⟩:=h;rw[aoh];refine ah.fnF func486 results486 ntmps486 rfl rfl rfl (by simp[AV.ids,AV0.ids,Atom.ids]) rfl (fun w0 T B E0 hB=>?_)
 refine SX.goM ?_;refine W.loop (fun k=>k≤v.li.length) (fun k=>[(3,.v (.int .i64 ((1+((v.li.take k).map g).sum:Nat):Int))),(31,.r (aA 15 vlE v.li)),(32,.v (.int .i64 (v.li.length:Int))),(33,.v (.int .i64 (k:Int)))]) (fun _=>[]) (fun k=>v.li.length - k) 0 (Nat.zero_le _) (fun k hk=>?_)
 by_cases hlt:k < v.li.length
 ·obtain⟨x,hx'⟩:∃x,v.li[k]? =some x:=⟨_,zq2 hlt⟩
  have c:=hx x (zq4 hx');have e1:((v.li.take (k+1)).map g).sum=((v.li.take k).map g).sum+g x:=by rw[List.take_add_one,hx'];simp
  have e2:((v.li.take (k+1)).map g).sum≤(v.li.map g).sum:=by
   conv=>rhs;rw[←List.take_append_drop (k+1) v.li,List.map_append,List.sum_append]
   omega
  refine SX.goM ?_;exact W.next (k+1) hlt (by omega)
 ·obtain rfl:k=v.li.length:=by omega
  rw[List.take_length];refine SX.goM ?_;exact gM rfl
theorem ae4(v:Vl)(g:Vl→Nat)(h:v.k=6)(hl:v.li.length≤1000000)(hg:∀x∈v.li,g x≤100)(hx:∀x∈v.li,ah prog 484 [.agg (vlA x)] (.v (.int .i64 (g x:Int)))):
  ah prog 484 [.agg (vlA v)] (.v (.int .i64 ((1+(v.li.map g).foldl max 0:Nat):Int))):=by
 rw[aoh];refine ah.fnF func484 results484 ntmps484 rfl rfl rfl (by simp[AV.ids,AV0.ids,Atom.ids]) rfl (fun w0 T B E0 hB=>?_)
 refine SX.goM ?_;refine W.mH (fun k m=>k≤v.li.length∧m≤100∧m=((v.li.take k).map g).foldl max 0) (fun k m=>[(3,.v (.int .i64 (m:Int))),(10,.r (aA 15 vlE v.li)),(11,.v (.int .i64 (v.li.length:Int))),(12,.v (.int .i64 (k:Int)))]) (fun _ _=>[]) (fun k _=>v.li.length - k) 0 0 ⟨Nat.zero_le _,Nat.zero_le _,rfl⟩ (fun k m ⟨hk,hm,hmm⟩=>?_)
 by_cases hlt:k < v.li.length
 ·obtain⟨x,hx'⟩:∃x,v.li[k]? =some x:=⟨_,zq2 hlt⟩
  have c:=hx x (zq4 hx');have hgx:=hg x (zq4 hx');have e1:((v.li.take (k+1)).map g).foldl max 0=max m (g x):=by rw[List.take_add_one,hx',hmm];simp
  refine SX.goM ?_;exact W.lS (k+1) (max m (g x)) ⟨hlt,by omega,e1.symm⟩ (by omega)
 ·obtain rfl:k=v.li.length:=by omega
  rw[List.take_length]at hmm;refine SX.goM ?_;refine gM ?_;rw[←hmm]
end
section
abbrev ndM(n:Nd):List Atom:=[.c (.val (.int .i64 n.op)),.c (.val (str n.text)),.c (.sat (aA 3 ndE n.kids))]
theorem ab5(n:Nd):AV.agg (ndA n)=AV.agg (ndM n):=by
 unfold ndA ndM;rw[show ndC=ndE from funext aH]
structure VI(B s:Nat)(v:Vl):Prop where
 n:∃d:Nat,d≤20∧ah prog 484 [.agg (vlA v)] (.v (.int .i64 (d:Int)))
 b:∃b:Nat,b≤B∧ah prog 485 [.agg (vlA v)] (.v (.int .i64 (b:Int)))
 s:ah prog 486 [.agg (vlA v)] (.v (.int .i64 (s:Int)))
def EX(B:Nat)(nm:Nms)(n:Nd)(k:Nat)(v:Vl):Prop:=∀F u la tx,F+k≤1000000000→aj prog 394 [.ptr 81 0,.agg (ndA n)] (ME (F+k) B nm u la tx) ⟨.agg (vlA v),MO F B nm u la tx⟩
def AL(B:Nat)(nm:Nms)(ns:List Nd)(k:Nat)(vs:List Vl):Prop:=∀F u la tx,F+k≤1000000000→aj prog 460 [.ptr 81 0,.r (aA 3 ndE ns)] (ME (F+k) B nm u la tx) ⟨.r (aA 15 vlE vs),MO F B nm u la tx⟩
theorem al7{nm:Nms}{t:List UInt8}{v:Vl}(h:eG nm t=some v):eG (nmC nm) t=some (vlE v):=by
 induction nm with
 |nil=>cases h
 |cons p nm ih=>
  obtain⟨k,c⟩:=p;unfold eG at h;show (if t=k then some (vlE c)else eG (nmC nm) t)=_
  by_cases hk:t=k
  ·rw[if_pos hk]at h ⊢;cases h;rfl
  ·rw[if_neg hk]at h ⊢;exact ih h
theorem apG(nm:Nms)(t:List UInt8)(v:Vl):nmC (iN nm t v)=iN (nmC nm) t (vlE v):=by
 induction nm with
 |nil=>rfl
 |cons p nm ih=>
  obtain⟨k,c⟩:=p;show nmC (if t=k then(k,v)::nm else(k,c)::iN nm t v)=(if t=k then(k,vlE v)::nmC nm else(k,vlE c)::iN (nmC nm) t (vlE v))
  by_cases hk:t=k
  ·rw[if_pos hk,if_pos hk];rfl
  ·rw[if_neg hk,if_neg hk];show (k,vlE c)::nmC (iN nm t v)=_;rw[ih]
attribute [local irreducible] IntKind.wrap Go1 Reg WP aR aU bR bO aN aF ak aj aY Sat
attribute [local irreducible] bS dn cK dD dh qv bW mf PrP qOk zOk vP eu lz vF cq rqv fB dw dN d9 gP jn sq aV qS zS tS tbS plS mdS eG iN nmC
theorem ad1(F B s:Nat)(nm:Nms)(u:Bool)(la:Vl)(tx:List UInt8){v:Vl}(h:VI B s v)(hB:B≤1000000000)(hF:F+s≤1000000000):aj prog 457 [.ptr 81 0,.agg (vlA v),.v (.int .i64 0)] (ME (F+s) B nm u la tx) ⟨.agg (vlA v),MO F B nm u la tx⟩:=by
 obtain⟨⟨d,hd,cN⟩,⟨b,hb,cB⟩,cS⟩:=h;have cT:=aml F B s nm u la tx hF;cases u <;> (
  refine aj.fnM func457 results457 ntmps457 rfl rfl rfl rfl (by first|rfl|(cases u <;> rfl)) (by first|rfl|(cases u <;> rfl)) (by first|rfl|(cases u <;> rfl)) (fun w0 Tw Bw E0 hB=>?_)
  refine SX.goM ?_;exact gI (xs:=[.agg (vlA v)]) ⟨ak.gX rfl rfl rfl,trivial⟩ ⟨rfl,rfl,rfl,trivial⟩
 )
theorem apb(F B:Nat){nm:Nms}(u:Bool)(la:Vl)(tx:List UInt8){t:List UInt8}{v:Vl}(h:eG (nmC nm) t=some (vlE v)):aj prog 458 [.ptr 81 0,.v (str t)] (ME F B nm u la tx) ⟨.tup [.agg (vlA v),eNo 0],MO F B nm u la tx⟩:=by
 refine aj.fnM func458 results458 ntmps458 rfl rfl rfl rfl (by first|rfl|(cases u <;> rfl)) (by first|rfl|(cases u <;> rfl)) (by first|rfl|(cases u <;> rfl)) (fun w0 Tw Bw E0 hB=>?_)
 refine SX.goM ?_;exact gI (xs:=[.agg (vlA v),eNo 0]) ⟨ak.gX rfl rfl rfl,ak.tmp rfl,trivial⟩ ⟨rfl,rfl,rfl,trivial⟩
theorem anG(B:Nat)(nm:Nms)(ns:List Nd)(ks:List Nat)(vs:List Vl)(hk:ks.length=ns.length)(hv:vs.length=ns.length)(hl:ns.length≤100000)
  (h:∀(i:Nat) n k v,ns[i]? =some n→ks[i]? =some k→vs[i]? =some v→EX B nm n k v):AL B nm ns ks.sum vs:=fun F u la tx hF=>by
 cases u with
 |false=>
  refine aj.fnM func460 results460 ntmps460 rfl rfl rfl rfl (by first|rfl|(cases u <;> rfl)) (by first|rfl|(cases u <;> rfl)) (by first|rfl|(cases u <;> rfl)) (fun w0 Tw Bw E0 hB=>?_)
  refine SX.goM ?_;refine W.mH (fun k fu=>k≤ns.length∧fu=F+(ks.drop k).sum) (fun k fu=>[(0,.ptr 81 0),(5,.own 100),(8,.r (aA 3 ndE ns)),(9,.v (.int .i64 (ns.length:Int))),(10,.v (.int .i64 (k:Int)))]) (fun k fu=>[(81,MB fu B false la),(82,.abs (gV (nmC nm))),(84,tC tx),(100,.row 42 15 k ((vs.take k).flatMap vlE))]) (fun k _=>ns.length - k) 0 (F+ks.sum) ⟨Nat.zero_le _,rfl⟩ (fun k fu ⟨hkn,hfu⟩=>?_)
   (by
    refine SX.St.aZ [(100,none)] (by intro b h;exact SX.bU h rfl) ?_ ?_ rfl
    ·repeat(first|exact trivial|refine⟨⟨_,rfl,SX.aG.same rfl⟩,?_⟩|refine⟨⟨_,rfl,SX.aG.nil rfl⟩,?_⟩)
    ·exact⟨SX.ay.same rfl rfl,SX.ay.same rfl rfl,SX.ay.same rfl rfl,SX.ay.dF rfl,trivial⟩)
  by_cases hlt:k < ns.length
  ·obtain⟨n,hn⟩:∃n,ns[k]? =some n:=⟨_,zq2 hlt⟩
   obtain⟨c,hc⟩:∃c,ks[k]? =some c:=⟨_,zq2 (by omega)⟩
   obtain⟨v,hvk⟩:∃v,vs[k]? =some v:=⟨_,zq2 (by omega)⟩
   have hsum:(ks.drop k).sum=c+(ks.drop (k+1)).sum:=by
    obtain⟨hk2,e⟩:=List.getElem?_eq_some_iff.1 hc
    rw[List.drop_eq_getElem_cons hk2,e,List.sum_cons]
   have hle:(ks.drop k).sum≤ks.sum:=by
    conv=>rhs;rw[←List.take_append_drop k ks,List.sum_append]
    omega
   obtain⟨f',rfl⟩:∃f',fu=f'+c:=⟨F+(ks.drop (k+1)).sum,by omega⟩
   have cE:=h k n c v hn hc hvk f' false la tx (by omega)
   have e2:(vs.take k).flatMap vlE++vlE v=(vs.take (k+1)).flatMap vlE:=by rw[jQ hvk];simp
   refine SX.goM ?_;refine W.lS (k+1) f' ⟨hlt,by omega⟩ (by omega) (by
    refine SX.St.aZ [(100,some 19)] (by intro b h;exact SX.bU h rfl) ?_ ?_ rfl
    ·repeat(first|exact trivial|refine⟨⟨_,rfl,SX.aG.same rfl⟩,?_⟩|refine⟨⟨_,rfl,SX.aG.own rfl⟩,?_⟩)
    ·exact⟨SX.ay.same rfl rfl,SX.ay.same rfl rfl,SX.ay.same rfl rfl,SX.ay.row rfl rfl rfl e2,trivial⟩)
  ·obtain rfl:k=vs.length:=by omega
   rw[List.drop_of_length_le (by omega),List.sum_nil]at hfu
   subst hfu;rw[List.take_length];refine SX.goM ?_;refine aN.frzM 100 hB rfl rfl rfl rfl ?_;exact gI (xs:=[.one (.c (.sat (aA 15 vlE vs)))]) ⟨ak.tmp rfl,trivial⟩ ⟨rfl,rfl,rfl,trivial⟩
 |true=>
  refine aj.fnM func460 results460 ntmps460 rfl rfl rfl rfl (by first|rfl|(cases u <;> rfl)) (by first|rfl|(cases u <;> rfl)) (by first|rfl|(cases u <;> rfl)) (fun w0 Tw Bw E0 hB=>?_)
  refine SX.goM ?_;refine W.mH (fun k fu=>k≤ns.length∧fu=F+(ks.drop k).sum) (fun k fu=>[(0,.ptr 81 0),(5,.own 100),(8,.r (aA 3 ndE ns)),(9,.v (.int .i64 (ns.length:Int))),(10,.v (.int .i64 (k:Int)))]) (fun k fu=>[(81,MB fu B true la),(82,.abs (gV (nmC nm))),(84,tC tx),(100,.row 42 15 k ((vs.take k).flatMap vlE))]) (fun k _=>ns.length - k) 0 (F+ks.sum) ⟨Nat.zero_le _,rfl⟩ (fun k fu ⟨hkn,hfu⟩=>?_)
   (by
    refine SX.St.aZ [(100,none)] (by intro b h;exact SX.bU h rfl) ?_ ?_ rfl
    ·repeat(first|exact trivial|refine⟨⟨_,rfl,SX.aG.same rfl⟩,?_⟩|refine⟨⟨_,rfl,SX.aG.nil rfl⟩,?_⟩)
    ·exact⟨SX.ay.same rfl rfl,SX.ay.same rfl rfl,SX.ay.same rfl rfl,SX.ay.dF rfl,trivial⟩)
  by_cases hlt:k < ns.length
  ·obtain⟨n,hn⟩:∃n,ns[k]? =some n:=⟨_,zq2 hlt⟩
   obtain⟨c,hc⟩:∃c,ks[k]? =some c:=⟨_,zq2 (by omega)⟩
   obtain⟨v,hvk⟩:∃v,vs[k]? =some v:=⟨_,zq2 (by omega)⟩
   have hsum:(ks.drop k).sum=c+(ks.drop (k+1)).sum:=by
    obtain⟨hk2,e⟩:=List.getElem?_eq_some_iff.1 hc
    rw[List.drop_eq_getElem_cons hk2,e,List.sum_cons]
   have hle:(ks.drop k).sum≤ks.sum:=by
    conv=>rhs;rw[←List.take_append_drop k ks,List.sum_append]
    omega
   obtain⟨f',rfl⟩:∃f',fu=f'+c:=⟨F+(ks.drop (k+1)).sum,by omega⟩
   have cE:=h k n c v hn hc hvk f' true la tx (by omega)
   have e2:(vs.take k).flatMap vlE++vlE v=(vs.take (k+1)).flatMap vlE:=by rw[jQ hvk];simp
   refine SX.goM ?_;refine W.lS (k+1) f' ⟨hlt,by omega⟩ (by omega) (by
    refine SX.St.aZ [(100,some 19)] (by intro b h;exact SX.bU h rfl) ?_ ?_ rfl
    ·repeat(first|exact trivial|refine⟨⟨_,rfl,SX.aG.same rfl⟩,?_⟩|refine⟨⟨_,rfl,SX.aG.own rfl⟩,?_⟩)
    ·exact⟨SX.ay.same rfl rfl,SX.ay.same rfl rfl,SX.ay.same rfl rfl,SX.ay.row rfl rfl rfl e2,trivial⟩)
  ·obtain rfl:k=vs.length:=by omega
   rw[List.drop_of_length_le (by omega),List.sum_nil]at hfu
   subst hfu;rw[List.take_length];refine SX.goM ?_;refine aN.frzM 100 hB rfl rfl rfl rfl ?_;exact gI (xs:=[.one (.c (.sat (aA 15 vlE vs)))]) ⟨ak.tmp rfl,trivial⟩ ⟨rfl,rfl,rfl,trivial⟩
section
variable{B:Nat}{nm:Nms}{n:Nd}{v:Vl}{s:Nat}(hB0:B≤1000000000)
include hB0
theorem EX.num(hop:n.op=1){z:Nat}(cP:ah prog 456 [.v (str n.text)] (.tup [.agg (zN z),.one (.c (.val (.bool true)))]))(cW:ah prog 17 [.agg (zN z)] (.agg (vlA v)))(hv:VI B s v):EX B nm n (s+1) v:=fun F u la tx hF=>by
 have c1:=mP (F+s) B nm u la tx (by omega)
 have c2:=ad1 F B s nm u la tx hv hB0 (by omega)
 rw[show F+(s+1)=F+s+1 from rfl,ab5]
 cases u <;> (
  refine aj.fnM func394 results394 ntmps394 rfl rfl rfl rfl (by first|rfl|(cases u <;> rfl)) (by first|rfl|(cases u <;> rfl)) (by first|rfl|(cases u <;> rfl)) (fun w0 Tw Bw E0 hB=>?_)
  refine SX.goM ?_;exact gI (xs:=[.agg (vlA v)]) ⟨ak.gX rfl rfl rfl,trivial⟩ ⟨rfl,rfl,rfl,trivial⟩
 )
theorem EX.name(hop:n.op=2)(hl:eG nm n.text=some v)(hv:VI B s v):EX B nm n (s+1) v:=fun F u la tx hF=>by
 have c1:=mP (F+s) B nm u la tx (by omega)
 have c2:=ad1 F B s nm u la tx hv hB0 (by omega)
 have c3:=apb (F+s) B u la tx (al7 hl);rw[show F+(s+1)=F+s+1 from rfl,ab5]
 cases u <;> (
  refine aj.fnM func394 results394 ntmps394 rfl rfl rfl rfl (by first|rfl|(cases u <;> rfl)) (by first|rfl|(cases u <;> rfl)) (by first|rfl|(cases u <;> rfl)) (fun w0 Tw Bw E0 hB=>?_)
  refine SX.goM ?_;exact gI (xs:=[.agg (vlA v)]) ⟨ak.gX rfl rfl rfl,trivial⟩ ⟨rfl,rfl,rfl,trivial⟩
 )
theorem EX.opr(hop:¬n.op=1∧¬n.op=2∧¬n.op=14){k:Nat}{vs:List Vl}(hA:AL B nm n.kids k vs)(cO:ah prog 461 [.agg (ndM n),.r (aA 15 vlE vs)] (.tup [.agg (vlA v),eNo 0]))(hv:VI B s v):EX B nm n (s+k+1) v:=fun F u la tx hF=>by
 obtain⟨h1,h2,h3⟩:=hop;have c1:=mP (F+s+k) B nm u la tx (by omega)
 have cA:=hA (F+s) u la tx (by omega)
 have c2:=ad1 F B s nm u la tx hv hB0 (by omega)
 rw[show F+(s+k+1)=F+s+k+1 by omega,ab5]
 cases u <;> (
  refine aj.fnM func394 results394 ntmps394 rfl rfl rfl rfl (by first|rfl|(cases u <;> rfl)) (by first|rfl|(cases u <;> rfl)) (by first|rfl|(cases u <;> rfl)) (fun w0 Tw Bw E0 hB=>?_)
  refine SX.goM ?_;exact gI (xs:=[.agg (vlA v)]) ⟨ak.gX rfl rfl rfl,trivial⟩ ⟨rfl,rfl,rfl,trivial⟩
 )
theorem EX.mat(hop:n.op=14){k:Nat}(hR:∀F u la tx,F+k≤1000000000→aj prog 459 [.ptr 81 0,.r (aA 3 ndE n.kids)] (ME (F+k) B nm u la tx) ⟨.tup [.agg (vlA v),eNo 0],MO F B nm u la tx⟩)(hv:VI B s v):EX B nm n (s+k+1) v:=fun F u la tx hF=>by
 have c1:=mP (F+s+k) B nm u la tx (by omega)
 have cA:=hR (F+s) u la tx (by omega)
 have c2:=ad1 F B s nm u la tx hv hB0 (by omega)
 rw[show F+(s+k+1)=F+s+k+1 by omega,ab5]
 cases u <;> (
  refine aj.fnM func394 results394 ntmps394 rfl rfl rfl rfl (by first|rfl|(cases u <;> rfl)) (by first|rfl|(cases u <;> rfl)) (by first|rfl|(cases u <;> rfl)) (fun w0 Tw Bw E0 hB=>?_)
  refine SX.goM ?_;exact gI (xs:=[.agg (vlA v)]) ⟨ak.gX rfl rfl rfl,trivial⟩ ⟨rfl,rfl,rfl,trivial⟩
 )
end
section
variable{n:Nd}{v:Vl}
theorem alh(hop:n.op=3){a:Vl}(c:ah prog 488 [.v (.int .i64 3),.agg (vlA a)] (.tup [.agg (vlA v),eNo 0])):ah prog 461 [.agg (ndM n),.r (aA 15 vlE [a])] (.tup [.agg (vlA v),eNo 0]):=by
 have ha:[a][0]? =some a:=rfl;rw[←hop]at c;refine ah.fnF func461 results461 ntmps461 rfl rfl rfl (by simp[AV.ids,AV0.ids,Atom.ids]) rfl (fun w0 T B E0 hB=>?_)
 refine SX.goM ?_;exact .ok (aF.mk2 (ak.gX rfl rfl rfl) (ak.tmp rfl))
theorem ahy(hop:n.op=13){vs:List Vl}(c:ah prog 28 [.v (str n.text),.r (aA 15 vlE vs)] (.tup [.agg (vlA v),eNo 0])):ah prog 461 [.agg (ndM n),.r (aA 15 vlE vs)] (.tup [.agg (vlA v),eNo 0]):=by
 refine ah.fnF func461 results461 ntmps461 rfl rfl rfl (by simp[AV.ids,AV0.ids,Atom.ids]) rfl (fun w0 T B E0 hB=>?_)
 refine SX.goM ?_;exact .ok (aF.mk2 (ak.gX rfl rfl rfl) (ak.tmp rfl))
theorem asH(hop:4≤n.op∧n.op≤12){a b:Vl}(c:ah prog 490 [.v (.int .i64 n.op),.agg (vlA a),.agg (vlA b)] (.tup [.agg (vlA v),eNo 0])):ah prog 461 [.agg (ndM n),.r (aA 15 vlE [a,b])] (.tup [.agg (vlA v),eNo 0]):=by
 have ha:[a,b][0]? =some a:=rfl;have hb:[a,b][1]? =some b:=rfl;refine ah.fnF func461 results461 ntmps461 rfl rfl rfl (by simp[AV.ids,AV0.ids,Atom.ids]) rfl (fun w0 T B E0 hB=>?_)
 refine SX.goM ?_;exact .ok (aF.mk2 (ak.gX rfl rfl rfl) (ak.tmp rfl))
end
end
section
theorem atg(bs s:List UInt8):bs.length+s.length=(bs++s).length:=List.length_append.symm
theorem asO(bs s:List UInt8):bs.flatMap jR++s.flatMap jR=(bs++s).flatMap jR:=List.flatMap_append.symm
abbrev wrt(tx:List UInt8):Bool:=!tx.isEmpty
def pR(F B:Nat)(nm:Nms)(la:Vl)(tx:List UInt8):jO:=mh 81 (fun _:Unit=>True) 159 (fun _=>mB F B (wrt tx) la) (fun _=>[(82,.abs (gV (nmC nm))),(84,tC tx)])
theorem arZ{F B:Nat}{u:Bool}{la:Vl}{i:Nat}(h:i∈(mB F B u la).flatMap Atom.ids):i=82∨i=81∨i=84:=by
 cases u
 ·have h':i=82∨i=84:=by simpa[aeV,Atom.ids]using h
  rcases h' with h'|h'
  ·exact .inl h'
  ·exact .inr (.inr h')
 ·have h':i=82∨i=81∨i=84:=by simpa[aeV,Atom.ids]using h
  exact h'
theorem aav{P:Program}{C:Ctx}{st:St}{Q:Exit→St→Prop}{cd:Code}{F B:Nat}{nm:Nms}{la:Vl}{tx:List UInt8}(hb:st.hp 81= .ent (.abs (pR F B nm la tx)))(h1:st.hp 82= .free)(h2:st.hp 84= .free)(f1:C.fix 82=false)(f2:C.fix 84=false)
  (h:WP P C cd (sS st 81 159 (mB F B (wrt tx) la) [(82,.abs (gV (nmC nm))),(84,tC tx)]) Q):WP P C cd st Q:=
 WP.afp (ι:=Unit) (b:=81) [82,84] hb (fun p=>rfl) (by intro i hi;simp at hi;rcases hi with rfl|rfl <;> assumption) (by intro i hi;simp at hi;rcases hi with rfl|rfl <;> assumption)
  (by
   intro p i hi;rcases arZ hi with rfl|rfl|rfl <;> simp)
  (by intro p i e he;simp at he;rcases he with⟨rfl,rfl⟩|⟨rfl,rfl⟩ <;> rfl) (fun p hp=>h)
theorem aeL{ρ:List (Nat×Option Nat)}{u u':Bool}(e:u=u')(h:fresh ρ [81]=true):aB ρ (aeV u) (aeV u'):=by
 subst e;cases u
 ·exact aB.same rfl
 ·exact aB.same h
theorem aaL{C:Ctx}{st:St}{F B:Nat}{nm:Nms}{la:Vl}{tx:List UInt8}{cells0:List Atom}(ρ:List (Nat×Option Nat))(os:List Nat)(hb:st.hp 81= .ent (.box 159 cells0))
  (hc:mG ρ cells0 (mB F B (wrt tx) la)) (hR:aay st ρ [(82,.abs (gV (nmC nm))),(84,tC tx)])
  (hos:(([(82,.abs (gV (nmC nm))),(84,tC tx)]:List (Nat×Ent)).all fun q=>match SX.src ρ q.1 with|some o=>iR os o|none=>true)=true) (hbo:iR os 81=false) (hdi:(([(82,.abs (gV (nmC nm))),(84,tC tx)]:List (Nat×Ent)).all fun q=>([(82,.abs (gV (nmC nm))),(84,tC tx)]:List (Nat×Ent)).all fun q'=>Nat.beq q.1 q'.1||!(eqO (SX.src ρ q.1) (SX.src ρ q'.1)))=true)
  (hfb:lk ρ 81=none:=by rfl):St.le C st (oN st 81 (pR F B nm la tx) os):=
 St.aa9 (ι:=Unit) (b:=81) () ρ os trivial hb hc hR hos hbo hdi hfb
abbrev S21{ρ:List (Nat×Option Nat)}{x:Atom}(h:fresh ρ x.ids=true:=by rfl):aB ρ x x:=aB.same h
theorem ac5{C:Ctx}{st:St}{F B:Nat}{nm:Nms}{u:Bool}{la:Vl}{tx:List UInt8}(hu:u=wrt tx)(hb:st.hp 81= .ent (MB F B u la))(h2:st.hp 82= .ent (.abs (gV (nmC nm))))(h4:st.hp 84= .ent (tC tx)):St.le C st (oN st 81 (pR F B nm la tx) [82,84]):=
 aaL [] [82,84] hb ⟨S21,S21,S21,aeL hu rfl,S21,S21,S21,S21,S21,S21,S21,S21,S21,S21,S21,S21,S21,S21,S21,S21,S21,trivial⟩ ⟨SX.ay.same h2 rfl,SX.ay.same h4 rfl,trivial⟩ rfl rfl rfl
abbrev MP(F B:Nat)(nm:Nms)(la:Vl)(tx:List UInt8):List (Nat×Ent):=[(81,.abs (pR F B nm la tx))]
abbrev MQ(F B:Nat)(nm:Nms)(la:Vl)(tx:List UInt8):List (Nat×Slot):=[(81,.ent (.abs (pR F B nm la tx)))]
theorem aj.mach{f:FuncId}{args:List AV}{r:AV}{F F' B:Nat}{nm nm':Nms}{la la':Vl}{tx:List UInt8}(h:aj prog f args (ME F B nm (wrt tx) la tx) ⟨r,MO F' B nm' (wrt tx) la' tx⟩)(hargs:∀v∈args,∀i∈v.ids,i=81)(hr:r.ids=[]):
  aj prog f args (MP F B nm la tx) ⟨r,MQ F' B nm' la' tx⟩:=
 aj.bun (R:=[(82,.abs (gV (nmC nm))),(84,tC tx)]) (R':=[(82,.abs (gV (nmC nm'))),(84,tC tx)]) h hargs hr (by intro e he;simp at he)
theorem args1{a:AV}(h:a.ids=[]):∀v∈[AV.ptr 81 0,a],∀i∈v.ids,i=81:=by
 intro v hv i hi;simp at hv
 rcases hv with rfl|rfl
 ·simpa[AV.ids,AV0.ids,Atom.ids]using hi
 ·rw[h]at hi;cases hi
theorem EX.mach{B:Nat}{nm:Nms}{n:Nd}{k:Nat}{v:Vl}(h:EX B nm n k v)(F:Nat)(la:Vl)(tx:List UInt8)(hF:F+k≤1000000000):aj prog 394 [.ptr 81 0,.agg (ndA n)] (MP (F+k) B nm la tx) ⟨.agg (vlA v),MQ F B nm la tx⟩:=
 aj.mach (h F (wrt tx) la tx hF) (args1 rfl) rfl
theorem apf(F B:Nat)(nm:Nms)(la:Vl)(tx:List UInt8)(h:F+1≤1000000000):aj prog 393 [.ptr 81 0,.v (.int .i64 1)] (MP (F+1) B nm la tx) ⟨.v (.bool true),MQ F B nm la tx⟩:=
 aj.mach (mP F B nm (wrt tx) la tx h) (args1 rfl) rfl
theorem St.am6{C:Ctx}{st:St}{b:Nat}{t:TypeId}{cells:List Atom}(hb:st.hp b= .ent (.box t cells)):St.le C st ⟨st.tm,upd st.hp b .gone⟩:=fun a w ⟨E,S,hs⟩=>by
 have hu:∀i,(st.hp i).used=true→(upd st.hp b .gone i).used=true:=fun i hi=>by
  by_cases e:i=b
  ·subst e;rw[upd_same];rfl
  ·rw[upd_ne _ _ e];exact hi
 have hk:∀c e,upd st.hp b .gone c= .ent e→st.hp c= .ent e:=fun c e hc=>by
  by_cases e1:c=b
  ·subst e1;rw[upd_same]at hc;cases hc
  ·rw[upd_ne _ _ e1]at hc;exact hc
 exact⟨E,S,{dfr:=hs.dfr,nt:=hs.nt,cT:=hs.cT,cT0:=hs.cT0,cS:=hs.cS,lt:=hs.lt,tm:=hs.tm,tid:=fun t v h i hi=>hu i (hs.tid t v h i hi),hp:=fun c e hc=>hs.hp c e (hk c e hc),hid:=fun c e hc i hi=>hu i (hs.hid c e (hk c e hc) i hi),blk:=fun c e k hc=>hs.blk c e k (hk c e hc),sep:=fun c c' e e' k hne hc hc'=>hs.sep c c' e e' k hne (hk c e hc) (hk c' e' hc'),off:=hs.off,env:=fun c hc=>let⟨g1,g2,g3⟩:=hs.env c hc;⟨g1,g2,hu c g3⟩,gl:=hs.gl}⟩
theorem arS(v:Value)(w:World):(callFunc 529 #[v]).run prog w= .ok (.value v) w:=by
 rw[run_callFunc_extern func529 (by kernel_rfl) (by kernel_rfl) (by kernel_rfl) (e:=Extern.AbiNoEscape.same) (by kernel_rfl)]
 rw[Lib.run_noEscape];rfl
theorem St.ah6{C:Ctx}{a b c:St}(h:St.le C a b)(k:St.le C b c):St.le C a c:=fun x w hs=>k x w (h x w hs)
attribute [local irreducible] IntKind.wrap Go1 Reg WP aR aU bR bO aN aF ak aj aY Sat
attribute [local irreducible] bS dn cK dD dh qv bW mf PrP qOk zOk vP eu lz vF cq rqv fB dw dN d9 gP jn sq aV qS zS tS tbS plS mdS eG iN nmC
theorem apd(F B:Nat)(nm:Nms)(u:Bool)(la:Vl)(tx:List UInt8):aj prog 492 [.ptr 81 3] (ME F B nm u la tx) ⟨.tup [],MO F B nm true la tx⟩:=by
 cases u with
 |false=>
  refine aj.fnM func492 results492 ntmps492 rfl rfl rfl rfl (by first|rfl|(cases u <;> rfl)) (by first|rfl|(cases u <;> rfl)) (by first|rfl|(cases u <;> rfl)) (fun w0 Tw Bw E0 hB=>?_)
  refine SX.goM ?_;refine SX.Go1.ala (b:=81) (off:=3) rfl arS rfl ?_;refine SX.goM ?_;refine SX.Go1.arQ (m:=21) rfl rfl rfl rfl (by kernel_rfl) ?_
  refine SX.goM ?_;exact gI (xs:=[]) trivial ⟨rfl,rfl,rfl,trivial⟩
 |true=>
  refine aj.fnM func492 results492 ntmps492 rfl rfl rfl rfl (by first|rfl|(cases u <;> rfl)) (by first|rfl|(cases u <;> rfl)) (by first|rfl|(cases u <;> rfl)) (fun w0 Tw Bw E0 hB=>?_)
  refine SX.goM ?_;exact gI (xs:=[]) trivial ⟨rfl,rfl,rfl,trivial⟩
theorem atu(F B:Nat)(nm:Nms)(la:Vl)(tx:List UInt8):aj prog 463 [.ptr 81 3] (MP F B nm la tx) ⟨.v (.int .i64 (tx.length:Int)),MQ F B nm la tx⟩:=by
 refine aj.fnA func463 results463 ntmps463 rfl rfl rfl rfl rfl rfl rfl rfl (fun w0 T B E0 hB=>?_)
 refine aav rfl rfl rfl rfl rfl ?_;refine SX.goM ?_;refine aN.le (ac5 rfl rfl rfl rfl) ?_;exact gI (xs:=[.one (.c (.val (.int .i64 (tx.length:Int))))]) ⟨ak.tmp rfl,trivial⟩ ⟨rfl,trivial⟩
theorem apk(tx s:List UInt8)(h:s≠[]):true=wrt (tx++s):=by
 cases tx <;> cases s <;> simp_all
theorem aaG(F B:Nat)(nm:Nms)(la:Vl)(tx s:List UInt8)(h:tx.length+s.length≤1000000000)(hs:s≠[]):aj prog 464 [.ptr 81 3,.v (str s)] (MP F B nm la tx) ⟨.tup [.one (.c (.val (.int .i64 (s.length:Int)))),.one (.c (.val .nilIface))],MQ F B nm la (tx++s)⟩:=by
 have c:=apd F B nm (wrt tx) la tx;refine aj.fnA func464 results464 ntmps464 rfl rfl rfl rfl rfl rfl rfl rfl (fun w0 T B E0 hB=>?_)
 refine aav rfl rfl rfl rfl rfl ?_;generalize wrt tx=u at c ⊢;cases u <;> (
  refine SX.goM ?_;refine aN.le (aaL (tx:=tx++s) [(84,some 14)] [82,14] rfl ⟨S21,S21,S21,aeL (apk tx s hs) rfl,aB.own rfl,S21,S21,S21,S21,S21,S21,S21,S21,S21,S21,S21,S21,S21,S21,S21,S21,trivial⟩ ⟨SX.ay.same rfl rfl,SX.ay.row rfl rfl (atg _ _) (asO _ _),trivial⟩ rfl rfl rfl) ?_;exact gI (xs:=[.one (.c (.val (.int .i64 (s.length:Int)))),.one (.c (.val .nilIface))]) ⟨ak.tmp rfl,ak.tmp rfl,trivial⟩ ⟨rfl,trivial⟩
 )
theorem akq(F B:Nat)(nm:Nms)(la:Vl)(tx:List UInt8)(h0:tx≠[]):aj prog 97 [.ptr 81 3] (MP F B nm la tx) ⟨.v (str tx),[(81,.gone)]⟩:=by
 have hl:0 < tx.length:=by
  cases tx with
  |nil=>exact absurd rfl h0
  |cons=>simp
 refine aj.fnA func97 results97 ntmps97 rfl rfl rfl rfl rfl rfl rfl rfl (fun w0 T B E0 hB=>?_)
 refine aav rfl rfl rfl rfl rfl ?_;refine SX.goM ?_;refine aN.le (St.am6 (b:=81) rfl) ?_;exact gI (xs:=[.one (.c (.val (str tx)))]) ⟨ak.tmp rfl,trivial⟩ ⟨rfl,trivial⟩
theorem atv(F Bt:Nat)(nm:Nms)(la:Vl)(tx:List UInt8){v:Vl}{s:List UInt8}(cP:ah prog 462 [.agg (vlA v)] (.tup [.one (.c (.val (str s))),eNo 0]))(hl:tx.length+s.length+1≤100000):
  aj prog 395 [.ptr 81 0,.agg (vlA v)] (MP F Bt nm la tx) ⟨.tup [],MQ F Bt nm v (tx++(s++[10]))⟩:=by
 have cL:=atu F Bt nm la tx;have hsl:(s++[10]).length=s.length+1:=by simp
 have cW:=aaG F Bt nm v tx (s++[10]) (by omega) (by simp)
 have hq:Hide (¬((tx.length:Int)+(s.length:Int)+1 > 100000)):=⟨by omega⟩
 refine aj.fnA func395 results395 ntmps395 rfl rfl rfl rfl rfl rfl rfl rfl (fun w0 T B E0 hB=>?_)
 refine W.meet [(0,.ptr 81 0),(3,.ptr 3 0)] [(3,.box 42 (vlA v)),(81,.abs (pR F Bt nm la tx))] ?_ ?_
 ·refine SX.goM ?_;exact W.le
 refine W.meet [(0,.ptr 81 0),(3,.ptr 3 0),(4,.v (str s)),(5,.v (.int .i64 0))] [(3,.box 42 (vlA v)),(81,.abs (pR F Bt nm la tx))] ?_ ?_
 ·refine SX.goM ?_;exact W.le
 refine W.meet [(0,.ptr 81 0),(3,.ptr 3 0),(4,.v (str s))] [(3,.box 42 (vlA v)),(81,.abs (pR F Bt nm la tx))] ?_ ?_
 ·refine SX.goM ?_;exact W.le
 refine aav rfl rfl rfl rfl rfl ?_;refine W.meet [(0,.ptr 81 0),(4,.v (str s))] [(81,.abs (pR F Bt nm v tx))] ?_ ?_
 ·refine SX.goM ?_;refine St.ah6 (ac5 (la:=v) rfl rfl rfl rfl) ?_;exact W.le
 refine SX.goM ?_;exact gI (xs:=[]) trivial ⟨rfl,trivial⟩
end
section
abbrev Ms:=Nms×Vl×List UInt8
def ST(B:Nat)(n:Nd)(k:Nat)(σ σ':Ms):Prop:=∀F,F+k≤1000000000→aj prog 294 [.ptr 81 0,.agg (ndA n)] (MP (F+k) B σ.1 σ.2.1 σ.2.2) ⟨.tup [],MQ F B σ'.1 σ'.2.1 σ'.2.2⟩
def BL(B:Nat)(ns:List Nd)(k:Nat)(σ σ':Ms):Prop:=∀F,F+k≤1000000000→aj prog 186 [.ptr 81 0,.r (aA 3 ndE ns)] (MP (F+k) B σ.1 σ.2.1 σ.2.2) ⟨.tup [],MQ F B σ'.1 σ'.2.1 σ'.2.2⟩
theorem aB.ofI{ρ:List (Nat×Option Nat)}{x y:CA}(h:aO (.c x) (.c y)):aB ρ (.c x) (.c y):=fun E S w v hv=>h (dK ρ E) S w v hv
theorem ain{α:Type}{l:List α}{m:α}{r:List α}(h:l=m::r):l[0]? =some m∧0 < l.length:=by subst h;exact⟨rfl,by simp⟩
theorem aqd:nmC []=[]:=rfl
theorem aqT{P:Program}{C:Ctx}{ops:List Oper}{rest:List Oper}{st:St}{acc:_}{K:_}{d:Tmp}{ty:TypeId}{f:FuncId}{xs:Array Operand}{tys:Array TypeId}{args:List AV}{b:Nat}{A:jO}(hc:aj P f args [] ⟨.ptr b 0,[(b,.ent (.abs A))]⟩)(ha:evs st xs.toList=some args)(hd:aC (some d) C.nt=true)(hf:st.hp b= .free)
  (next:Reg P C ops rest (st.app (some d) ⟨.ptr b 0,[(b,.ent (.abs A))]⟩) (([b],[b])::acc) K):Go1 P C ops (some d) (.call ⟨.value (.func f),xs,tys⟩) ty rest st acc K:=
 Go1.aao (cap:=[]) (pre:=[]) (out:=⟨.ptr b 0,[(b,.ent (.abs A))]⟩) (fp:=[b]) hd rfl ha (by simpa using hc) (fun b e hb=>by cases hb) (fun b s hb=>by simp at hb;rw[hb.1];exact .inr hf) (fun b s hb=>by simp at hb;rw[hb.2];rfl) (fun b s hb=>by simp at hb;simp[hb.1])
  (fun i hi=>by
   left
   rcases hi with hi|⟨b,e,hb,hi⟩
   ·have:i=b:=by simpa[AV.ids,AV0.ids,Atom.ids]using hi
    subst this;exact⟨_,by simp;rfl⟩
   ·simp at hb;obtain⟨rfl,rfl⟩:=hb;cases hi) next
attribute [local irreducible] IntKind.wrap Go1 Reg WP aR aU bR bO aN aF ak aj aY Sat
attribute [local irreducible] bS dn cK dD dh qv bW mf PrP qOk zOk vP eu lz vF cq rqv fB dw dN d9 gP jn sq aV qS zS tS tbS plS mdS eG iN nmC
section
variable{B:Nat}{n m:Nd}{v:Vl}{k:Nat}{nm:Nms}{la:Vl}{tx:List UInt8}
theorem ST.set(hop:n.op=18){r:List Nd}(hk:n.kids=m::r)(h:EX B nm m k v):ST B n (k+1) (nm,la,tx) (iN nm n.text v,la,tx):=fun F hF=>by
 obtain⟨u,hu⟩:∃u,u=wrt tx:=⟨_,rfl⟩;have c1:=mP (F+k) B nm u la tx (by omega)
 have cE:=h F u la tx (by omega)
 obtain⟨h0,hl⟩:=ain hk
 dsimp only
 rw[show F+(k+1)=F+k+1 from rfl,ab5]
 refine aj.fnA func294 results294 ntmps294 rfl rfl rfl rfl rfl rfl rfl rfl (fun w0 T B E0 hB=>?_)
 refine aav rfl rfl rfl rfl rfl ?_;rw[←hu];cases u <;> (
  refine SX.goM ?_;refine aN.le (ac5 (nm:=iN nm n.text v) hu rfl (by rw[apG];rfl) rfl) ?_
  exact gI (xs:=[]) trivial ⟨rfl,trivial⟩
 )
theorem ST.show(hop:n.op=19){r:List Nd}(hk:n.kids=m::r)(h:EX B nm m k v){s:List UInt8}(cP:ah prog 462 [.agg (vlA v)] (.tup [.one (.c (.val (str s))),eNo 0]))(hl:tx.length+s.length+1≤100000):ST B n (k+1) (nm,la,tx) (nm,v,tx++(s++[10])):=fun F hF=>by
 have c1:=apf (F+k) B nm la tx (by omega)
 have cE:=h.mach F la tx (by omega)
 have cS:=atv F B nm la tx cP hl;obtain⟨h0,hl⟩:=ain hk
 dsimp only
 rw[show F+(k+1)=F+k+1 from rfl,ab5]
 refine aj.fnA func294 results294 ntmps294 rfl rfl rfl rfl rfl rfl rfl rfl (fun w0 T B E0 hB=>?_)
 refine SX.goM ?_;exact gI (xs:=[]) trivial ⟨rfl,trivial⟩
end
theorem aqD(Bt:Nat)(ns:List Nd)(ks:List Nat)(σ:Nat→Ms)(hk:ks.length=ns.length)(hl:ns.length≤100000)(h:∀(i:Nat) n k,ns[i]? =some n→ks[i]? =some k→ST Bt n k (σ i) (σ (i+1))):BL Bt ns ks.sum (σ 0) (σ ns.length):=fun F hF=>by
 refine aj.fnA func186 results186 ntmps186 rfl rfl rfl rfl rfl rfl rfl rfl (fun w0 T B E0 hB=>?_)
 refine SX.goM ?_;refine W.mH (fun k fu=>k≤ns.length∧fu=F+(ks.drop k).sum) (fun k fu=>[(0,.ptr 81 0),(6,.r (aA 3 ndE ns)),(7,.v (.int .i64 (ns.length:Int))),(8,.v (.int .i64 (k:Int)))]) (fun k fu=>[(81,.abs (pR fu Bt (σ k).1 (σ k).2.1 (σ k).2.2))]) (fun k _=>ns.length - k) 0 (F+ks.sum) ⟨Nat.zero_le _,rfl⟩ (fun k fu ⟨hkn,hfu⟩=>?_)
  (by
   refine SX.St.aZ [] (by intro b h;exact SX.bU h rfl) ?_ ?_ rfl
   ·repeat(first|exact trivial|refine⟨⟨_,rfl,SX.aG.same rfl⟩,?_⟩)
   ·exact⟨SX.ay.same rfl rfl,trivial⟩)
 by_cases hlt:k < ns.length
 ·obtain⟨n,hn⟩:∃n,ns[k]? =some n:=⟨_,zq2 hlt⟩
  obtain⟨c,hc⟩:∃c,ks[k]? =some c:=⟨_,zq2 (by omega)⟩
  have hsum:(ks.drop k).sum=c+(ks.drop (k+1)).sum:=by
   obtain⟨hk2,e⟩:=List.getElem?_eq_some_iff.1 hc
   rw[List.drop_eq_getElem_cons hk2,e,List.sum_cons]
  have hle:(ks.drop k).sum≤ks.sum:=by
   conv=>rhs;rw[←List.take_append_drop k ks,List.sum_append]
   omega
  obtain⟨f',rfl⟩:∃f',fu=f'+c:=⟨F+(ks.drop (k+1)).sum,by omega⟩
  have cS:=h k n c hn hc f' (by omega)
  refine SX.goM ?_;refine W.lS (k+1) f' ⟨hlt,by omega⟩ (by omega) (by
   refine SX.St.aZ [] (by intro b h;exact SX.bU h rfl) ?_ ?_ rfl
   ·repeat(first|exact trivial|refine⟨⟨_,rfl,SX.aG.same rfl⟩,?_⟩)
   ·exact⟨SX.ay.same rfl rfl,trivial⟩)
 ·obtain rfl:k=ns.length:=by omega
  rw[List.drop_of_length_le (by omega),List.sum_nil]at hfu
  subst hfu;refine SX.goM ?_;exact gI (xs:=[]) trivial ⟨rfl,trivial⟩
abbrev agn(F B D:Nat):List Atom:=[.c (.val (.int .i64 (F:Int))),.c (.val (.int .i64 (B:Int))),.c (.val (.int .i64 (D:Int)))]
theorem aqw(F B D:Nat)(h:D≤200):ah prog 183 [.agg (agn F B D)] (.v (.bool true)):=by
 have hd:decide ((D:Int)≤200)=true:=decide_eq_true (by omega)
 refine ah.fnF func183 results183 ntmps183 rfl rfl rfl (by simp[AV.ids,AV0.ids,Atom.ids]) rfl (fun w0 T B E0 hB=>?_)
 refine SX.goM ?_;exact aP hd
theorem agE{F B D:Nat}(hD:D≤200){s:List UInt8}{ts:List Tok}{l:List Nd}{p:Nat}(hs:s.length≤20000)(hL:acW s=(ts,0,0))(hts:ts.length≤1000000∧∀t∈ts,t.text.length≤9223372036854775807)(hP:sU ts D=(l,p,0)):ah prog 95 [.v (str s),.agg (agn F B D)] (.tup [.one (.c (.sat (aA 3 ndC l))),eNo 0]):=by
 have cM:=aqw F B D hD;have cL:=(apt s).h (by omega)
 rw[hL]at cL;have cP:=agR hts.1 hts.2 hP;refine ah.fnF func95 results95 ntmps95 rfl rfl rfl (by simp[AV.ids,AV0.ids,Atom.ids]) rfl (fun w0 T B E0 hB=>?_)
 refine SX.goM ?_;exact .ok (aF.mk2 (ak.tmp rfl) (ak.tmp rfl))
theorem aky{F Bt D k:Nat}{l:List Nd}{σ:Ms}(h:BL Bt l k ([],v0,[]) σ)(hF:F+k≤1000000000):aj prog 96 [.r (aA 3 ndE l),.agg (agn (F+k) Bt D)] [] ⟨.ptr 81 0,MQ F Bt σ.1 σ.2.1 σ.2.2⟩:=by
 have n81:Named 12 81:=⟨⟩;have cB:=h F hF;refine aj.fnA func96 results96 ntmps96 rfl rfl rfl rfl rfl rfl rfl rfl (fun w0 T B E0 hB=>?_)
 refine W.meet [(0,.r (aA 3 ndE l)),(3,.ptr 3 0)] [(3,.box 88 (agn (F+k) Bt D))] ?_ ?_
 ·refine SX.goM ?_;exact W.le
 refine W.meet [(0,.r (aA 3 ndE l)),(5,.ptr 81 0)] [(81,.abs (pR (F+k) Bt [] v0 []))] ?_ ?_
 ·refine SX.goM ?_;refine St.ah6 (aaL (F:=F+k) (B:=Bt) (nm:=[]) (la:=v0) (tx:=[]) [(82,some 10),(84,none)] [10] rfl ⟨S21,S21,aB.own rfl,S21,aB.nil rfl,S21,S21,aB.ofI aO.acu,S21,aB.ofI aO.acu,S21,S21,aB.ofI aO.nil,aB.ofI aO.nil,S21,S21,S21,aB.ofI aO.nil,aB.ofI aO.nil,aB.ofI aO.nil,S21,trivial⟩ ⟨SX.ay.abs (by rw[aqd];rfl) rfl rfl,SX.ay.dF rfl,trivial⟩ rfl rfl rfl) ?_
  exact W.le
 refine SX.goM ?_;exact gI (xs:=[.one (.ptr 81 0)]) ⟨ak.tmp rfl,trivial⟩ ⟨rfl,trivial⟩
theorem aqO{F B D k:Nat}{s:List UInt8}{l:List Nd}{σ:Ms}(cp:ah prog 95 [.v (str s),.agg (agn (F+k) B D)] (.tup [.one (.c (.sat (aA 3 ndC l))),eNo 0]))(h:BL B l k ([],v0,[]) σ)(hF:F+k≤1000000000)(h0:σ.2.2≠[]):
  ah prog 36 [.v (str s),.agg (agn (F+k) B D)] (.tup [.one (.c (.val (str σ.2.2))),eNo 0]):=by
 rw[show ndC=ndE from funext aH]at cp
 have cs:=aky (D:=D) h hF;have cS:=akq F B σ.1 σ.2.1 σ.2.2 h0;refine ah.fnF func36 results36 ntmps36 rfl rfl rfl (by simp[AV.ids,AV0.ids,Atom.ids]) rfl (fun w0 T B E0 hB=>?_)
 refine SX.goM ?_;refine aqT cs rfl rfl rfl ?_;refine SX.goM ?_;exact .ok (aF.mk2 (ak.tmp rfl) (ak.tmp rfl))
end
end Go.Proofs.YtjnhnbgpifohjaaGreatDoor