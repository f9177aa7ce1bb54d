import Derived.Test.YtjnhnbgpifohjaaGreatDoorL10
import Derived.Test.YtjnhnbgpifohjaaGreatDoorL12
import Derived.Test.YtjnhnbgpifohjaaGreatDoorL6
set_option linter.unusedVariables false
set_option linter.unusedSimpArgs false
open Go.Proofs.Tryz
namespace Go.Proofs.YtjnhnbgpifohjaaGreatDoor
open Go.RowKit QM SX LA
section
abbrev xq(bs:List UInt8):Ent:= .row 5 1 bs.length (bs.flatMap mg)
def aiV:Bool->Atom
 |true=> .ptr 81 3
 |false=> .c (.val (.pointer none))
abbrev mB(F B:Nat)(u:Bool)(la:Vl):List Atom:=[.c (.val (.int .i64 (F:Int))),.c (.val (.int .i64 (B:Int))),.own 82,aiV u,.own 84,.c (.val (.int .i64 la.k)),.c (.val (.bool la.q.1)),.c (.sat (eT la.q.2.1)),.c (.val (.bool la.q.2.2.1)),.c (.sat (eT la.q.2.2.2)),.c (.val (.int .i64 la.r)),.c (.val (.int .i64 la.c)),.c (.sat (aA 4 q4C (la.a.map rq))),.c (.sat (aA 2 z2C (la.po.map rz))),.c (.val (.int .u64 (la.p:Int))),.c (.val (.int .i64 la.fr)),.c (.val (.int .i64 la.fc)),.c (.sat (aA 1 wdC la.fa)),.c (.sat (aA 1 wdC la.ri)),.c (.sat (aA 15 vlC la.li)),.c (.val (.int .i64 0))]
abbrev MB(F B:Nat)(u:Bool)(la:Vl):Ent:= .box 159 (mB F B u la)
abbrev Nms:=List (List UInt8×Vl)
def nmC(nm:Nms):List (List UInt8×List CA):=nm.map fun p=>(p.1,vlE p.2)
abbrev ME(F B:Nat)(nm:Nms)(u:Bool)(la:Vl)(tx:List UInt8):List (Nat×Ent):=[(81,MB F B u la),(82,.abs (jy (nmC nm))),(84,xq tx)]
abbrev MO(F B:Nat)(nm:Nms)(u:Bool)(la:Vl)(tx:List UInt8):List (Nat×Slot):=[(81,.ent (MB F B u la)),(82,.ent (.abs (jy (nmC nm)))),(84,.ent (xq tx))]
attribute [local irreducible] IntKind.wrap Go1 Reg WP aO aR bM bK aN aD aj ak aX Sat
attribute [local irreducible] bO bX bV cK bW qv dH mf PrP qOk zOk vP dP lz vF cq rqv dX aS bU aV fB jn sq aY qS zS tS tbS plS mdS
theorem ap3(F Bt n:Nat)(nm:Nms)(u:Bool)(la:Vl)(tx:List UInt8)(h:F+n<=1000000000):ak prog 393 [.ptr 81 0,.v (.int .i64 (n:Int))] (ME (F+n) Bt nm u la tx) ⟨.v (.bool true),MO F Bt nm u la tx⟩:=by
 refine ak.fnM func393 results393 ntmps393 rfl rfl rfl rfl (by first|rfl|(cases u <;> rfl)) (by first|rfl|(cases u <;> rfl)) (by first|rfl|(cases u <;> rfl)) fun _ _ _ _ _=>?_
 refine zg ?_;have e:F+n - n=F:=zE
 refine jq (xs:=[.one (.c (.val (.bool true)))]) ⟨aj.tmp rfl,trivial⟩ ⟨?_,rfl,rfl,trivial⟩;refine Eq.trans (b:=Slot.ent (Ent.box 159 (.c (.val (.int .i64 ((F+n - n:Nat):Int)))::(mB F Bt u la).tail))) rfl ?_;rw[e];rfl
theorem qH(F B:Nat)(nm:Nms)(u:Bool)(la:Vl)(tx:List UInt8)(h:F+1<=1000000000):ak prog 393 [.ptr 81 0,.v (.int .i64 1)] (ME (F+1) B nm u la tx) ⟨.v (.bool true),MO F B nm u la tx⟩:=ap3 F B 1 nm u la tx h
section
variable(v:Vl)
theorem ao3(h:v.k=2)(hl:v.a.length<=1000000):ah prog 486 [.agg (vlA v)] (.v (.int .i64 (v.a.length:Int))):=by
 have e:(v.a.map rq).length=v.a.length:=zq5 _;refine ah.fq func486 results486 ntmps486 fun _ _ _ _ _=>?_
 refine zg ?_;refine fC ?_;rw[e]
theorem ao4(h:v.k=3)(hl:v.po.length<=1000000):ah prog 486 [.agg (vlA v)] (.v (.int .i64 (v.po.length:Int))):=by
 have e:(v.po.map rz).length=v.po.length:=zq5 _;refine ah.fq func486 results486 ntmps486 fun _ _ _ _ _=>?_
 refine zg ?_;refine fC ?_;rw[e]
theorem aou(h:v.k=4)(hl:v.fa.length<=1000000):ah prog 486 [.agg (vlA v)] (.v (.int .i64 (v.fa.length:Int))):=by
 refine ah.fq func486 results486 ntmps486 fun _ _ _ _ _=>?_
 refine zg ?_;exact fC rfl
theorem aoA(h:v.k=5)(hl:v.ri.length<=1000000):ah prog 486 [.agg (vlA v)] (.v (.int .i64 (v.ri.length:Int))):=by
 refine ah.fq func486 results486 ntmps486 fun _ _ _ _ _=>?_
 refine zg ?_;exact fC rfl
theorem nJ(h:¬v.k=6):ah prog 484 [.agg (vlA v)] (.v (.int .i64 0)):=by
 refine ah.fq func484 results484 ntmps484 fun _ _ _ _ _=>?_
 refine zg ?_;exact fC rfl
end
theorem afu(v:Vl)(g:Vl->Nat)(h:¬v.k=2/\¬v.k=3/\¬v.k=4/\¬v.k=5)(hl:(v.li.map g).sum<=1000000)(hn:v.li.length<=1000000)(hx:∀x∈v.li,ah prog 486 [.agg (vlA x)] (.v (.int .i64 (g x:Int)))):
  ah prog 486 [.agg (vlA v)] (.v (.int .i64 ((1+(v.li.map g).sum:Nat):Int))):=by
 obtain⟨h2,h3,h4,h5⟩:=h;rw[ar7];refine ah.fq func486 results486 ntmps486 fun _ _ _ _ _=>?_
 refine zg ?_;refine W.loop (fun k=>k<=v.li.length) (fun k=>[(3,.v (.int .i64 ((1+((v.li.take k).map g).sum:Nat):Int))),(31,.r (aA 15 vlE v.li)),(32,.v (.int .i64 (v.li.length:Int))),(33,.v (.int .i64 (k:Int)))]) (fun _=>[]) (fun k=>v.li.length - k) 0 (zq8 _) (fun k hk=>?_)
 by_cases hlt:k < v.li.length
 ·obtain⟨x,hx'⟩:∃x,v.li[k]? =some x:=⟨_,zyh hlt⟩
  have c:=hx x (zq4 hx');have e1:((v.li.take (k+1)).map g).sum=((v.li.take k).map g).sum+g x:=by rw[zw7,hx'];simp
  have e2:((v.li.take (k+1)).map g).sum<=(v.li.map g).sum:=by
   conv=>rhs;rw[<-zv5 (k+1) v.li,List.map_append,List.sum_append]
   omega
  refine zg ?_;exact W.next (k+1) hlt zE
 ·obtain rfl:k=v.li.length:=zE
  rw[zy8];refine zg ?_;exact fC rfl
theorem ait(v:Vl)(g:Vl->Nat)(h:v.k=6)(hl:v.li.length<=1000000)(hg:∀x∈v.li,g x<=100)(hx:∀x∈v.li,ah prog 484 [.agg (vlA x)] (.v (.int .i64 (g x:Int)))):
  ah prog 484 [.agg (vlA v)] (.v (.int .i64 ((1+(v.li.map g).foldl max 0:Nat):Int))):=by
 rw[ar7];refine ah.fq func484 results484 ntmps484 fun _ _ _ _ _=>?_
 refine zg ?_;refine W.pF (fun k m=>k<=v.li.length/\m<=100/\m=((v.li.take k).map g).foldl max 0) (fun k m=>[(3,.v (.int .i64 (m:Int))),(10,.r (aA 15 vlE v.li)),(11,.v (.int .i64 (v.li.length:Int))),(12,.v (.int .i64 (k:Int)))]) (fun _ _=>[]) (fun k _=>v.li.length - k) 0 0 ⟨zq8 _,zq8 _,rfl⟩ (fun k m ⟨hk,hm,hmm⟩=>?_)
 by_cases hlt:k < v.li.length
 ·obtain⟨x,hx'⟩:∃x,v.li[k]? =some x:=⟨_,zyh hlt⟩
  have c:=hx x (zq4 hx');have hgx:=hg x (zq4 hx');have e1:((v.li.take (k+1)).map g).foldl max 0=max m (g x):=by rw[zw7,hx',hmm];simp
  refine zg ?_;exact W.nR (k+1) (max m (g x)) ⟨hlt,zE,e1.symm⟩ zE
 ·obtain rfl:k=v.li.length:=zE
  rw[zy8]at hmm;refine zg ?_;refine fC ?_;rw[<-hmm]
end
section
abbrev ndM(n:Nd):List Atom:=[.c (.val (.int .i64 n.op)),.c (.val (str n.text)),.c (.sat (aA 3 ndE n.kids))]
theorem af2(n:Nd):AV.agg (ndA n)=AV.agg (ndM n):=by
 unfold ndA ndM;rw[show ndC=ndE from funext aJ]
structure VI(B s:Nat)(v:Vl):Prop where
 n:∃d:Nat,d<=20/\ah prog 484 [.agg (vlA v)] (.v (.int .i64 (d:Int)))
 b:∃b:Nat,b<=B/\ah prog 485 [.agg (vlA v)] (.v (.int .i64 (b:Int)))
 s:ah prog 486 [.agg (vlA v)] (.v (.int .i64 (s:Int)))
def EX(B:Nat)(nm:Nms)(n:Nd)(k:Nat)(v:Vl):Prop:=∀F u la tx,F+k<=1000000000->ak prog 394 [.ptr 81 0,.agg (ndA n)] (ME (F+k) B nm u la tx) ⟨.agg (vlA v),MO F B nm u la tx⟩
def AL(B:Nat)(nm:Nms)(ns:List Nd)(k:Nat)(vs:List Vl):Prop:=∀F u la tx,F+k<=1000000000->ak prog 460 [.ptr 81 0,.r (aA 3 ndE ns)] (ME (F+k) B nm u la tx) ⟨.r (aA 15 vlE vs),MO F B nm u la tx⟩
theorem aro{nm:Nms}{t:List UInt8}{v:Vl}(h:gK nm t=some v):gK (nmC nm) t=some (vlE v):=by
 induction nm with
 |nil=>cases h
 |cons p nm ih=>
  obtain⟨k,c⟩:=p;unfold gK at h;show (if t=k then some (vlE c)else gK (nmC nm) t)=_
  by_cases hk:t=k
  ·rw[if_pos hk]at h ⊢;cases h;rfl
  ·rw[if_neg hk]at h ⊢;exact ih h
theorem auh(nm:Nms)(t:List UInt8)(v:Vl):nmC (jQ nm t v)=jQ (nmC nm) t (vlE v):=by
 induction nm with
 |nil=>rfl
 |cons p nm ih=>
  obtain⟨k,c⟩:=p;show nmC (if t=k then(k,v)::nm else(k,c)::jQ nm t v)=(if t=k then(k,vlE v)::nmC nm else(k,vlE c)::jQ (nmC nm) t (vlE v))
  by_cases hk:t=k
  ·rw[if_pos hk,if_pos hk];rfl
  ·rw[if_neg hk,if_neg hk];show (k,vlE c)::nmC (jQ nm t v)=_;rw[ih]
attribute [local irreducible] IntKind.wrap Go1 Reg WP aO aR bM bK aN aD aj ak aX Sat
attribute [local irreducible] bO bX bV cK bW qv dH mf PrP qOk zOk vP dP lz vF cq rqv dX aS bU aV fB jn sq aY qS zS tS tbS plS mdS gK jQ nmC
theorem agf(F B s:Nat)(nm:Nms)(u:Bool)(la:Vl)(tx:List UInt8){v:Vl}(h:VI B s v)(hB:B<=1000000000)(hF:F+s<=1000000000):ak prog 457 [.ptr 81 0,.agg (vlA v),.v (.int .i64 0)] (ME (F+s) B nm u la tx) ⟨.agg (vlA v),MO F B nm u la tx⟩:=by
 obtain⟨⟨d,hd,cN⟩,⟨b,hb,cB⟩,cS⟩:=h;have cT:=ap3 F B s nm u la tx hF;cases u <;> (
  refine ak.fnM func457 results457 ntmps457 rfl rfl rfl rfl (by first|rfl|(cases u <;> rfl)) (by first|rfl|(cases u <;> rfl)) (by first|rfl|(cases u <;> rfl)) (fun w0 Tw Bw E0 hB=>?_)
  refine zg ?_;exact jq (xs:=[.agg (vlA v)]) ⟨aj.ig rfl rfl rfl,trivial⟩ ⟨rfl,rfl,rfl,trivial⟩
 )
theorem auB(F B:Nat){nm:Nms}(u:Bool)(la:Vl)(tx:List UInt8){t:List UInt8}{v:Vl}(h:gK (nmC nm) t=some (vlE v)):ak prog 458 [.ptr 81 0,.v (str t)] (ME F B nm u la tx) ⟨.tup [.agg (vlA v),eNo 0],MO F B nm u la tx⟩:=by
 refine ak.fnM func458 results458 ntmps458 rfl rfl rfl rfl (by first|rfl|(cases u <;> rfl)) (by first|rfl|(cases u <;> rfl)) (by first|rfl|(cases u <;> rfl)) (fun w0 Tw Bw E0 hB=>?_)
 refine zg ?_;exact jq (xs:=[.agg (vlA v),eNo 0]) ⟨aj.ig rfl rfl rfl,aj.tmp rfl,trivial⟩ ⟨rfl,rfl,rfl,trivial⟩
theorem aqk(B:Nat)(nm:Nms)(ns:List Nd)(ks:List Nat)(vs:List Vl)(hk:ks.length=ns.length)(hv:vs.length=ns.length)(hl:ns.length<=100000)
  (h:∀(i:Nat) n k v,ns[i]? =some n->ks[i]? =some k->vs[i]? =some v->EX B nm n k v):AL B nm ns ks.sum vs:=fun F u la tx hF=>by
 cases u with
 |false=>
  refine ak.fnM func460 results460 ntmps460 rfl rfl rfl rfl (by first|rfl|(cases u <;> rfl)) (by first|rfl|(cases u <;> rfl)) (by first|rfl|(cases u <;> rfl)) (fun w0 Tw Bw E0 hB=>?_)
  refine zg ?_;refine W.pF (fun k fu=>k<=ns.length/\fu=F+(ks.drop k).sum) (fun k fu=>[(0,.ptr 81 0),(5,.own 100),(8,.r (aA 3 ndE ns)),(9,.v (.int .i64 (ns.length:Int))),(10,.v (.int .i64 (k:Int)))]) (fun k fu=>[(81,MB fu B false la),(82,.abs (jy (nmC nm))),(84,xq tx),(100,.row 42 15 k ((vs.take k).flatMap vlE))]) (fun k _=>ns.length - k) 0 (F+ks.sum) ⟨zq8 _,rfl⟩ (fun k fu ⟨hkn,hfu⟩=>?_)
   (by
    refine St.aW [(100,none)] (by intro b h;exact SX.dY h rfl) ?_ ?_ rfl
    ·exact yf
    ·exact⟨ay.same rfl rfl,ay.same rfl rfl,ay.same rfl rfl,ay.dO rfl,trivial⟩)
  by_cases hlt:k < ns.length
  ·obtain⟨n,hn⟩:∃n,ns[k]? =some n:=⟨_,zyh hlt⟩
   obtain⟨c,hc⟩:∃c,ks[k]? =some c:=⟨_,zyh zE⟩
   obtain⟨v,hvk⟩:∃v,vs[k]? =some v:=⟨_,zyh zE⟩
   have hsum:(ks.drop k).sum=c+(ks.drop (k+1)).sum:=by
    obtain⟨hk2,e⟩:=zxg.1 hc
    rw[zy4 hk2,e,List.sum_cons]
   have hle:(ks.drop k).sum<=ks.sum:=by
    conv=>rhs;rw[<-zv5 k ks,List.sum_append]
    omega
   obtain⟨f',rfl⟩:∃f',fu=f'+c:=⟨F+(ks.drop (k+1)).sum,zE⟩
   have cE:=h k n c v hn hc hvk f' false la tx zE
   have e2:(vs.take k).flatMap vlE++vlE v=(vs.take (k+1)).flatMap vlE:=by rw[mP hvk];simp
   refine zg ?_;refine W.nR (k+1) f' ⟨hlt,zE⟩ zE (by
    refine St.aW [(100,some 19)] (by intro b h;exact SX.dY h rfl) ?_ ?_ rfl
    ·exact yb
    ·exact⟨ay.same rfl rfl,ay.same rfl rfl,ay.same rfl rfl,ay.row rfl rfl rfl e2,trivial⟩)
  ·obtain rfl:k=vs.length:=zE
   rw[List.drop_of_length_le zE,List.sum_nil]at hfu
   subst hfu;rw[zy8];refine zg ?_;refine aN.frzM 100 hB rfl rfl rfl rfl ?_;exact jq (xs:=[.one (.c (.sat (aA 15 vlE vs)))]) ⟨aj.tmp rfl,trivial⟩ ⟨rfl,rfl,rfl,trivial⟩
 |true=>
  refine ak.fnM func460 results460 ntmps460 rfl rfl rfl rfl (by first|rfl|(cases u <;> rfl)) (by first|rfl|(cases u <;> rfl)) (by first|rfl|(cases u <;> rfl)) (fun w0 Tw Bw E0 hB=>?_)
  refine zg ?_;refine W.pF (fun k fu=>k<=ns.length/\fu=F+(ks.drop k).sum) (fun k fu=>[(0,.ptr 81 0),(5,.own 100),(8,.r (aA 3 ndE ns)),(9,.v (.int .i64 (ns.length:Int))),(10,.v (.int .i64 (k:Int)))]) (fun k fu=>[(81,MB fu B true la),(82,.abs (jy (nmC nm))),(84,xq tx),(100,.row 42 15 k ((vs.take k).flatMap vlE))]) (fun k _=>ns.length - k) 0 (F+ks.sum) ⟨zq8 _,rfl⟩ (fun k fu ⟨hkn,hfu⟩=>?_)
   (by
    refine St.aW [(100,none)] (by intro b h;exact SX.dY h rfl) ?_ ?_ rfl
    ·exact yf
    ·exact⟨ay.same rfl rfl,ay.same rfl rfl,ay.same rfl rfl,ay.dO rfl,trivial⟩)
  by_cases hlt:k < ns.length
  ·obtain⟨n,hn⟩:∃n,ns[k]? =some n:=⟨_,zyh hlt⟩
   obtain⟨c,hc⟩:∃c,ks[k]? =some c:=⟨_,zyh zE⟩
   obtain⟨v,hvk⟩:∃v,vs[k]? =some v:=⟨_,zyh zE⟩
   have hsum:(ks.drop k).sum=c+(ks.drop (k+1)).sum:=by
    obtain⟨hk2,e⟩:=zxg.1 hc
    rw[zy4 hk2,e,List.sum_cons]
   have hle:(ks.drop k).sum<=ks.sum:=by
    conv=>rhs;rw[<-zv5 k ks,List.sum_append]
    omega
   obtain⟨f',rfl⟩:∃f',fu=f'+c:=⟨F+(ks.drop (k+1)).sum,zE⟩
   have cE:=h k n c v hn hc hvk f' true la tx zE
   have e2:(vs.take k).flatMap vlE++vlE v=(vs.take (k+1)).flatMap vlE:=by rw[mP hvk];simp
   refine zg ?_;refine W.nR (k+1) f' ⟨hlt,zE⟩ zE (by
    refine St.aW [(100,some 19)] (by intro b h;exact SX.dY h rfl) ?_ ?_ rfl
    ·exact yb
    ·exact⟨ay.same rfl rfl,ay.same rfl rfl,ay.same rfl rfl,ay.row rfl rfl rfl e2,trivial⟩)
  ·obtain rfl:k=vs.length:=zE
   rw[List.drop_of_length_le zE,List.sum_nil]at hfu
   subst hfu;rw[zy8];refine zg ?_;refine aN.frzM 100 hB rfl rfl rfl rfl ?_;exact jq (xs:=[.one (.c (.sat (aA 15 vlE vs)))]) ⟨aj.tmp rfl,trivial⟩ ⟨rfl,rfl,rfl,trivial⟩
section
variable{B:Nat}{nm:Nms}{n:Nd}{v:Vl}{s:Nat}(hB0:B<=1000000000)
include hB0
theorem EX.num(hop:n.op=1){z:Nat}(cP:ah prog 456 [.v (str n.text)] (.tup [.agg (zN z),.one (.c (.val (.bool true)))]))(cW:ah prog 17 [.agg (zN z)] (.agg (vlA v)))(hv:VI B s v):EX B nm n (s+1) v:=fun F u la tx hF=>by
 have c1:=qH (F+s) B nm u la tx zE
 have c2:=agf F B s nm u la tx hv hB0 zE
 rw[show F+(s+1)=F+s+1 from rfl,af2]
 cases u <;> (
  refine ak.fnM func394 results394 ntmps394 rfl rfl rfl rfl (by first|rfl|(cases u <;> rfl)) (by first|rfl|(cases u <;> rfl)) (by first|rfl|(cases u <;> rfl)) (fun w0 Tw Bw E0 hB=>?_)
  refine zg ?_;exact jq (xs:=[.agg (vlA v)]) ⟨aj.ig rfl rfl rfl,trivial⟩ ⟨rfl,rfl,rfl,trivial⟩
 )
theorem EX.name(hop:n.op=2)(hl:gK nm n.text=some v)(hv:VI B s v):EX B nm n (s+1) v:=fun F u la tx hF=>by
 have c1:=qH (F+s) B nm u la tx zE
 have c2:=agf F B s nm u la tx hv hB0 zE
 have c3:=auB (F+s) B u la tx (aro hl);rw[show F+(s+1)=F+s+1 from rfl,af2]
 cases u <;> (
  refine ak.fnM func394 results394 ntmps394 rfl rfl rfl rfl (by first|rfl|(cases u <;> rfl)) (by first|rfl|(cases u <;> rfl)) (by first|rfl|(cases u <;> rfl)) (fun w0 Tw Bw E0 hB=>?_)
  refine zg ?_;exact jq (xs:=[.agg (vlA v)]) ⟨aj.ig rfl rfl rfl,trivial⟩ ⟨rfl,rfl,rfl,trivial⟩
 )
theorem EX.opr(hop:¬n.op=1/\¬n.op=2/\¬n.op=14){k:Nat}{vs:List Vl}(hA:AL B nm n.kids k vs)(cO:ah prog 461 [.agg (ndM n),.r (aA 15 vlE vs)] (.tup [.agg (vlA v),eNo 0]))(hv:VI B s v):EX B nm n (s+k+1) v:=fun F u la tx hF=>by
 obtain⟨h1,h2,h3⟩:=hop;have c1:=qH (F+s+k) B nm u la tx zE
 have cA:=hA (F+s) u la tx zE
 have c2:=agf F B s nm u la tx hv hB0 zE
 rw[show F+(s+k+1)=F+s+k+1 by omega,af2]
 cases u <;> (
  refine ak.fnM func394 results394 ntmps394 rfl rfl rfl rfl (by first|rfl|(cases u <;> rfl)) (by first|rfl|(cases u <;> rfl)) (by first|rfl|(cases u <;> rfl)) (fun w0 Tw Bw E0 hB=>?_)
  refine zg ?_;exact jq (xs:=[.agg (vlA v)]) ⟨aj.ig rfl rfl rfl,trivial⟩ ⟨rfl,rfl,rfl,trivial⟩
 )
theorem EX.mat(hop:n.op=14){k:Nat}(hR:∀F u la tx,F+k<=1000000000->ak prog 459 [.ptr 81 0,.r (aA 3 ndE n.kids)] (ME (F+k) B nm u la tx) ⟨.tup [.agg (vlA v),eNo 0],MO F B nm u la tx⟩)(hv:VI B s v):EX B nm n (s+k+1) v:=fun F u la tx hF=>by
 have c1:=qH (F+s+k) B nm u la tx zE
 have cA:=hR (F+s) u la tx zE
 have c2:=agf F B s nm u la tx hv hB0 zE
 rw[show F+(s+k+1)=F+s+k+1 by omega,af2]
 cases u <;> (
  refine ak.fnM func394 results394 ntmps394 rfl rfl rfl rfl (by first|rfl|(cases u <;> rfl)) (by first|rfl|(cases u <;> rfl)) (by first|rfl|(cases u <;> rfl)) (fun w0 Tw Bw E0 hB=>?_)
  refine zg ?_;exact jq (xs:=[.agg (vlA v)]) ⟨aj.ig rfl rfl rfl,trivial⟩ ⟨rfl,rfl,rfl,trivial⟩
 )
end
section
variable{n:Nd}{v:Vl}
theorem aqK(hop:n.op=3){a:Vl}(c:ah prog 488 [.v (.int .i64 3),.agg (vlA a)] (.tup [.agg (vlA v),eNo 0])):ah prog 461 [.agg (ndM n),.r (aA 15 vlE [a])] (.tup [.agg (vlA v),eNo 0]):=by
 have ha:[a][0]? =some a:=rfl;rw[<-hop]at c;refine ah.fq func461 results461 ntmps461 fun _ _ _ _ _=>?_
 refine zg ?_;exact .ok (aD.mk2 aj.ig (aj.tmp rfl))
theorem alY(hop:n.op=13){vs:List Vl}(c:ah prog 28 [.v (str n.text),.r (aA 15 vlE vs)] (.tup [.agg (vlA v),eNo 0])):ah prog 461 [.agg (ndM n),.r (aA 15 vlE vs)] (.tup [.agg (vlA v),eNo 0]):=by
 refine ah.fq func461 results461 ntmps461 fun _ _ _ _ _=>?_
 refine zg ?_;exact .ok (aD.mk2 aj.ig (aj.tmp rfl))
theorem axS(hop:4<=n.op/\n.op<=12){a b:Vl}(c:ah prog 490 [.v (.int .i64 n.op),.agg (vlA a),.agg (vlA b)] (.tup [.agg (vlA v),eNo 0])):ah prog 461 [.agg (ndM n),.r (aA 15 vlE [a,b])] (.tup [.agg (vlA v),eNo 0]):=by
 have ha:[a,b][0]? =some a:=rfl;have hb:[a,b][1]? =some b:=rfl;refine ah.fq func461 results461 ntmps461 fun _ _ _ _ _=>?_
 refine zg ?_;exact .ok (aD.mk2 aj.ig (aj.tmp rfl))
end
end
section
theorem axp(bs s:List UInt8):bs.length+s.length=(bs++s).length:=List.length_append.symm
theorem axA(bs s:List UInt8):bs.flatMap mg++s.flatMap mg=(bs++s).flatMap mg:=List.flatMap_append.symm
abbrev wrt(tx:List UInt8):Bool:=!tx.isEmpty
def vw(F B:Nat)(nm:Nms)(la:Vl)(tx:List UInt8):oW:=pV 81 (fun _:Unit=>True) 159 (fun _=>mB F B (wrt tx) la) (fun _=>[(82,.abs (jy (nmC nm))),(84,xq tx)])
theorem ayj{F B:Nat}{u:Bool}{la:Vl}{i:Nat}(h:i∈(mB F B u la).flatMap Atom.ids):i=82\/i=81\/i=84:=by
 cases u
 ·have h':i=82\/i=84:=by simpa[aiV,Atom.ids]using h
  rcases h' with h'|h'
  ·exact .inl h'
  ·exact .inr (.inr h')
 ·have h':i=82\/i=81\/i=84:=by simpa[aiV,Atom.ids]using h
  exact h'
theorem adz{P:Program}{C:Ctx}{st:St}{Q:Exit->St->Prop}{cd:Code}{F B:Nat}{nm:Nms}{la:Vl}{tx:List UInt8}(hb:st.hp 81= .ent (.abs (vw F B nm la tx)))(h1:st.hp 82= .free)(h2:st.hp 84= .free)(f1:C.fix 82=false)(f2:C.fix 84=false)
  (h:WP P C cd (aax st 81 159 (mB F B (wrt tx) la) [(82,.abs (jy (nmC nm))),(84,xq tx)]) Q):WP P C cd st Q:=
 WP.ank (ι:=Unit) (b:=81) [82,84] hb (fun p=>rfl) (by intro i hi;simp at hi;rcases hi with rfl|rfl <;> assumption) (by intro i hi;simp at hi;rcases hi with rfl|rfl <;> assumption)
  (by
   intro p i hi;rcases ayj hi with rfl|rfl|rfl <;> simp)
  (by intro p i e he;simp at he;rcases he with⟨rfl,rfl⟩|⟨rfl,rfl⟩ <;> rfl) (fun p hp=>h)
theorem ahk{ρ:List (Nat×Option Nat)}{u u':Bool}(e:u=u')(h:fresh ρ [81]=true):aC ρ (aiV u) (aiV u'):=by
 subst e;cases u
 ·exact aC.same rfl
 ·exact aC.same h
theorem acF{C:Ctx}{st:St}{F B:Nat}{nm:Nms}{la:Vl}{tx:List UInt8}{cells0:List Atom}(ρ:List (Nat×Option Nat))(os:List Nat)(hb:st.hp 81= .ent (.box 159 cells0))
  (hc:su ρ cells0 (mB F B (wrt tx) la)) (hR:aef st ρ [(82,.abs (jy (nmC nm))),(84,xq tx)])
  (hos:(([(82,.abs (jy (nmC nm))),(84,xq tx)]:List (Nat×Ent)).all fun q=>match SX.src ρ q.1 with|some o=>kg os o|none=>true)=true) (hbo:kg os 81=false) (hdi:(([(82,.abs (jy (nmC nm))),(84,xq tx)]:List (Nat×Ent)).all fun q=>([(82,.abs (jy (nmC nm))),(84,xq tx)]:List (Nat×Ent)).all fun q'=>Nat.beq q.1 q'.1||!(eqO (SX.src ρ q.1) (SX.src ρ q'.1)))=true)
  (hfb:lk ρ 81=none:=by rfl):St.le C st (vT st 81 (vw F B nm la tx) os):=
 St.agY (ι:=Unit) (b:=81) () ρ os trivial hb hc hR hos hbo hdi hfb
abbrev S21{ρ:List (Nat×Option Nat)}{x:Atom}(h:fresh ρ x.ids=true:=by rfl):aC ρ x x:=aC.same h
theorem afY{C:Ctx}{st:St}{F B:Nat}{nm:Nms}{u:Bool}{la:Vl}{tx:List UInt8}(hu:u=wrt tx)(hb:st.hp 81= .ent (MB F B u la))(h2:st.hp 82= .ent (.abs (jy (nmC nm))))(h4:st.hp 84= .ent (xq tx)):St.le C st (vT st 81 (vw F B nm la tx) [82,84]):=
 acF [] [82,84] hb ⟨S21,S21,S21,ahk hu rfl,S21,S21,S21,S21,S21,S21,S21,S21,S21,S21,S21,S21,S21,S21,S21,S21,S21,trivial⟩ ⟨ay.same h2 rfl,ay.same h4 rfl,trivial⟩ rfl rfl rfl
abbrev MP(F B:Nat)(nm:Nms)(la:Vl)(tx:List UInt8):List (Nat×Ent):=[(81,.abs (vw F B nm la tx))]
abbrev MQ(F B:Nat)(nm:Nms)(la:Vl)(tx:List UInt8):List (Nat×Slot):=[(81,.ent (.abs (vw F B nm la tx)))]
theorem ak.mach{f:FuncId}{args:List AV}{r:AV}{F F' B:Nat}{nm nm':Nms}{la la':Vl}{tx:List UInt8}(h:ak prog f args (ME F B nm (wrt tx) la tx) ⟨r,MO F' B nm' (wrt tx) la' tx⟩)(hargs:∀v∈args,∀i∈v.ids,i=81)(hr:r.ids=[]):
  ak prog f args (MP F B nm la tx) ⟨r,MQ F' B nm' la' tx⟩:=
 ak.bun (R:=[(82,.abs (jy (nmC nm))),(84,xq tx)]) (R':=[(82,.abs (jy (nmC nm'))),(84,xq tx)]) h hargs hr (by intro e he;simp at he)
theorem args1{a:AV}(h:a.ids=[]):∀v∈[AV.ptr 81 0,a],∀i∈v.ids,i=81:=by
 intro v hv i hi;simp at hv
 rcases hv with rfl|rfl
 ·simpa[AV.ids,AV0.ids,Atom.ids]using hi
 ·rw[h]at hi;cases hi
theorem EX.mach{B:Nat}{nm:Nms}{n:Nd}{k:Nat}{v:Vl}(h:EX B nm n k v)(F:Nat)(la:Vl)(tx:List UInt8)(hF:F+k<=1000000000):ak prog 394 [.ptr 81 0,.agg (ndA n)] (MP (F+k) B nm la tx) ⟨.agg (vlA v),MQ F B nm la tx⟩:=
 ak.mach (h F (wrt tx) la tx hF) (args1 rfl) rfl
theorem avS(F B:Nat)(nm:Nms)(la:Vl)(tx:List UInt8)(h:F+1<=1000000000):ak prog 393 [.ptr 81 0,.v (.int .i64 1)] (MP (F+1) B nm la tx) ⟨.v (.bool true),MQ F B nm la tx⟩:=
 ak.mach (qH F B nm (wrt tx) la tx h) (args1 rfl) rfl
theorem St.aqd{C:Ctx}{st:St}{b:Nat}{t:TypeId}{cells:List Atom}(hb:st.hp b= .ent (.box t cells)):St.le C st ⟨st.tm,upd st.hp b .gone⟩:=fun a w ⟨E,S,hs⟩=>by
 have hu:∀i,(st.hp i).used=true->(upd st.hp b .gone i).used=true:=fun i hi=>by
  by_cases e:i=b
  ·subst e;rw[upd_same];rfl
  ·rw[upd_ne _ _ e];exact hi
 have hk:∀c e,upd st.hp b .gone c= .ent e->st.hp c= .ent e:=fun c e hc=>by
  by_cases e1:c=b
  ·subst e1;rw[upd_same]at hc;cases hc
  ·rw[upd_ne _ _ e1]at hc;exact hc
 exact⟨E,S,{dfr:=hs.dfr,nt:=hs.nt,cT:=hs.cT,cT0:=hs.cT0,cS:=hs.cS,lt:=hs.lt,tm:=hs.tm,tid:=fun t v h i hi=>hu i (hs.tid t v h i hi),hp:=fun c e hc=>hs.hp c e (hk c e hc),hid:=fun c e hc i hi=>hu i (hs.hid c e (hk c e hc) i hi),blk:=fun c e k hc=>hs.blk c e k (hk c e hc),sep:=fun c c' e e' k hne hc hc'=>hs.sep c c' e e' k hne (hk c e hc) (hk c' e' hc'),off:=hs.off,env:=fun c hc=>let⟨g1,g2,g3⟩:=hs.env c hc;⟨g1,g2,hu c g3⟩,gl:=hs.gl}⟩
theorem awX(v:Value)(w:World):(callFunc 529 #[v]).run prog w= .ok (.value v) w:=by
 rw[run_callFunc_extern func529 z6 z6 z6 (e:=Extern.AbiNoEscape.same) z6]
 rw[Lib.run_noEscape];rfl
theorem St.alm{C:Ctx}{a b c:St}(h:St.le C a b)(k:St.le C b c):St.le C a c:=fun x w hs=>k x w (h x w hs)
attribute [local irreducible] IntKind.wrap Go1 Reg WP aO aR bM bK aN aD aj ak aX Sat
attribute [local irreducible] bO bX bV cK bW qv dH mf PrP qOk zOk vP dP lz vF cq rqv dX aS bU aV fB jn sq aY qS zS tS tbS plS mdS gK jQ nmC
theorem au1(F B:Nat)(nm:Nms)(u:Bool)(la:Vl)(tx:List UInt8):ak prog 492 [.ptr 81 3] (ME F B nm u la tx) ⟨.tup [],MO F B nm true la tx⟩:=by
 cases u with
 |false=>
  refine ak.fnM func492 results492 ntmps492 rfl rfl rfl rfl (by first|rfl|(cases u <;> rfl)) (by first|rfl|(cases u <;> rfl)) (by first|rfl|(cases u <;> rfl)) (fun w0 Tw Bw E0 hB=>?_)
  refine zg ?_;refine SX.Go1.aqv (b:=81) (off:=3) rfl awX rfl ?_;refine zg ?_;refine SX.Go1.ayx (m:=21) rfl rfl rfl rfl z6 ?_
  refine zg ?_;exact jq (xs:=[]) trivial ⟨rfl,rfl,rfl,trivial⟩
 |true=>
  refine ak.fnM func492 results492 ntmps492 rfl rfl rfl rfl (by first|rfl|(cases u <;> rfl)) (by first|rfl|(cases u <;> rfl)) (by first|rfl|(cases u <;> rfl)) (fun w0 Tw Bw E0 hB=>?_)
  refine zg ?_;exact jq (xs:=[]) trivial ⟨rfl,rfl,rfl,trivial⟩
theorem ayc(F B:Nat)(nm:Nms)(la:Vl)(tx:List UInt8):ak prog 463 [.ptr 81 3] (MP F B nm la tx) ⟨.v (.int .i64 (tx.length:Int)),MQ F B nm la tx⟩:=by
 refine ak.fnA func463 results463 ntmps463 rfl rfl rfl rfl rfl rfl rfl rfl fun _ _ B _ _=>?_
 refine adz rfl rfl rfl rfl rfl ?_;refine zg ?_;refine aN.le (afY rfl rfl rfl rfl) ?_;exact jq (xs:=[.one (.c (.val (.int .i64 (tx.length:Int))))]) ⟨aj.tmp rfl,trivial⟩ ⟨rfl,trivial⟩
theorem auq(tx s:List UInt8)(h:s≠[]):true=wrt (tx++s):=by
 cases tx <;> cases s <;> simp_all
theorem adK(F B:Nat)(nm:Nms)(la:Vl)(tx s:List UInt8)(h:tx.length+s.length<=1000000000)(hs:s≠[]):ak prog 464 [.ptr 81 3,.v (str s)] (MP F B nm la tx) ⟨.tup [.one (.c (.val (.int .i64 (s.length:Int)))),.one (.c (.val .nilIface))],MQ F B nm la (tx++s)⟩:=by
 have c:=au1 F B nm (wrt tx) la tx;refine ak.fnA func464 results464 ntmps464 rfl rfl rfl rfl rfl rfl rfl rfl fun _ _ B _ _=>?_
 refine adz rfl rfl rfl rfl rfl ?_;generalize wrt tx=u at c ⊢;cases u <;> (
  refine zg ?_;refine aN.le (acF (tx:=tx++s) [(84,some 14)] [82,14] rfl ⟨S21,S21,S21,ahk (auq tx s hs) rfl,aC.own rfl,S21,S21,S21,S21,S21,S21,S21,S21,S21,S21,S21,S21,S21,S21,S21,S21,trivial⟩ ⟨ay.same rfl rfl,ay.row rfl rfl (axp _ _) (axA _ _),trivial⟩ rfl rfl rfl) ?_;exact jq (xs:=[.one (.c (.val (.int .i64 (s.length:Int)))),.one (.c (.val .nilIface))]) ⟨aj.tmp rfl,aj.tmp rfl,trivial⟩ ⟨rfl,trivial⟩
 )
theorem ao0(F B:Nat)(nm:Nms)(la:Vl)(tx:List UInt8)(h0:tx≠[]):ak prog 97 [.ptr 81 3] (MP F B nm la tx) ⟨.v (str tx),[(81,.gone)]⟩:=by
 have hl:0 < tx.length:=by
  cases tx with
  |nil=>exact absurd rfl h0
  |cons=>simp
 refine ak.fnA func97 results97 ntmps97 rfl rfl rfl rfl rfl rfl rfl rfl fun _ _ B _ _=>?_
 refine adz rfl rfl rfl rfl rfl ?_;refine zg ?_;refine aN.le (St.aqd (b:=81) rfl) ?_;exact jq (xs:=[.one (.c (.val (str tx)))]) ⟨aj.tmp rfl,trivial⟩ ⟨rfl,trivial⟩
theorem ayN(F Bt:Nat)(nm:Nms)(la:Vl)(tx:List UInt8){v:Vl}{s:List UInt8}(cP:ah prog 462 [.agg (vlA v)] (.tup [.one (.c (.val (str s))),eNo 0]))(hl:tx.length+s.length+1<=100000):
  ak prog 395 [.ptr 81 0,.agg (vlA v)] (MP F Bt nm la tx) ⟨.tup [],MQ F Bt nm v (tx++(s++[10]))⟩:=by
 have cL:=ayc F Bt nm la tx;have hsl:(s++[10]).length=s.length+1:=by simp
 have cW:=adK F Bt nm v tx (s++[10]) zE zp
 have hq:Hide (¬((tx.length:Int)+(s.length:Int)+1 > 100000)):=⟨zE⟩
 refine ak.fnA func395 results395 ntmps395 rfl rfl rfl rfl rfl rfl rfl rfl fun _ _ _ _ _=>?_
 refine W.meet [(0,.ptr 81 0),(3,.ptr 3 0)] [(3,.box 42 (vlA v)),(81,.abs (vw F Bt nm la tx))] ?_ ?_
 ·refine zg ?_;exact W.le
 refine W.meet [(0,.ptr 81 0),(3,.ptr 3 0),(4,.v (str s)),(5,.v (.int .i64 0))] [(3,.box 42 (vlA v)),(81,.abs (vw F Bt nm la tx))] ?_ ?_
 ·refine zg ?_;exact W.le
 refine W.meet [(0,.ptr 81 0),(3,.ptr 3 0),(4,.v (str s))] [(3,.box 42 (vlA v)),(81,.abs (vw F Bt nm la tx))] ?_ ?_
 ·refine zg ?_;exact W.le
 refine adz rfl rfl rfl rfl rfl ?_;refine W.meet [(0,.ptr 81 0),(4,.v (str s))] [(81,.abs (vw F Bt nm v tx))] ?_ ?_
 ·refine zg ?_;refine St.alm (afY (la:=v) rfl rfl rfl rfl) ?_;exact W.le
 refine zg ?_;exact jq (xs:=[]) trivial ⟨rfl,trivial⟩
end
section
abbrev Ms:=Nms×Vl×List UInt8
def ST(B:Nat)(n:Nd)(k:Nat)(σ σ':Ms):Prop:=∀F,F+k<=1000000000->ak prog 294 [.ptr 81 0,.agg (ndA n)] (MP (F+k) B σ.1 σ.2.1 σ.2.2) ⟨.tup [],MQ F B σ'.1 σ'.2.1 σ'.2.2⟩
def BL(B:Nat)(ns:List Nd)(k:Nat)(σ σ':Ms):Prop:=∀F,F+k<=1000000000->ak prog 186 [.ptr 81 0,.r (aA 3 ndE ns)] (MP (F+k) B σ.1 σ.2.1 σ.2.2) ⟨.tup [],MQ F B σ'.1 σ'.2.1 σ'.2.2⟩
theorem aC.ofI{ρ:List (Nat×Option Nat)}{x y:CA}(h:aB (.c x) (.c y)):aC ρ (.c x) (.c y):=fun E S w v hv=>h (eU ρ E) S w v hv
theorem amg{α:Type}{l:List α}{m:α}{r:List α}(h:l=m::r):l[0]? =some m/\0 < l.length:=by subst h;exact⟨rfl,by simp⟩
theorem avN:nmC []=[]:=rfl
theorem avk{P:Program}{C:Ctx}{ops:List Oper}{rest:List Oper}{st:St}{acc:_}{K:_}{d:Tmp}{ty:TypeId}{f:FuncId}{xs:Array Operand}{tys:Array TypeId}{args:List AV}{b:Nat}{A:oW}(hc:ak P f args [] ⟨.ptr b 0,[(b,.ent (.abs A))]⟩)(ha:evs st xs.toList=some args)(hd:aG (some d) C.nt=true)(hf:st.hp b= .free)
  (next:Reg P C ops rest (st.app (some d) ⟨.ptr b 0,[(b,.ent (.abs A))]⟩) (([b],[b])::acc) K):Go1 P C ops (some d) (.call ⟨.value (.func f),xs,tys⟩) ty rest st acc K:=
 Go1.ad2 (cap:=[]) (pre:=[]) (out:=⟨.ptr b 0,[(b,.ent (.abs A))]⟩) (fp:=[b]) hd rfl ha (by simpa using hc) (fun b e hb=>by cases hb) (fun b s hb=>by simp at hb;rw[hb.1];exact .inr hf) (fun b s hb=>by simp at hb;rw[hb.2];rfl) (fun b s hb=>by simp at hb;simp[hb.1])
  (fun i hi=>by
   left
   rcases hi with hi|⟨b,e,hb,hi⟩
   ·have:i=b:=by simpa[AV.ids,AV0.ids,Atom.ids]using hi
    subst this;exact⟨_,by simp;rfl⟩
   ·simp at hb;obtain⟨rfl,rfl⟩:=hb;cases hi) next
attribute [local irreducible] IntKind.wrap Go1 Reg WP aO aR bM bK aN aD aj ak aX Sat
attribute [local irreducible] bO bX bV cK bW qv dH mf PrP qOk zOk vP dP lz vF cq rqv dX aS bU aV fB jn sq aY qS zS tS tbS plS mdS gK jQ nmC
section
variable{B:Nat}{n m:Nd}{v:Vl}{k:Nat}{nm:Nms}{la:Vl}{tx:List UInt8}
theorem ST.set(hop:n.op=18){r:List Nd}(hk:n.kids=m::r)(h:EX B nm m k v):ST B n (k+1) (nm,la,tx) (jQ nm n.text v,la,tx):=fun F hF=>by
 obtain⟨u,hu⟩:∃u,u=wrt tx:=⟨_,rfl⟩;have c1:=qH (F+k) B nm u la tx zE
 have cE:=h F u la tx zE
 obtain⟨h0,hl⟩:=amg hk
 dsimp only
 rw[show F+(k+1)=F+k+1 from rfl,af2]
 refine ak.fnA func294 results294 ntmps294 rfl rfl rfl rfl rfl rfl rfl rfl fun _ _ B _ _=>?_
 refine adz rfl rfl rfl rfl rfl ?_;rw[<-hu];cases u <;> (
  refine zg ?_;refine aN.le (afY (nm:=jQ nm n.text v) hu rfl (by rw[auh];rfl) rfl) ?_
  exact jq (xs:=[]) trivial ⟨rfl,trivial⟩
 )
theorem ST.show(hop:n.op=19){r:List Nd}(hk:n.kids=m::r)(h:EX B nm m k v){s:List UInt8}(cP:ah prog 462 [.agg (vlA v)] (.tup [.one (.c (.val (str s))),eNo 0]))(hl:tx.length+s.length+1<=100000):ST B n (k+1) (nm,la,tx) (nm,v,tx++(s++[10])):=fun F hF=>by
 have c1:=avS (F+k) B nm la tx zE
 have cE:=h.mach F la tx zE
 have cS:=ayN F B nm la tx cP hl;obtain⟨h0,hl⟩:=amg hk
 dsimp only
 rw[show F+(k+1)=F+k+1 from rfl,af2]
 refine ak.fnA func294 results294 ntmps294 rfl rfl rfl rfl rfl rfl rfl rfl fun _ _ B _ _=>?_
 refine zg ?_;exact jq (xs:=[]) trivial ⟨rfl,trivial⟩
end
theorem auk(Bt:Nat)(ns:List Nd)(ks:List Nat)(σ:Nat->Ms)(hk:ks.length=ns.length)(hl:ns.length<=100000)(h:∀(i:Nat) n k,ns[i]? =some n->ks[i]? =some k->ST Bt n k (σ i) (σ (i+1))):BL Bt ns ks.sum (σ 0) (σ ns.length):=fun F hF=>by
 refine ak.fnA func186 results186 ntmps186 rfl rfl rfl rfl rfl rfl rfl rfl fun _ _ _ _ _=>?_
 refine zg ?_;refine W.pF (fun k fu=>k<=ns.length/\fu=F+(ks.drop k).sum) (fun k fu=>[(0,.ptr 81 0),(6,.r (aA 3 ndE ns)),(7,.v (.int .i64 (ns.length:Int))),(8,.v (.int .i64 (k:Int)))]) (fun k fu=>[(81,.abs (vw fu Bt (σ k).1 (σ k).2.1 (σ k).2.2))]) (fun k _=>ns.length - k) 0 (F+ks.sum) ⟨zq8 _,rfl⟩ (fun k fu ⟨hkn,hfu⟩=>?_)
  (by
   refine St.aW [] (by intro b h;exact SX.dY h rfl) ?_ ?_ rfl
   ·exact ya
   ·exact⟨ay.same rfl rfl,trivial⟩)
 by_cases hlt:k < ns.length
 ·obtain⟨n,hn⟩:∃n,ns[k]? =some n:=⟨_,zyh hlt⟩
  obtain⟨c,hc⟩:∃c,ks[k]? =some c:=⟨_,zyh zE⟩
  have hsum:(ks.drop k).sum=c+(ks.drop (k+1)).sum:=by
   obtain⟨hk2,e⟩:=zxg.1 hc
   rw[zy4 hk2,e,List.sum_cons]
  have hle:(ks.drop k).sum<=ks.sum:=by
   conv=>rhs;rw[<-zv5 k ks,List.sum_append]
   omega
  obtain⟨f',rfl⟩:∃f',fu=f'+c:=⟨F+(ks.drop (k+1)).sum,zE⟩
  have cS:=h k n c hn hc f' zE
  refine zg ?_;refine W.nR (k+1) f' ⟨hlt,zE⟩ zE (by
   refine St.aW [] (by intro b h;exact SX.dY h rfl) ?_ ?_ rfl
   ·exact ya
   ·exact⟨ay.same rfl rfl,trivial⟩)
 ·obtain rfl:k=ns.length:=zE
  rw[List.drop_of_length_le zE,List.sum_nil]at hfu
  subst hfu;refine zg ?_;exact jq (xs:=[]) trivial ⟨rfl,trivial⟩
abbrev akz(F B D:Nat):List Atom:=[.c (.val (.int .i64 (F:Int))),.c (.val (.int .i64 (B:Int))),.c (.val (.int .i64 (D:Int)))]
theorem avi(F B D:Nat)(h:D<=200):ah prog 183 [.agg (akz F B D)] (.v (.bool true)):=by
 have hd:decide ((D:Int)<=200)=true:=decide_eq_true zE
 refine ah.fq func183 results183 ntmps183 fun _ _ B _ _=>?_
 refine zg ?_;exact bg hd
theorem akO{F B D:Nat}(hD:D<=200){s:List UInt8}{ts:List Tok}{l:List Nd}{p:Nat}(hs:s.length<=20000)(hL:agv s=(ts,0,0))(hts:ts.length<=1000000/\∀t∈ts,t.text.length<=9223372036854775807)(hP:xV ts D=(l,p,0)):ah prog 95 [.v (str s),.agg (akz F B D)] (.tup [.one (.c (.sat (aA 3 ndC l))),eNo 0]):=by
 have cM:=avi F B D hD;have cL:=(auM s).h zE
 rw[hL]at cL;have cP:=aj3 hts.1 hts.2 hP;refine ah.fq func95 results95 ntmps95 fun _ _ B _ _=>?_
 refine zg ?_;exact .ok (aD.mk2 (aj.tmp rfl) (aj.tmp rfl))
theorem anD{F Bt D k:Nat}{l:List Nd}{σ:Ms}(h:BL Bt l k ([],v0,[]) σ)(hF:F+k<=1000000000):ak prog 96 [.r (aA 3 ndE l),.agg (akz (F+k) Bt D)] [] ⟨.ptr 81 0,MQ F Bt σ.1 σ.2.1 σ.2.2⟩:=by
 have n81:Named 12 81:=⟨⟩;have cB:=h F hF;refine ak.fnA func96 results96 ntmps96 rfl rfl rfl rfl rfl rfl rfl rfl fun _ _ B _ _=>?_
 refine W.meet [(0,.r (aA 3 ndE l)),(3,.ptr 3 0)] [(3,.box 88 (akz (F+k) Bt D))] ?_ ?_
 ·refine zg ?_;exact W.le
 refine W.meet [(0,.r (aA 3 ndE l)),(5,.ptr 81 0)] [(81,.abs (vw (F+k) Bt [] v0 []))] ?_ ?_
 ·refine zg ?_;refine St.alm (acF (F:=F+k) (B:=Bt) (nm:=[]) (la:=v0) (tx:=[]) [(82,some 10),(84,none)] [10] rfl ⟨S21,S21,aC.own rfl,S21,aC.nil rfl,S21,S21,aC.ofI aB.lT,S21,aC.ofI aB.lT,S21,S21,aC.ofI aB.nil,aC.ofI aB.nil,S21,S21,S21,aC.ofI aB.nil,aC.ofI aB.nil,aC.ofI aB.nil,S21,trivial⟩ ⟨ay.abs (by rw[avN];rfl) rfl rfl,ay.dO rfl,trivial⟩ rfl rfl rfl) ?_
  exact W.le
 refine zg ?_;exact jq (xs:=[.one (.ptr 81 0)]) ⟨aj.tmp rfl,trivial⟩ ⟨rfl,trivial⟩
theorem av7{F B D k:Nat}{s:List UInt8}{l:List Nd}{σ:Ms}(cp:ah prog 95 [.v (str s),.agg (akz (F+k) B D)] (.tup [.one (.c (.sat (aA 3 ndC l))),eNo 0]))(h:BL B l k ([],v0,[]) σ)(hF:F+k<=1000000000)(h0:σ.2.2≠[]):
  ah prog 36 [.v (str s),.agg (akz (F+k) B D)] (.tup [.one (.c (.val (str σ.2.2))),eNo 0]):=by
 rw[show ndC=ndE from funext aJ]at cp
 have cs:=anD (D:=D) h hF;have cS:=ao0 F B σ.1 σ.2.1 σ.2.2 h0;refine ah.fq func36 results36 ntmps36 fun _ _ B _ _=>?_
 refine zg ?_;refine avk cs rfl rfl rfl ?_;refine zg ?_;exact .ok (aD.mk2 (aj.tmp rfl) (aj.tmp rfl))
end
