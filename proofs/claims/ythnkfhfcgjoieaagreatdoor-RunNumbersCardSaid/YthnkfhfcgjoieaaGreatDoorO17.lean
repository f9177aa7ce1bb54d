import Derived.Test.YthnkfhfcgjoieaaGreatDoorO11
import Derived.Test.YthnkfhfcgjoieaaGreatDoorO13
import Derived.Test.YthnkfhfcgjoieaaGreatDoorO6
set_option linter.unusedVariables false
set_option linter.unusedSimpArgs false
open Go.Proofs.Tryz
namespace Go.Proofs.YthnkfhfcgjoieaaGreatDoor
open Go.RowKit QM SX LA
section
abbrev uL(bs:List UInt8):Ent:= .row 5 1 bs.length (bs.flatMap lF)
def afB:Bool->Atom
 |true=> .ptr 81 3
 |false=> .c (.val (.pointer none))
abbrev mB(F B:Nat)(u:Bool)(la:Vl):List Atom:=[.c (.val (.int .i64 (F:Int))),.c (.val (.int .i64 (B:Int))),.own 82,afB u,.own 84,.c (.val (.int .i64 la.k)),.c (.val (.bool la.q.1)),.c (.sat (bL la.q.2.1)),.c (.val (.bool la.q.2.2.1)),.c (.sat (bL la.q.2.2.2)),.c (.val (.int .i64 la.r)),.c (.val (.int .i64 la.c)),.c (.sat (aB 4 q4C (la.a.map rq))),.c (.sat (aB 2 z2C (la.po.map rz))),.c (.val (.int .u64 (la.p:Int))),.c (.val (.int .i64 la.fr)),.c (.val (.int .i64 la.fc)),.c (.sat (aB 1 wdC la.fa)),.c (.sat (aB 1 wdC la.ri)),.c (.sat (aB 15 vlC la.li)),.c (.val (.int .i64 0))]
abbrev MB(F B:Nat)(u:Bool)(la:Vl):Ent:= .box 107 (mB F B u la)
abbrev Nms:=List (List UInt8×Vl)
def nmC(nm:Nms):List (List UInt8×List CA):=nm.map fun p=>(p.1,vlE p.2)
abbrev ME(F B:Nat)(nm:Nms)(u:Bool)(la:Vl)(tx:List UInt8):List (Nat×Ent):=[(81,MB F B u la),(82,.abs (iT (nmC nm))),(84,uL tx)]
abbrev MO(F B:Nat)(nm:Nms)(u:Bool)(la:Vl)(tx:List UInt8):List (Nat×Slot):=[(81,.ent (MB F B u la)),(82,.ent (.abs (iT (nmC nm)))),(84,.ent (uL tx))]
attribute [local irreducible] IntKind.wrap Go1 Reg WP aJ aN bF bD aM aA ak aj aT Sat
attribute [local irreducible] bK bO bM bS bN qv bZ mf PrP qOk zOk vP dx lz vF cq rqv dI aX bG aV dN jn sq aW qS zS tS tbS plS mdS
theorem apT(F Bt n:Nat)(nm:Nms)(u:Bool)(la:Vl)(tx:List UInt8)(h:F+n<=1000000000):aj prog 292 [.ptr 81 0,.v (.int .i64 (n:Int))] (ME (F+n) Bt nm u la tx) ⟨.v (.bool true),MO F Bt nm u la tx⟩:=by
 refine aj.fnM func292 results292 ntmps292 rfl rfl rfl rfl (by first|rfl|(cases u <;> rfl)) (by first|rfl|(cases u <;> rfl)) (by first|rfl|(cases u <;> rfl)) fun _ _ _ _ _=>?_
 refine zg ?_;have e:F+n - n=F:=zE
 refine gG (xs:=[.one (.c (.val (.bool true)))]) ⟨ak.tmp rfl,trivial⟩ ⟨?_,rfl,rfl,trivial⟩;refine Eq.trans (b:=Slot.ent (Ent.box 107 (.c (.val (.int .i64 ((F+n - n:Nat):Int)))::(mB F Bt u la).tail))) rfl ?_;rw[e];rfl
theorem nR(F B:Nat)(nm:Nms)(u:Bool)(la:Vl)(tx:List UInt8)(h:F+1<=1000000000):aj prog 292 [.ptr 81 0,.v (.int .i64 1)] (ME (F+1) B nm u la tx) ⟨.v (.bool true),MO F B nm u la tx⟩:=apT F B 1 nm u la tx h
section
variable(v:Vl)
theorem ams(h:v.k=2)(hl:v.a.length<=1000000):ah prog 462 [.agg (vlA v)] (.v (.int .i64 (v.a.length:Int))):=by
 have e:(v.a.map rq).length=v.a.length:=zq5 _;refine ah.fq func462 results462 ntmps462 fun _ _ _ _ _=>?_
 refine zg ?_;refine iw ?_;rw[e]
theorem alv(h:v.k=3)(hl:v.po.length<=1000000):ah prog 462 [.agg (vlA v)] (.v (.int .i64 (v.po.length:Int))):=by
 have e:(v.po.map rz).length=v.po.length:=zq5 _;refine ah.fq func462 results462 ntmps462 fun _ _ _ _ _=>?_
 refine zg ?_;refine iw ?_;rw[e]
theorem alK(h:v.k=4)(hl:v.fa.length<=1000000):ah prog 462 [.agg (vlA v)] (.v (.int .i64 (v.fa.length:Int))):=by
 refine ah.fq func462 results462 ntmps462 fun _ _ _ _ _=>?_
 refine zg ?_;exact iw rfl
theorem amv(h:v.k=5)(hl:v.ri.length<=1000000):ah prog 462 [.agg (vlA v)] (.v (.int .i64 (v.ri.length:Int))):=by
 refine ah.fq func462 results462 ntmps462 fun _ _ _ _ _=>?_
 refine zg ?_;exact iw rfl
theorem lV(h:¬v.k=6):ah prog 460 [.agg (vlA v)] (.v (.int .i64 0)):=by
 refine ah.fq func460 results460 ntmps460 fun _ _ _ _ _=>?_
 refine zg ?_;exact iw rfl
end
theorem ac5(v:Vl)(g:Vl->Nat)(h:¬v.k=2/\¬v.k=3/\¬v.k=4/\¬v.k=5)(hl:(v.li.map g).sum<=1000000)(hn:v.li.length<=1000000)(hx:∀x∈v.li,ah prog 462 [.agg (vlA x)] (.v (.int .i64 (g x:Int)))):
  ah prog 462 [.agg (vlA v)] (.v (.int .i64 ((1+(v.li.map g).sum:Nat):Int))):=by
 obtain⟨h2,h3,h4,h5⟩:=h;rw[amD];refine ah.fq func462 results462 ntmps462 fun _ _ _ _ _=>?_
 refine zg ?_;refine W.loop (fun k=>k<=v.li.length) (fun k=>[(3,.v (.int .i64 ((1+((v.li.take k).map g).sum:Nat):Int))),(31,.r (aB 15 vlE v.li)),(32,.v (.int .i64 (v.li.length:Int))),(33,.v (.int .i64 (k:Int)))]) (fun _=>[]) (fun k=>v.li.length - k) 0 (zq8 _) (fun k hk=>?_)
 by_cases hlt:k < v.li.length
 ·obtain⟨x,hx'⟩:∃x,v.li[k]? =some x:=⟨_,zyh hlt⟩
  have c:=hx x (zq4 hx');have e1:((v.li.take (k+1)).map g).sum=((v.li.take k).map g).sum+g x:=by rw[zw7,hx'];simp
  have e2:((v.li.take (k+1)).map g).sum<=(v.li.map g).sum:=by
   conv=>rhs;rw[<-zv5 (k+1) v.li,List.map_append,List.sum_append]
   omega
  refine zg ?_;exact W.next (k+1) hlt zE
 ·obtain rfl:k=v.li.length:=zE
  rw[zy8];refine zg ?_;exact iw rfl
theorem afI(v:Vl)(g:Vl->Nat)(h:v.k=6)(hl:v.li.length<=1000000)(hg:∀x∈v.li,g x<=100)(hx:∀x∈v.li,ah prog 460 [.agg (vlA x)] (.v (.int .i64 (g x:Int)))):
  ah prog 460 [.agg (vlA v)] (.v (.int .i64 ((1+(v.li.map g).foldl max 0:Nat):Int))):=by
 rw[amD];refine ah.fq func460 results460 ntmps460 fun _ _ _ _ _=>?_
 refine zg ?_;refine W.nZ (fun k m=>k<=v.li.length/\m<=100/\m=((v.li.take k).map g).foldl max 0) (fun k m=>[(3,.v (.int .i64 (m:Int))),(10,.r (aB 15 vlE v.li)),(11,.v (.int .i64 (v.li.length:Int))),(12,.v (.int .i64 (k:Int)))]) (fun _ _=>[]) (fun k _=>v.li.length - k) 0 0 ⟨zq8 _,zq8 _,rfl⟩ (fun k m ⟨hk,hm,hmm⟩=>?_)
 by_cases hlt:k < v.li.length
 ·obtain⟨x,hx'⟩:∃x,v.li[k]? =some x:=⟨_,zyh hlt⟩
  have c:=hx x (zq4 hx');have hgx:=hg x (zq4 hx');have e1:((v.li.take (k+1)).map g).foldl max 0=max m (g x):=by rw[zw7,hx',hmm];simp
  refine zg ?_;exact W.nM (k+1) (max m (g x)) ⟨hlt,zE,e1.symm⟩ zE
 ·obtain rfl:k=v.li.length:=zE
  rw[zy8]at hmm;refine zg ?_;refine iw ?_;rw[<-hmm]
end
section
abbrev ndM(n:Nd):List Atom:=[.c (.val (.int .i64 n.op)),.c (.val (str n.text)),.c (.sat (aB 3 ndE n.kids))]
theorem ac1(n:Nd):AV.agg (ndA n)=AV.agg (ndM n):=by
 unfold ndA ndM;rw[show ndC=ndE from funext aI]
structure VI(B s:Nat)(v:Vl):Prop where
 n:∃d:Nat,d<=20/\ah prog 460 [.agg (vlA v)] (.v (.int .i64 (d:Int)))
 b:∃b:Nat,b<=B/\ah prog 461 [.agg (vlA v)] (.v (.int .i64 (b:Int)))
 s:ah prog 462 [.agg (vlA v)] (.v (.int .i64 (s:Int)))
def EX(B:Nat)(nm:Nms)(n:Nd)(k:Nat)(v:Vl):Prop:=∀F u la tx,F+k<=1000000000->aj prog 293 [.ptr 81 0,.agg (ndA n)] (ME (F+k) B nm u la tx) ⟨.agg (vlA v),MO F B nm u la tx⟩
def AL(B:Nat)(nm:Nms)(ns:List Nd)(k:Nat)(vs:List Vl):Prop:=∀F u la tx,F+k<=1000000000->aj prog 397 [.ptr 81 0,.r (aB 3 ndE ns)] (ME (F+k) B nm u la tx) ⟨.r (aB 15 vlE vs),MO F B nm u la tx⟩
theorem aos{nm:Nms}{t:List UInt8}{v:Vl}(h:fT nm t=some v):fT (nmC nm) t=some (vlE v):=by
 induction nm with
 |nil=>cases h
 |cons p nm ih=>
  obtain⟨k,c⟩:=p;unfold fT at h;show (if t=k then some (vlE c)else fT (nmC nm) t)=_
  by_cases hk:t=k
  ·rw[if_pos hk]at h ⊢;cases h;rfl
  ·rw[if_neg hk]at h ⊢;exact ih h
theorem arw(nm:Nms)(t:List UInt8)(v:Vl):nmC (jw nm t v)=jw (nmC nm) t (vlE v):=by
 induction nm with
 |nil=>rfl
 |cons p nm ih=>
  obtain⟨k,c⟩:=p;show nmC (if t=k then(k,v)::nm else(k,c)::jw nm t v)=(if t=k then(k,vlE v)::nmC nm else(k,vlE c)::jw (nmC nm) t (vlE v))
  by_cases hk:t=k
  ·rw[if_pos hk,if_pos hk];rfl
  ·rw[if_neg hk,if_neg hk];show (k,vlE c)::nmC (jw nm t v)=_;rw[ih]
attribute [local irreducible] IntKind.wrap Go1 Reg WP aJ aN bF bD aM aA ak aj aT Sat
attribute [local irreducible] bK bO bM bS bN qv bZ mf PrP qOk zOk vP dx lz vF cq rqv dI aX bG aV dN jn sq aW qS zS tS tbS plS mdS fT jw nmC
theorem adw(F B s:Nat)(nm:Nms)(u:Bool)(la:Vl)(tx:List UInt8){v:Vl}(h:VI B s v)(hB:B<=1000000000)(hF:F+s<=1000000000):aj prog 394 [.ptr 81 0,.agg (vlA v),.v (.int .i64 0)] (ME (F+s) B nm u la tx) ⟨.agg (vlA v),MO F B nm u la tx⟩:=by
 obtain⟨⟨d,hd,cN⟩,⟨b,hb,cB⟩,cS⟩:=h;have cT:=apT F B s nm u la tx hF;cases u <;> (
  refine aj.fnM func394 results394 ntmps394 rfl rfl rfl rfl (by first|rfl|(cases u <;> rfl)) (by first|rfl|(cases u <;> rfl)) (by first|rfl|(cases u <;> rfl)) (fun w0 Tw Bw E0 hB=>?_)
  refine zg ?_;exact gG (xs:=[.agg (vlA v)]) ⟨ak.gL rfl rfl rfl,trivial⟩ ⟨rfl,rfl,rfl,trivial⟩
 )
theorem asC(F B:Nat){nm:Nms}(u:Bool)(la:Vl)(tx:List UInt8){t:List UInt8}{v:Vl}(h:fT (nmC nm) t=some (vlE v)):aj prog 395 [.ptr 81 0,.v (str t)] (ME F B nm u la tx) ⟨.tup [.agg (vlA v),eNo 0],MO F B nm u la tx⟩:=by
 refine aj.fnM func395 results395 ntmps395 rfl rfl rfl rfl (by first|rfl|(cases u <;> rfl)) (by first|rfl|(cases u <;> rfl)) (by first|rfl|(cases u <;> rfl)) (fun w0 Tw Bw E0 hB=>?_)
 refine zg ?_;exact gG (xs:=[.agg (vlA v),eNo 0]) ⟨ak.gL rfl rfl rfl,ak.tmp rfl,trivial⟩ ⟨rfl,rfl,rfl,trivial⟩
theorem aoS(B:Nat)(nm:Nms)(ns:List Nd)(ks:List Nat)(vs:List Vl)(hk:ks.length=ns.length)(hv:vs.length=ns.length)(hl:ns.length<=100000)
  (h:∀(i:Nat) n k v,ns[i]? =some n->ks[i]? =some k->vs[i]? =some v->EX B nm n k v):AL B nm ns ks.sum vs:=fun F u la tx hF=>by
 cases u with
 |false=>
  refine aj.fnM func397 results397 ntmps397 rfl rfl rfl rfl (by first|rfl|(cases u <;> rfl)) (by first|rfl|(cases u <;> rfl)) (by first|rfl|(cases u <;> rfl)) (fun w0 Tw Bw E0 hB=>?_)
  refine zg ?_;refine W.nZ (fun k fu=>k<=ns.length/\fu=F+(ks.drop k).sum) (fun k fu=>[(0,.ptr 81 0),(5,.own 100),(8,.r (aB 3 ndE ns)),(9,.v (.int .i64 (ns.length:Int))),(10,.v (.int .i64 (k:Int)))]) (fun k fu=>[(81,MB fu B false la),(82,.abs (iT (nmC nm))),(84,uL tx),(100,.row 40 15 k ((vs.take k).flatMap vlE))]) (fun k _=>ns.length - k) 0 (F+ks.sum) ⟨zq8 _,rfl⟩ (fun k fu ⟨hkn,hfu⟩=>?_)
   (by
    refine St.bV [(100,none)] (by intro b h;exact SX.dX h rfl) ?_ ?_ rfl
    ·exact yf
    ·exact⟨ay.same rfl rfl,ay.same rfl rfl,ay.same rfl rfl,ay.dZ rfl,trivial⟩)
  by_cases hlt:k < ns.length
  ·obtain⟨n,hn⟩:∃n,ns[k]? =some n:=⟨_,zyh hlt⟩
   obtain⟨c,hc⟩:∃c,ks[k]? =some c:=⟨_,zyh zE⟩
   obtain⟨v,hvk⟩:∃v,vs[k]? =some v:=⟨_,zyh zE⟩
   have hsum:(ks.drop k).sum=c+(ks.drop (k+1)).sum:=by
    obtain⟨hk2,e⟩:=zxg.1 hc
    rw[zy4 hk2,e,List.sum_cons]
   have hle:(ks.drop k).sum<=ks.sum:=by
    conv=>rhs;rw[<-zv5 k ks,List.sum_append]
    omega
   obtain⟨f',rfl⟩:∃f',fu=f'+c:=⟨F+(ks.drop (k+1)).sum,zE⟩
   have cE:=h k n c v hn hc hvk f' false la tx zE
   have e2:(vs.take k).flatMap vlE++vlE v=(vs.take (k+1)).flatMap vlE:=by rw[lI hvk];simp
   refine zg ?_;refine W.nM (k+1) f' ⟨hlt,zE⟩ zE (by
    refine St.bV [(100,some 19)] (by intro b h;exact SX.dX h rfl) ?_ ?_ rfl
    ·exact yb
    ·exact⟨ay.same rfl rfl,ay.same rfl rfl,ay.same rfl rfl,ay.row rfl rfl rfl e2,trivial⟩)
  ·obtain rfl:k=vs.length:=zE
   rw[List.drop_of_length_le zE,List.sum_nil]at hfu
   subst hfu;rw[zy8];refine zg ?_;refine aM.frzM 100 hB rfl rfl rfl rfl ?_;exact gG (xs:=[.one (.c (.sat (aB 15 vlE vs)))]) ⟨ak.tmp rfl,trivial⟩ ⟨rfl,rfl,rfl,trivial⟩
 |true=>
  refine aj.fnM func397 results397 ntmps397 rfl rfl rfl rfl (by first|rfl|(cases u <;> rfl)) (by first|rfl|(cases u <;> rfl)) (by first|rfl|(cases u <;> rfl)) (fun w0 Tw Bw E0 hB=>?_)
  refine zg ?_;refine W.nZ (fun k fu=>k<=ns.length/\fu=F+(ks.drop k).sum) (fun k fu=>[(0,.ptr 81 0),(5,.own 100),(8,.r (aB 3 ndE ns)),(9,.v (.int .i64 (ns.length:Int))),(10,.v (.int .i64 (k:Int)))]) (fun k fu=>[(81,MB fu B true la),(82,.abs (iT (nmC nm))),(84,uL tx),(100,.row 40 15 k ((vs.take k).flatMap vlE))]) (fun k _=>ns.length - k) 0 (F+ks.sum) ⟨zq8 _,rfl⟩ (fun k fu ⟨hkn,hfu⟩=>?_)
   (by
    refine St.bV [(100,none)] (by intro b h;exact SX.dX h rfl) ?_ ?_ rfl
    ·exact yf
    ·exact⟨ay.same rfl rfl,ay.same rfl rfl,ay.same rfl rfl,ay.dZ rfl,trivial⟩)
  by_cases hlt:k < ns.length
  ·obtain⟨n,hn⟩:∃n,ns[k]? =some n:=⟨_,zyh hlt⟩
   obtain⟨c,hc⟩:∃c,ks[k]? =some c:=⟨_,zyh zE⟩
   obtain⟨v,hvk⟩:∃v,vs[k]? =some v:=⟨_,zyh zE⟩
   have hsum:(ks.drop k).sum=c+(ks.drop (k+1)).sum:=by
    obtain⟨hk2,e⟩:=zxg.1 hc
    rw[zy4 hk2,e,List.sum_cons]
   have hle:(ks.drop k).sum<=ks.sum:=by
    conv=>rhs;rw[<-zv5 k ks,List.sum_append]
    omega
   obtain⟨f',rfl⟩:∃f',fu=f'+c:=⟨F+(ks.drop (k+1)).sum,zE⟩
   have cE:=h k n c v hn hc hvk f' true la tx zE
   have e2:(vs.take k).flatMap vlE++vlE v=(vs.take (k+1)).flatMap vlE:=by rw[lI hvk];simp
   refine zg ?_;refine W.nM (k+1) f' ⟨hlt,zE⟩ zE (by
    refine St.bV [(100,some 19)] (by intro b h;exact SX.dX h rfl) ?_ ?_ rfl
    ·exact yb
    ·exact⟨ay.same rfl rfl,ay.same rfl rfl,ay.same rfl rfl,ay.row rfl rfl rfl e2,trivial⟩)
  ·obtain rfl:k=vs.length:=zE
   rw[List.drop_of_length_le zE,List.sum_nil]at hfu
   subst hfu;rw[zy8];refine zg ?_;refine aM.frzM 100 hB rfl rfl rfl rfl ?_;exact gG (xs:=[.one (.c (.sat (aB 15 vlE vs)))]) ⟨ak.tmp rfl,trivial⟩ ⟨rfl,rfl,rfl,trivial⟩
section
variable{B:Nat}{nm:Nms}{n:Nd}{v:Vl}{s:Nat}(hB0:B<=1000000000)
include hB0
theorem EX.num(hop:n.op=1){z:Nat}(cP:ah prog 393 [.v (str n.text)] (.tup [.agg (zN z),.one (.c (.val (.bool true)))]))(cW:ah prog 6 [.agg (zN z)] (.agg (vlA v)))(hv:VI B s v):EX B nm n (s+1) v:=fun F u la tx hF=>by
 have c1:=nR (F+s) B nm u la tx zE
 have c2:=adw F B s nm u la tx hv hB0 zE
 rw[show F+(s+1)=F+s+1 from rfl,ac1]
 cases u <;> (
  refine aj.fnM func293 results293 ntmps293 rfl rfl rfl rfl (by first|rfl|(cases u <;> rfl)) (by first|rfl|(cases u <;> rfl)) (by first|rfl|(cases u <;> rfl)) (fun w0 Tw Bw E0 hB=>?_)
  refine zg ?_;exact gG (xs:=[.agg (vlA v)]) ⟨ak.gL rfl rfl rfl,trivial⟩ ⟨rfl,rfl,rfl,trivial⟩
 )
theorem EX.name(hop:n.op=2)(hl:fT nm n.text=some v)(hv:VI B s v):EX B nm n (s+1) v:=fun F u la tx hF=>by
 have c1:=nR (F+s) B nm u la tx zE
 have c2:=adw F B s nm u la tx hv hB0 zE
 have c3:=asC (F+s) B u la tx (aos hl);rw[show F+(s+1)=F+s+1 from rfl,ac1]
 cases u <;> (
  refine aj.fnM func293 results293 ntmps293 rfl rfl rfl rfl (by first|rfl|(cases u <;> rfl)) (by first|rfl|(cases u <;> rfl)) (by first|rfl|(cases u <;> rfl)) (fun w0 Tw Bw E0 hB=>?_)
  refine zg ?_;exact gG (xs:=[.agg (vlA v)]) ⟨ak.gL rfl rfl rfl,trivial⟩ ⟨rfl,rfl,rfl,trivial⟩
 )
theorem EX.opr(hop:¬n.op=1/\¬n.op=2/\¬n.op=14){k:Nat}{vs:List Vl}(hA:AL B nm n.kids k vs)(cO:ah prog 398 [.agg (ndM n),.r (aB 15 vlE vs)] (.tup [.agg (vlA v),eNo 0]))(hv:VI B s v):EX B nm n (s+k+1) v:=fun F u la tx hF=>by
 obtain⟨h1,h2,h3⟩:=hop;have c1:=nR (F+s+k) B nm u la tx zE
 have cA:=hA (F+s) u la tx zE
 have c2:=adw F B s nm u la tx hv hB0 zE
 rw[show F+(s+k+1)=F+s+k+1 by omega,ac1]
 cases u <;> (
  refine aj.fnM func293 results293 ntmps293 rfl rfl rfl rfl (by first|rfl|(cases u <;> rfl)) (by first|rfl|(cases u <;> rfl)) (by first|rfl|(cases u <;> rfl)) (fun w0 Tw Bw E0 hB=>?_)
  refine zg ?_;exact gG (xs:=[.agg (vlA v)]) ⟨ak.gL rfl rfl rfl,trivial⟩ ⟨rfl,rfl,rfl,trivial⟩
 )
theorem EX.mat(hop:n.op=14){k:Nat}(hR:∀F u la tx,F+k<=1000000000->aj prog 396 [.ptr 81 0,.r (aB 3 ndE n.kids)] (ME (F+k) B nm u la tx) ⟨.tup [.agg (vlA v),eNo 0],MO F B nm u la tx⟩)(hv:VI B s v):EX B nm n (s+k+1) v:=fun F u la tx hF=>by
 have c1:=nR (F+s+k) B nm u la tx zE
 have cA:=hR (F+s) u la tx zE
 have c2:=adw F B s nm u la tx hv hB0 zE
 rw[show F+(s+k+1)=F+s+k+1 by omega,ac1]
 cases u <;> (
  refine aj.fnM func293 results293 ntmps293 rfl rfl rfl rfl (by first|rfl|(cases u <;> rfl)) (by first|rfl|(cases u <;> rfl)) (by first|rfl|(cases u <;> rfl)) (fun w0 Tw Bw E0 hB=>?_)
  refine zg ?_;exact gG (xs:=[.agg (vlA v)]) ⟨ak.gL rfl rfl rfl,trivial⟩ ⟨rfl,rfl,rfl,trivial⟩
 )
end
section
variable{n:Nd}{v:Vl}
theorem apC(hop:n.op=3){a:Vl}(c:ah prog 464 [.v (.int .i64 3),.agg (vlA a)] (.tup [.agg (vlA v),eNo 0])):ah prog 398 [.agg (ndM n),.r (aB 15 vlE [a])] (.tup [.agg (vlA v),eNo 0]):=by
 have ha:[a][0]? =some a:=rfl;rw[<-hop]at c;refine ah.fq func398 results398 ntmps398 fun _ _ _ _ _=>?_
 refine zg ?_;exact .ok (aA.mk2 ak.gL (ak.tmp rfl))
theorem ajX(hop:n.op=13){vs:List Vl}(c:ah prog 46 [.v (str n.text),.r (aB 15 vlE vs)] (.tup [.agg (vlA v),eNo 0])):ah prog 398 [.agg (ndM n),.r (aB 15 vlE vs)] (.tup [.agg (vlA v),eNo 0]):=by
 refine ah.fq func398 results398 ntmps398 fun _ _ _ _ _=>?_
 refine zg ?_;exact .ok (aA.mk2 ak.gL (ak.tmp rfl))
theorem atZ(hop:4<=n.op/\n.op<=12){a b:Vl}(c:ah prog 466 [.v (.int .i64 n.op),.agg (vlA a),.agg (vlA b)] (.tup [.agg (vlA v),eNo 0])):ah prog 398 [.agg (ndM n),.r (aB 15 vlE [a,b])] (.tup [.agg (vlA v),eNo 0]):=by
 have ha:[a,b][0]? =some a:=rfl;have hb:[a,b][1]? =some b:=rfl;refine ah.fq func398 results398 ntmps398 fun _ _ _ _ _=>?_
 refine zg ?_;exact .ok (aA.mk2 ak.gL (ak.tmp rfl))
end
end
section
theorem atK(bs s:List UInt8):bs.length+s.length=(bs++s).length:=List.length_append.symm
theorem aui(bs s:List UInt8):bs.flatMap lF++s.flatMap lF=(bs++s).flatMap lF:=List.flatMap_append.symm
abbrev wrt(tx:List UInt8):Bool:=!tx.isEmpty
def rR(F B:Nat)(nm:Nms)(la:Vl)(tx:List UInt8):mF:=jL 81 (fun _:Unit=>True) 107 (fun _=>mB F B (wrt tx) la) (fun _=>[(82,.abs (iT (nmC nm))),(84,uL tx)])
theorem avl{F B:Nat}{u:Bool}{la:Vl}{i:Nat}(h:i∈(mB F B u la).flatMap Atom.ids):i=82\/i=81\/i=84:=by
 cases u
 ·have h':i=82\/i=84:=by simpa[afB,Atom.ids]using h
  rcases h' with h'|h'
  ·exact .inl h'
  ·exact .inr (.inr h')
 ·have h':i=82\/i=81\/i=84:=by simpa[afB,Atom.ids]using h
  exact h'
theorem abl{P:Program}{C:Ctx}{st:St}{Q:Exit->St->Prop}{cd:Code}{F B:Nat}{nm:Nms}{la:Vl}{tx:List UInt8}(hb:st.hp 81= .ent (.abs (rR F B nm la tx)))(h1:st.hp 82= .free)(h2:st.hp 84= .free)(f1:C.fix 82=false)(f2:C.fix 84=false)
  (h:WP P C cd (uR st 81 107 (mB F B (wrt tx) la) [(82,.abs (iT (nmC nm))),(84,uL tx)]) Q):WP P C cd st Q:=
 WP.agn (ι:=Unit) (b:=81) [82,84] hb (fun p=>rfl) (by intro i hi;simp at hi;rcases hi with rfl|rfl <;> assumption) (by intro i hi;simp at hi;rcases hi with rfl|rfl <;> assumption)
  (by
   intro p i hi;rcases avl hi with rfl|rfl|rfl <;> simp)
  (by intro p i e he;simp at he;rcases he with⟨rfl,rfl⟩|⟨rfl,rfl⟩ <;> rfl) (fun p hp=>h)
theorem af9{ρ:List (Nat×Option Nat)}{u u':Bool}(e:u=u')(h:fresh ρ [81]=true):aD ρ (afB u) (afB u'):=by
 subst e;cases u
 ·exact aD.same rfl
 ·exact aD.same h
theorem aaY{C:Ctx}{st:St}{F B:Nat}{nm:Nms}{la:Vl}{tx:List UInt8}{cells0:List Atom}(ρ:List (Nat×Option Nat))(os:List Nat)(hb:st.hp 81= .ent (.box 107 cells0))
  (hc:nT ρ cells0 (mB F B (wrt tx) la)) (hR:aaE st ρ [(82,.abs (iT (nmC nm))),(84,uL tx)])
  (hos:(([(82,.abs (iT (nmC nm))),(84,uL tx)]:List (Nat×Ent)).all fun q=>match SX.src ρ q.1 with|some o=>jv os o|none=>true)=true) (hbo:jv os 81=false) (hdi:(([(82,.abs (iT (nmC nm))),(84,uL tx)]:List (Nat×Ent)).all fun q=>([(82,.abs (iT (nmC nm))),(84,uL tx)]:List (Nat×Ent)).all fun q'=>Nat.beq q.1 q'.1||!(eqO (SX.src ρ q.1) (SX.src ρ q'.1)))=true)
  (hfb:lk ρ 81=none:=by rfl):St.le C st (qw st 81 (rR F B nm la tx) os):=
 St.aaD (ι:=Unit) (b:=81) () ρ os trivial hb hc hR hos hbo hdi hfb
abbrev S21{ρ:List (Nat×Option Nat)}{x:Atom}(h:fresh ρ x.ids=true:=by rfl):aD ρ x x:=aD.same h
theorem adk{C:Ctx}{st:St}{F B:Nat}{nm:Nms}{u:Bool}{la:Vl}{tx:List UInt8}(hu:u=wrt tx)(hb:st.hp 81= .ent (MB F B u la))(h2:st.hp 82= .ent (.abs (iT (nmC nm))))(h4:st.hp 84= .ent (uL tx)):St.le C st (qw st 81 (rR F B nm la tx) [82,84]):=
 aaY [] [82,84] hb ⟨S21,S21,S21,af9 hu rfl,S21,S21,S21,S21,S21,S21,S21,S21,S21,S21,S21,S21,S21,S21,S21,S21,S21,trivial⟩ ⟨ay.same h2 rfl,ay.same h4 rfl,trivial⟩ rfl rfl rfl
abbrev MP(F B:Nat)(nm:Nms)(la:Vl)(tx:List UInt8):List (Nat×Ent):=[(81,.abs (rR F B nm la tx))]
abbrev MQ(F B:Nat)(nm:Nms)(la:Vl)(tx:List UInt8):List (Nat×Slot):=[(81,.ent (.abs (rR F B nm la tx)))]
theorem aj.mach{f:FuncId}{args:List AV}{r:AV}{F F' B:Nat}{nm nm':Nms}{la la':Vl}{tx:List UInt8}(h:aj prog f args (ME F B nm (wrt tx) la tx) ⟨r,MO F' B nm' (wrt tx) la' tx⟩)(hargs:∀v∈args,∀i∈v.ids,i=81)(hr:r.ids=[]):
  aj prog f args (MP F B nm la tx) ⟨r,MQ F' B nm' la' tx⟩:=
 aj.bun (R:=[(82,.abs (iT (nmC nm))),(84,uL tx)]) (R':=[(82,.abs (iT (nmC nm'))),(84,uL tx)]) h hargs hr (by intro e he;simp at he)
theorem args1{a:AV}(h:a.ids=[]):∀v∈[AV.ptr 81 0,a],∀i∈v.ids,i=81:=by
 intro v hv i hi;simp at hv
 rcases hv with rfl|rfl
 ·simpa[AV.ids,AV0.ids,Atom.ids]using hi
 ·rw[h]at hi;cases hi
theorem EX.mach{B:Nat}{nm:Nms}{n:Nd}{k:Nat}{v:Vl}(h:EX B nm n k v)(F:Nat)(la:Vl)(tx:List UInt8)(hF:F+k<=1000000000):aj prog 293 [.ptr 81 0,.agg (ndA n)] (MP (F+k) B nm la tx) ⟨.agg (vlA v),MQ F B nm la tx⟩:=
 aj.mach (h F (wrt tx) la tx hF) (args1 rfl) rfl
theorem arR(F B:Nat)(nm:Nms)(la:Vl)(tx:List UInt8)(h:F+1<=1000000000):aj prog 292 [.ptr 81 0,.v (.int .i64 1)] (MP (F+1) B nm la tx) ⟨.v (.bool true),MQ F B nm la tx⟩:=
 aj.mach (nR F B nm (wrt tx) la tx h) (args1 rfl) rfl
theorem St.apJ{C:Ctx}{st:St}{b:Nat}{t:TypeId}{cells:List Atom}(hb:st.hp b= .ent (.box t cells)):St.le C st ⟨st.tm,upd st.hp b .gone⟩:=fun a w ⟨E,S,hs⟩=>by
 have hu:∀i,(st.hp i).used=true->(upd st.hp b .gone i).used=true:=fun i hi=>by
  by_cases e:i=b
  ·subst e;rw[upd_same];rfl
  ·rw[upd_ne _ _ e];exact hi
 have hk:∀c e,upd st.hp b .gone c= .ent e->st.hp c= .ent e:=fun c e hc=>by
  by_cases e1:c=b
  ·subst e1;rw[upd_same]at hc;cases hc
  ·rw[upd_ne _ _ e1]at hc;exact hc
 exact⟨E,S,{dfr:=hs.dfr,nt:=hs.nt,cT:=hs.cT,cT0:=hs.cT0,cS:=hs.cS,lt:=hs.lt,tm:=hs.tm,tid:=fun t v h i hi=>hu i (hs.tid t v h i hi),hp:=fun c e hc=>hs.hp c e (hk c e hc),hid:=fun c e hc i hi=>hu i (hs.hid c e (hk c e hc) i hi),blk:=fun c e k hc=>hs.blk c e k (hk c e hc),sep:=fun c c' e e' k hne hc hc'=>hs.sep c c' e e' k hne (hk c e hc) (hk c' e' hc'),off:=hs.off,env:=fun c hc=>let⟨g1,g2,g3⟩:=hs.env c hc;⟨g1,g2,hu c g3⟩,gl:=hs.gl}⟩
theorem avu(v:Value)(w:World):(callFunc 513 #[v]).run prog w= .ok (.value v) w:=by
 rw[run_callFunc_extern func513 z6 z6 z6 (e:=Extern.AbiNoEscape.same) z6]
 rw[Lib.run_noEscape];rfl
theorem St.ajh{C:Ctx}{a b c:St}(h:St.le C a b)(k:St.le C b c):St.le C a c:=fun x w hs=>k x w (h x w hs)
attribute [local irreducible] IntKind.wrap Go1 Reg WP aJ aN bF bD aM aA ak aj aT Sat
attribute [local irreducible] bK bO bM bS bN qv bZ mf PrP qOk zOk vP dx lz vF cq rqv dI aX bG aV dN jn sq aW qS zS tS tbS plS mdS fT jw nmC
theorem arN(F B:Nat)(nm:Nms)(u:Bool)(la:Vl)(tx:List UInt8):aj prog 468 [.ptr 81 3] (ME F B nm u la tx) ⟨.tup [],MO F B nm true la tx⟩:=by
 cases u with
 |false=>
  refine aj.fnM func468 results468 ntmps468 rfl rfl rfl rfl (by first|rfl|(cases u <;> rfl)) (by first|rfl|(cases u <;> rfl)) (by first|rfl|(cases u <;> rfl)) (fun w0 Tw Bw E0 hB=>?_)
  refine zg ?_;refine SX.Go1.ao9 (b:=81) (off:=3) rfl avu rfl ?_;refine zg ?_;refine SX.Go1.aut (m:=21) rfl rfl rfl rfl z6 ?_
  refine zg ?_;exact gG (xs:=[]) trivial ⟨rfl,rfl,rfl,trivial⟩
 |true=>
  refine aj.fnM func468 results468 ntmps468 rfl rfl rfl rfl (by first|rfl|(cases u <;> rfl)) (by first|rfl|(cases u <;> rfl)) (by first|rfl|(cases u <;> rfl)) (fun w0 Tw Bw E0 hB=>?_)
  refine zg ?_;exact gG (xs:=[]) trivial ⟨rfl,rfl,rfl,trivial⟩
theorem atN(F B:Nat)(nm:Nms)(la:Vl)(tx:List UInt8):aj prog 400 [.ptr 81 3] (MP F B nm la tx) ⟨.v (.int .i64 (tx.length:Int)),MQ F B nm la tx⟩:=by
 refine aj.fnA func400 results400 ntmps400 rfl rfl rfl rfl rfl rfl rfl rfl fun _ _ B _ _=>?_
 refine abl rfl rfl rfl rfl rfl ?_;refine zg ?_;refine aM.le (adk rfl rfl rfl rfl) ?_;exact gG (xs:=[.one (.c (.val (.int .i64 (tx.length:Int))))]) ⟨ak.tmp rfl,trivial⟩ ⟨rfl,trivial⟩
theorem arO(tx s:List UInt8)(h:s≠[]):true=wrt (tx++s):=by
 cases tx <;> cases s <;> simp_all
theorem aaG(F B:Nat)(nm:Nms)(la:Vl)(tx s:List UInt8)(h:tx.length+s.length<=1000000000)(hs:s≠[]):aj prog 401 [.ptr 81 3,.v (str s)] (MP F B nm la tx) ⟨.tup [.one (.c (.val (.int .i64 (s.length:Int)))),.one (.c (.val .nilIface))],MQ F B nm la (tx++s)⟩:=by
 have c:=arN F B nm (wrt tx) la tx;refine aj.fnA func401 results401 ntmps401 rfl rfl rfl rfl rfl rfl rfl rfl fun _ _ B _ _=>?_
 refine abl rfl rfl rfl rfl rfl ?_;generalize wrt tx=u at c ⊢;cases u <;> (
  refine zg ?_;refine aM.le (aaY (tx:=tx++s) [(84,some 14)] [82,14] rfl ⟨S21,S21,S21,af9 (arO tx s hs) rfl,aD.own rfl,S21,S21,S21,S21,S21,S21,S21,S21,S21,S21,S21,S21,S21,S21,S21,S21,trivial⟩ ⟨ay.same rfl rfl,ay.row rfl rfl (atK _ _) (aui _ _),trivial⟩ rfl rfl rfl) ?_;exact gG (xs:=[.one (.c (.val (.int .i64 (s.length:Int)))),.one (.c (.val .nilIface))]) ⟨ak.tmp rfl,ak.tmp rfl,trivial⟩ ⟨rfl,trivial⟩
 )
theorem alB(F B:Nat)(nm:Nms)(la:Vl)(tx:List UInt8)(h0:tx≠[]):aj prog 52 [.ptr 81 3] (MP F B nm la tx) ⟨.v (str tx),[(81,.gone)]⟩:=by
 have hl:0 < tx.length:=by
  cases tx with
  |nil=>exact absurd rfl h0
  |cons=>simp
 refine aj.fnA func52 results52 ntmps52 rfl rfl rfl rfl rfl rfl rfl rfl fun _ _ B _ _=>?_
 refine abl rfl rfl rfl rfl rfl ?_;refine zg ?_;refine aM.le (St.apJ (b:=81) rfl) ?_;exact gG (xs:=[.one (.c (.val (str tx)))]) ⟨ak.tmp rfl,trivial⟩ ⟨rfl,trivial⟩
theorem avm(F Bt:Nat)(nm:Nms)(la:Vl)(tx:List UInt8){v:Vl}{s:List UInt8}(cP:ah prog 399 [.agg (vlA v)] (.tup [.one (.c (.val (str s))),eNo 0]))(hl:tx.length+s.length+1<=100000):
  aj prog 294 [.ptr 81 0,.agg (vlA v)] (MP F Bt nm la tx) ⟨.tup [],MQ F Bt nm v (tx++(s++[10]))⟩:=by
 have cL:=atN F Bt nm la tx;have hsl:(s++[10]).length=s.length+1:=by simp
 have cW:=aaG F Bt nm v tx (s++[10]) zE zp
 have hq:Hide (¬((tx.length:Int)+(s.length:Int)+1 > 100000)):=⟨zE⟩
 refine aj.fnA func294 results294 ntmps294 rfl rfl rfl rfl rfl rfl rfl rfl fun _ _ _ _ _=>?_
 refine W.meet [(0,.ptr 81 0),(3,.ptr 3 0)] [(3,.box 40 (vlA v)),(81,.abs (rR F Bt nm la tx))] ?_ ?_
 ·refine zg ?_;exact W.le
 refine W.meet [(0,.ptr 81 0),(3,.ptr 3 0),(4,.v (str s)),(5,.v (.int .i64 0))] [(3,.box 40 (vlA v)),(81,.abs (rR F Bt nm la tx))] ?_ ?_
 ·refine zg ?_;exact W.le
 refine W.meet [(0,.ptr 81 0),(3,.ptr 3 0),(4,.v (str s))] [(3,.box 40 (vlA v)),(81,.abs (rR F Bt nm la tx))] ?_ ?_
 ·refine zg ?_;exact W.le
 refine abl rfl rfl rfl rfl rfl ?_;refine W.meet [(0,.ptr 81 0),(4,.v (str s))] [(81,.abs (rR F Bt nm v tx))] ?_ ?_
 ·refine zg ?_;refine St.ajh (adk (la:=v) rfl rfl rfl rfl) ?_;exact W.le
 refine zg ?_;exact gG (xs:=[]) trivial ⟨rfl,trivial⟩
end
section
abbrev Ms:=Nms×Vl×List UInt8
def ST(B:Nat)(n:Nd)(k:Nat)(σ σ':Ms):Prop:=∀F,F+k<=1000000000->aj prog 164 [.ptr 81 0,.agg (ndA n)] (MP (F+k) B σ.1 σ.2.1 σ.2.2) ⟨.tup [],MQ F B σ'.1 σ'.2.1 σ'.2.2⟩
def BL(B:Nat)(ns:List Nd)(k:Nat)(σ σ':Ms):Prop:=∀F,F+k<=1000000000->aj prog 78 [.ptr 81 0,.r (aB 3 ndE ns)] (MP (F+k) B σ.1 σ.2.1 σ.2.2) ⟨.tup [],MQ F B σ'.1 σ'.2.1 σ'.2.2⟩
theorem aD.ofI{ρ:List (Nat×Option Nat)}{x y:CA}(h:aF (.c x) (.c y)):aD ρ (.c x) (.c y):=fun E S w v hv=>h (eG ρ E) S w v hv
theorem aiY{α:Type}{l:List α}{m:α}{r:List α}(h:l=m::r):l[0]? =some m/\0 < l.length:=by subst h;exact⟨rfl,by simp⟩
theorem ar2:nmC []=[]:=rfl
theorem as2{P:Program}{C:Ctx}{ops:List Oper}{rest:List Oper}{st:St}{acc:_}{K:_}{d:Tmp}{ty:TypeId}{f:FuncId}{xs:Array Operand}{tys:Array TypeId}{args:List AV}{b:Nat}{A:mF}(hc:aj P f args [] ⟨.ptr b 0,[(b,.ent (.abs A))]⟩)(ha:evs st xs.toList=some args)(hd:aC (some d) C.nt=true)(hf:st.hp b= .free)
  (next:Reg P C ops rest (st.app (some d) ⟨.ptr b 0,[(b,.ent (.abs A))]⟩) (([b],[b])::acc) K):Go1 P C ops (some d) (.call ⟨.value (.func f),xs,tys⟩) ty rest st acc K:=
 Go1.aau (cap:=[]) (pre:=[]) (out:=⟨.ptr b 0,[(b,.ent (.abs A))]⟩) (fp:=[b]) hd rfl ha (by simpa using hc) (fun b e hb=>by cases hb) (fun b s hb=>by simp at hb;rw[hb.1];exact .inr hf) (fun b s hb=>by simp at hb;rw[hb.2];rfl) (fun b s hb=>by simp at hb;simp[hb.1])
  (fun i hi=>by
   left
   rcases hi with hi|⟨b,e,hb,hi⟩
   ·have:i=b:=by simpa[AV.ids,AV0.ids,Atom.ids]using hi
    subst this;exact⟨_,by simp;rfl⟩
   ·simp at hb;obtain⟨rfl,rfl⟩:=hb;cases hi) next
attribute [local irreducible] IntKind.wrap Go1 Reg WP aJ aN bF bD aM aA ak aj aT Sat
attribute [local irreducible] bK bO bM bS bN qv bZ mf PrP qOk zOk vP dx lz vF cq rqv dI aX bG aV dN jn sq aW qS zS tS tbS plS mdS fT jw nmC
section
variable{B:Nat}{n m:Nd}{v:Vl}{k:Nat}{nm:Nms}{la:Vl}{tx:List UInt8}
theorem ST.set(hop:n.op=18){r:List Nd}(hk:n.kids=m::r)(h:EX B nm m k v):ST B n (k+1) (nm,la,tx) (jw nm n.text v,la,tx):=fun F hF=>by
 obtain⟨u,hu⟩:∃u,u=wrt tx:=⟨_,rfl⟩;have c1:=nR (F+k) B nm u la tx zE
 have cE:=h F u la tx zE
 obtain⟨h0,hl⟩:=aiY hk
 dsimp only
 rw[show F+(k+1)=F+k+1 from rfl,ac1]
 refine aj.fnA func164 results164 ntmps164 rfl rfl rfl rfl rfl rfl rfl rfl fun _ _ B _ _=>?_
 refine abl rfl rfl rfl rfl rfl ?_;rw[<-hu];cases u <;> (
  refine zg ?_;refine aM.le (adk (nm:=jw nm n.text v) hu rfl (by rw[arw];rfl) rfl) ?_
  exact gG (xs:=[]) trivial ⟨rfl,trivial⟩
 )
theorem ST.show(hop:n.op=19){r:List Nd}(hk:n.kids=m::r)(h:EX B nm m k v){s:List UInt8}(cP:ah prog 399 [.agg (vlA v)] (.tup [.one (.c (.val (str s))),eNo 0]))(hl:tx.length+s.length+1<=100000):ST B n (k+1) (nm,la,tx) (nm,v,tx++(s++[10])):=fun F hF=>by
 have c1:=arR (F+k) B nm la tx zE
 have cE:=h.mach F la tx zE
 have cS:=avm F B nm la tx cP hl;obtain⟨h0,hl⟩:=aiY hk
 dsimp only
 rw[show F+(k+1)=F+k+1 from rfl,ac1]
 refine aj.fnA func164 results164 ntmps164 rfl rfl rfl rfl rfl rfl rfl rfl fun _ _ B _ _=>?_
 refine zg ?_;exact gG (xs:=[]) trivial ⟨rfl,trivial⟩
end
theorem arf(Bt:Nat)(ns:List Nd)(ks:List Nat)(σ:Nat->Ms)(hk:ks.length=ns.length)(hl:ns.length<=100000)(h:∀(i:Nat) n k,ns[i]? =some n->ks[i]? =some k->ST Bt n k (σ i) (σ (i+1))):BL Bt ns ks.sum (σ 0) (σ ns.length):=fun F hF=>by
 refine aj.fnA func78 results78 ntmps78 rfl rfl rfl rfl rfl rfl rfl rfl fun _ _ _ _ _=>?_
 refine zg ?_;refine W.nZ (fun k fu=>k<=ns.length/\fu=F+(ks.drop k).sum) (fun k fu=>[(0,.ptr 81 0),(6,.r (aB 3 ndE ns)),(7,.v (.int .i64 (ns.length:Int))),(8,.v (.int .i64 (k:Int)))]) (fun k fu=>[(81,.abs (rR fu Bt (σ k).1 (σ k).2.1 (σ k).2.2))]) (fun k _=>ns.length - k) 0 (F+ks.sum) ⟨zq8 _,rfl⟩ (fun k fu ⟨hkn,hfu⟩=>?_)
  (by
   refine St.bV [] (by intro b h;exact SX.dX h rfl) ?_ ?_ rfl
   ·exact ya
   ·exact⟨ay.same rfl rfl,trivial⟩)
 by_cases hlt:k < ns.length
 ·obtain⟨n,hn⟩:∃n,ns[k]? =some n:=⟨_,zyh hlt⟩
  obtain⟨c,hc⟩:∃c,ks[k]? =some c:=⟨_,zyh zE⟩
  have hsum:(ks.drop k).sum=c+(ks.drop (k+1)).sum:=by
   obtain⟨hk2,e⟩:=zxg.1 hc
   rw[zy4 hk2,e,List.sum_cons]
  have hle:(ks.drop k).sum<=ks.sum:=by
   conv=>rhs;rw[<-zv5 k ks,List.sum_append]
   omega
  obtain⟨f',rfl⟩:∃f',fu=f'+c:=⟨F+(ks.drop (k+1)).sum,zE⟩
  have cS:=h k n c hn hc f' zE
  refine zg ?_;refine W.nM (k+1) f' ⟨hlt,zE⟩ zE (by
   refine St.bV [] (by intro b h;exact SX.dX h rfl) ?_ ?_ rfl
   ·exact ya
   ·exact⟨ay.same rfl rfl,trivial⟩)
 ·obtain rfl:k=ns.length:=zE
  rw[List.drop_of_length_le zE,List.sum_nil]at hfu
  subst hfu;refine zg ?_;exact gG (xs:=[]) trivial ⟨rfl,trivial⟩
abbrev ahH(F B D:Nat):List Atom:=[.c (.val (.int .i64 (F:Int))),.c (.val (.int .i64 (B:Int))),.c (.val (.int .i64 (D:Int)))]
theorem asD(F B D:Nat)(h:D<=200):ah prog 75 [.agg (ahH F B D)] (.v (.bool true)):=by
 have hd:decide ((D:Int)<=200)=true:=decide_eq_true zE
 refine ah.fq func75 results75 ntmps75 fun _ _ B _ _=>?_
 refine zg ?_;exact bf hd
theorem agG{F B D:Nat}(hD:D<=200){s:List UInt8}{ts:List Tok}{l:List Nd}{p:Nat}(hs:s.length<=20000)(hL:adC s=(ts,0,0))(hts:ts.length<=1000000/\∀t∈ts,t.text.length<=9223372036854775807)(hP:uP ts D=(l,p,0)):ah prog 50 [.v (str s),.agg (ahH F B D)] (.tup [.one (.c (.sat (aB 3 ndC l))),eNo 0]):=by
 have cM:=asD F B D hD;have cL:=(asL s).h zE
 rw[hL]at cL;have cP:=ahn hts.1 hts.2 hP;refine ah.fq func50 results50 ntmps50 fun _ _ B _ _=>?_
 refine zg ?_;exact .ok (aA.mk2 (ak.tmp rfl) (ak.tmp rfl))
theorem akJ{F Bt D k:Nat}{l:List Nd}{σ:Ms}(h:BL Bt l k ([],v0,[]) σ)(hF:F+k<=1000000000):aj prog 51 [.r (aB 3 ndE l),.agg (ahH (F+k) Bt D)] [] ⟨.ptr 81 0,MQ F Bt σ.1 σ.2.1 σ.2.2⟩:=by
 have n81:Named 12 81:=⟨⟩;have cB:=h F hF;refine aj.fnA func51 results51 ntmps51 rfl rfl rfl rfl rfl rfl rfl rfl fun _ _ B _ _=>?_
 refine W.meet [(0,.r (aB 3 ndE l)),(3,.ptr 3 0)] [(3,.box 64 (ahH (F+k) Bt D))] ?_ ?_
 ·refine zg ?_;exact W.le
 refine W.meet [(0,.r (aB 3 ndE l)),(5,.ptr 81 0)] [(81,.abs (rR (F+k) Bt [] v0 []))] ?_ ?_
 ·refine zg ?_;refine St.ajh (aaY (F:=F+k) (B:=Bt) (nm:=[]) (la:=v0) (tx:=[]) [(82,some 10),(84,none)] [10] rfl ⟨S21,S21,aD.own rfl,S21,aD.nil rfl,S21,S21,aD.ofI aF.qU,S21,aD.ofI aF.qU,S21,S21,aD.ofI aF.nil,aD.ofI aF.nil,S21,S21,S21,aD.ofI aF.nil,aD.ofI aF.nil,aD.ofI aF.nil,S21,trivial⟩ ⟨ay.abs (by rw[ar2];rfl) rfl rfl,ay.dZ rfl,trivial⟩ rfl rfl rfl) ?_
  exact W.le
 refine zg ?_;exact gG (xs:=[.one (.ptr 81 0)]) ⟨ak.tmp rfl,trivial⟩ ⟨rfl,trivial⟩
theorem ar6{F B D k:Nat}{s:List UInt8}{l:List Nd}{σ:Ms}(cp:ah prog 50 [.v (str s),.agg (ahH (F+k) B D)] (.tup [.one (.c (.sat (aB 3 ndC l))),eNo 0]))(h:BL B l k ([],v0,[]) σ)(hF:F+k<=1000000000)(h0:σ.2.2≠[]):
  ah prog 20 [.v (str s),.agg (ahH (F+k) B D)] (.tup [.one (.c (.val (str σ.2.2))),eNo 0]):=by
 rw[show ndC=ndE from funext aI]at cp
 have cs:=akJ (D:=D) h hF;have cS:=alB F B σ.1 σ.2.1 σ.2.2 h0;refine ah.fq func20 results20 ntmps20 fun _ _ B _ _=>?_
 refine zg ?_;refine as2 cs rfl rfl rfl ?_;refine zg ?_;exact .ok (aA.mk2 (ak.tmp rfl) (ak.tmp rfl))
end
