import Derived.Test.YtcamgbgfelmbaaaGreatDoorO6
import Derived.Test.YtcamgbgfelmbaaaGreatDoorO7
import Derived.Test.YtcamgbgfelmbaaaGreatDoorO3
set_option linter.all false
open Go.Proofs.Tryz
namespace Go.Proofs.YtcamgbgfelmbaaaGreatDoor
open Go.RowKit QM SX LA
variable{u:Bool}{C:SX.Ctx}{f:Go.FuncId}{ao:List SX.AV}{s t tx:List UInt8}{B D F b k:Nat}{P:Go.Program}{st:SX.St}{a la v:Vl}
section
abbrev wO(bs:List UInt8):Ent:= .row 5 1 bs.length (bs.flatMap kY)
def aiO:Bool->Atom
 |true=> .ptr 81 3
 |false=> .c (.val (.pointer none))
abbrev mB(F B:Nat)(u:Bool)(la:Vl):List Atom:=[.c (.val (.int .i64 (F:Int))),.c (.val (.int .i64 (B:Int))),.own 82,aiO u,.own 84,.c (.val (.int .i64 la.k)),.c (.val (.bool la.q.1)),.c (.sat (dV la.q.2.1)),.c (.val (.bool la.q.2.2.1)),.c (.sat (dV la.q.2.2.2)),.c (.val (.int .i64 la.r)),.c (.val (.int .i64 la.c)),.c (.sat (aD 4 q4C (la.a.map rq))),.c (.sat (aD 2 z2C (la.po.map rz))),.c (.val (.int .u64 (la.p:Int))),.c (.val (.int .i64 la.fr)),.c (.val (.int .i64 la.fc)),.c (.sat (aD 1 wdC la.fa)),.c (.sat (aD 1 wdC la.ri)),.c (.sat (aD 15 vlC la.li)),.c (.val (.int .i64 0))]
abbrev MB(F B:Nat)(u:Bool)(la:Vl):Ent:= .box 79 (mB F B u la)
abbrev Nms:=List (List UInt8×Vl)
def nmC(nm:Nms):List (List UInt8×List CA):=nm.map fun p=>(p.1,vlE p.2)
abbrev ME(F B:Nat)(nm:Nms)(u:Bool)(la:Vl)(tx:List UInt8):List (Nat×Ent):=[(81,MB F B u la),(82,.abs (iW (nmC nm))),(84,wO tx)]
abbrev MO(F B:Nat)(nm:Nms)(u:Bool)(la:Vl)(tx:List UInt8):List (Nat×Slot):=[(81,.ent (MB F B u la)),(82,.ent (.abs (iW (nmC nm)))),(84,.ent (wO tx))]
attribute [local irreducible] IntKind.wrap Go1 Reg WP aK aN bD aZ aJ aA aj ak aT Sat
def asz(F Bt n:Nat)(nm:Nms)(u:Bool)(la:Vl)(tx:List UInt8)(h:F+n<=1000000000):ak prog 108 [.ptr 81 0,.v (.int .i64 (n:Int))] (ME (F+n) Bt nm u la tx) ⟨.v (.bool true),MO F Bt nm u la tx⟩:=by
 refine ak.fnM func108 results108 ntmps108 rfl rfl rfl rfl (by first|rfl|(cases u <;> rfl)) (by first|rfl|(cases u <;> rfl)) (by first|rfl|(cases u <;> rfl)) fun _ _ _ _ _=>?_
 refine zg ?_;have e:F+n - n=F:=zE
 refine gQ (xs:=[.one (.c (.val (.bool true)))]) ⟨aj.tmp rfl,trivial⟩ ⟨?_,rfl,rfl,trivial⟩;refine Eq.trans (b:=Slot.ent (Ent.box 79 (.c (.val (.int .i64 ((F+n - n:Nat):Int)))::(mB F Bt u la).tail))) rfl ?_;rw[e];rfl
def pI(F B:Nat)(nm:Nms)(u:Bool)(la:Vl)(tx:List UInt8)(h:F+1<=1000000000):ak prog 108 [.ptr 81 0,.v (.int .i64 1)] (ME (F+1) B nm u la tx) ⟨.v (.bool true),MO F B nm u la tx⟩:=asz F B 1 nm u la tx h
section
variable(v:Vl)
theorem apj(h:v.k=2)(hl:v.a.length<=1000000):ah prog 195 [.agg (vlA v)] (.v (.int .i64 (v.a.length:Int))):=by
 have e:(v.a.map rq).length=v.a.length:=zq5 _;refine ah.fq func195 ?_;intros
 refine zg ?_;refine dZ ?_;rw[e]
theorem apG(h:v.k=3)(hl:v.po.length<=1000000):ah prog 195 [.agg (vlA v)] (.v (.int .i64 (v.po.length:Int))):=by
 have e:(v.po.map rz).length=v.po.length:=zq5 _;refine ah.fq func195 ?_;intros
 refine zg ?_;refine dZ ?_;rw[e]
theorem aoy(h:v.k=4)(hl:v.fa.length<=1000000):ah prog 195 [.agg (vlA v)] (.v (.int .i64 (v.fa.length:Int))):=by
 refine ah.fq func195 ?_;intros
 refine zg ?_;exact dZ rfl
theorem apK(h:v.k=5)(hl:v.ri.length<=1000000):ah prog 195 [.agg (vlA v)] (.v (.int .i64 (v.ri.length:Int))):=by
 refine ah.fq func195 ?_;intros
 refine zg ?_;exact dZ rfl
theorem mR(h:¬v.k=6):ah prog 193 [.agg (vlA v)] (.v (.int .i64 0)):=by
 refine ah.fq func193 ?_;intros
 refine zg ?_;exact dZ rfl
end
def aaj(v:Vl)(g:Vl->Nat)(h:¬v.k=2/\¬v.k=3/\¬v.k=4/\¬v.k=5)(hl:(v.li.map g).sum<=1000000)(hn:v.li.length<=1000000)(hx:∀x∈v.li,ah prog 195 [.agg (vlA x)] (.v (.int .i64 (g x:Int)))):
  ah prog 195 [.agg (vlA v)] (.v (.int .i64 ((1+(v.li.map g).sum:Nat):Int))):=by
 obtain⟨h2,h3,h4,h5⟩:=h;rw[anf];refine ah.fq func195 ?_;intros
 refine zg ?_;refine W.loop (fun k=>k<=v.li.length) (fun k=>[(3,.v (.int .i64 ((1+((v.li.take k).map g).sum:Nat):Int))),(31,.r (aD 15 vlE v.li)),(32,.v (.int .i64 (v.li.length:Int))),(33,.v (.int .i64 (k:Int)))]) (fun _=>[]) (fun k=>v.li.length - k) 0 (zq8 _) (fun k hk=>?_)
 by_cases hlt:k < v.li.length
 ·obtain⟨x,hx'⟩:∃x,v.li[k]? =some x:=⟨_,zyh hlt⟩
  have c:=hx x (zq4 hx');have e1:((v.li.take (k+1)).map g).sum=((v.li.take k).map g).sum+g x:=by rw[zw7,hx'];simp
  have e2:((v.li.take (k+1)).map g).sum<=(v.li.map g).sum:=by
   conv=>rhs;rw[<-zv5 (k+1) v.li,List.map_append,List.sum_append]
   omega
  refine zg ?_;exact W.next (k+1) hlt zE
 ·obtain rfl:k=v.li.length:=zE
  rw[zy8];refine zg ?_;exact dZ rfl
def aiq(v:Vl)(g:Vl->Nat)(h:v.k=6)(hl:v.li.length<=1000000)(hg:∀x∈v.li,g x<=100)(hx:∀x∈v.li,ah prog 193 [.agg (vlA x)] (.v (.int .i64 (g x:Int)))):
  ah prog 193 [.agg (vlA v)] (.v (.int .i64 ((1+(v.li.map g).foldl max 0:Nat):Int))):=by
 rw[anf];refine ah.fq func193 ?_;intros
 refine zg ?_;refine W.nu (fun k m=>k<=v.li.length/\m<=100/\m=((v.li.take k).map g).foldl max 0) (fun k m=>[(3,.v (.int .i64 (m:Int))),(10,.r (aD 15 vlE v.li)),(11,.v (.int .i64 (v.li.length:Int))),(12,.v (.int .i64 (k:Int)))]) (fun _ _=>[]) (fun k _=>v.li.length - k) 0 0 ⟨zq8 _,zq8 _,rfl⟩ (fun k m ⟨hk,hm,hmm⟩=>?_)
 by_cases hlt:k < v.li.length
 ·obtain⟨x,hx'⟩:∃x,v.li[k]? =some x:=⟨_,zyh hlt⟩
  have c:=hx x (zq4 hx');have hgx:=hg x (zq4 hx');have e1:((v.li.take (k+1)).map g).foldl max 0=max m (g x):=by rw[zw7,hx',hmm];simp
  refine zg ?_;exact W.mV (k+1) (max m (g x)) ⟨hlt,zE,e1.symm⟩ zE
 ·obtain rfl:k=v.li.length:=zE
  rw[zy8]at hmm;refine zg ?_;refine dZ ?_;rw[<-hmm]
end
section
abbrev ndM(n:Nd):List Atom:=[.c (.val (.int .i64 n.op)),.c (.val (str n.text)),.c (.sat (aD 3 ndE n.kids))]
def aex(n:Nd):AV.agg (ndA n)=AV.agg (ndM n):=by
 unfold ndA ndM;rw[show ndC=ndE from funext aI]
structure VI(B s:Nat)(v:Vl):Prop where
 n:∃d:Nat,d<=20/\ah prog 193 [.agg (vlA v)] (.v (.int .i64 (d:Int)))
 b:∃b:Nat,b<=B/\ah prog 194 [.agg (vlA v)] (.v (.int .i64 (b:Int)))
 s:ah prog 195 [.agg (vlA v)] (.v (.int .i64 (s:Int)))
def EX(B:Nat)(nm:Nms)(n:Nd)(k:Nat)(v:Vl):Prop:=∀F u la tx,F+k<=1000000000->ak prog 109 [.ptr 81 0,.agg (ndA n)] (ME (F+k) B nm u la tx) ⟨.agg (vlA v),MO F B nm u la tx⟩
def AL(B:Nat)(nm:Nms)(ns:List Nd)(k:Nat)(vs:List Vl):Prop:=∀F u la tx,F+k<=1000000000->ak prog 159 [.ptr 81 0,.r (aD 3 ndE ns)] (ME (F+k) B nm u la tx) ⟨.r (aD 15 vlE vs),MO F B nm u la tx⟩
def aqo{nm:Nms}(h:iC nm t=some v):iC (nmC nm) t=some (vlE v):=by
 induction nm with
 |nil=>cases h
 |cons p nm ih=>
  obtain⟨k,c⟩:=p;unfold iC at h;show (if t=k then some (vlE c)else iC (nmC nm) t)=_
  by_cases hk:t=k
  ·rw[if_pos hk]at h ⊢;cases h;rfl
  ·rw[if_neg hk]at h ⊢;exact ih h
def avV(nm:Nms)(t:List UInt8)(v:Vl):nmC (fP nm t v)=fP (nmC nm) t (vlE v):=by
 induction nm with
 |nil=>rfl
 |cons p nm ih=>
  obtain⟨k,c⟩:=p;show nmC (if t=k then(k,v)::nm else(k,c)::fP nm t v)=(if t=k then(k,vlE v)::nmC nm else(k,vlE c)::fP (nmC nm) t (vlE v))
  by_cases hk:t=k
  ·rw[if_pos hk,if_pos hk];rfl
  ·rw[if_neg hk,if_neg hk];show (k,vlE c)::nmC (fP nm t v)=_;rw[ih]
attribute [local irreducible] IntKind.wrap Go1 Reg WP aK aN bD aZ aJ aA aj ak aT Sat
attribute [local irreducible] iC fP nmC
def agv(F B s:Nat)(nm:Nms)(u:Bool)(la:Vl)(tx:List UInt8)(h:VI B s v)(hB:B<=1000000000)(hF:F+s<=1000000000):ak prog 155 [.ptr 81 0,.agg (vlA v),.v (.int .i64 0)] (ME (F+s) B nm u la tx) ⟨.agg (vlA v),MO F B nm u la tx⟩:=by
 obtain⟨⟨d,hd,cN⟩,⟨b,hb,cB⟩,cS⟩:=h;have cT:=asz F B s nm u la tx hF;cases u <;> (
  refine ak.fnM func155 results155 ntmps155 rfl rfl rfl rfl (by first|rfl|(cases u <;> rfl)) (by first|rfl|(cases u <;> rfl)) (by first|rfl|(cases u <;> rfl)) (fun w0 Tw Bw E0 hB=>?_)
  refine zg ?_;exact gQ (xs:=[.agg (vlA v)]) ⟨aj.fC rfl rfl rfl,trivial⟩ ⟨rfl,rfl,rfl,trivial⟩
 )
def avR(F B:Nat){nm:Nms}(u:Bool)(la:Vl)(tx:List UInt8)(h:iC (nmC nm) t=some (vlE v)):ak prog 157 [.ptr 81 0,.v (str t)] (ME F B nm u la tx) ⟨.tup [.agg (vlA v),eNo 0],MO F B nm u la tx⟩:=by
 refine ak.fnM func157 results157 ntmps157 rfl rfl rfl rfl (by first|rfl|(cases u <;> rfl)) (by first|rfl|(cases u <;> rfl)) (by first|rfl|(cases u <;> rfl)) (fun w0 Tw Bw E0 hB=>?_)
 refine zg ?_;exact gQ (xs:=[.agg (vlA v),eNo 0]) ⟨aj.fC rfl rfl rfl,aj.tmp rfl,trivial⟩ ⟨rfl,rfl,rfl,trivial⟩
def apO(B:Nat)(nm:Nms)(ns:List Nd)(ks:List Nat)(vs:List Vl)(hk:ks.length=ns.length)(hv:vs.length=ns.length)(hl:ns.length<=100000)
  (h:∀(i:Nat) n k v,ns[i]? =some n->ks[i]? =some k->vs[i]? =some v->EX B nm n k v):AL B nm ns ks.sum vs:=fun F u la tx hF=>by
 cases u with
 |false=>
  refine ak.fnM func159 results159 ntmps159 rfl rfl rfl rfl (by first|rfl|(cases u <;> rfl)) (by first|rfl|(cases u <;> rfl)) (by first|rfl|(cases u <;> rfl)) (fun w0 Tw Bw E0 hB=>?_)
  refine zg ?_;refine W.nu (fun k fu=>k<=ns.length/\fu=F+(ks.drop k).sum) (fun k fu=>[(0,.ptr 81 0),(5,.own 100),(8,.r (aD 3 ndE ns)),(9,.v (.int .i64 (ns.length:Int))),(10,.v (.int .i64 (k:Int)))]) (fun k fu=>[(81,MB fu B false la),(82,.abs (iW (nmC nm))),(84,wO tx),(100,.row 61 15 k ((vs.take k).flatMap vlE))]) (fun k _=>ns.length - k) 0 (F+ks.sum) ⟨zq8 _,rfl⟩ (fun k fu ⟨hkn,hfu⟩=>?_)
   (by
    refine St.aS [(100,none)] (by intro b h;exact SX.dB h rfl) ?_ ?_ rfl
    ·exact yk
    ·exact⟨ay.same rfl rfl,ay.same rfl rfl,ay.same rfl rfl,ay.dw rfl,trivial⟩)
  by_cases hlt:k < ns.length
  ·obtain⟨n,hn⟩:∃n,ns[k]? =some n:=⟨_,zyh hlt⟩
   obtain⟨c,hc⟩:∃c,ks[k]? =some c:=⟨_,zyh zE⟩
   obtain⟨v,hvk⟩:∃v,vs[k]? =some v:=⟨_,zyh zE⟩
   have hsum:(ks.drop k).sum=c+(ks.drop (k+1)).sum:=by
    obtain⟨hk2,e⟩:=zxg.1 hc
    rw[zy4 hk2,e,List.sum_cons]
   have hle:(ks.drop k).sum<=ks.sum:=by
    conv=>rhs;rw[<-zv5 k ks,List.sum_append]
    omega
   obtain⟨f',rfl⟩:∃f',fu=f'+c:=⟨F+(ks.drop (k+1)).sum,zE⟩
   have cE:=h k n c v hn hc hvk f' false la tx zE
   have e2:(vs.take k).flatMap vlE++vlE v=(vs.take (k+1)).flatMap vlE:=by rw[lQ hvk];simp
   refine zg ?_;refine W.mV (k+1) f' ⟨hlt,zE⟩ zE (by
    refine St.aS [(100,some 19)] (by intro b h;exact SX.dB h rfl) ?_ ?_ rfl
    ·exact ye
    ·exact⟨ay.same rfl rfl,ay.same rfl rfl,ay.same rfl rfl,ay.row rfl rfl rfl e2,trivial⟩)
  ·obtain rfl:k=vs.length:=zE
   rw[List.drop_of_length_le zE,List.sum_nil]at hfu
   subst hfu;rw[zy8];refine zg ?_;refine aJ.frzM 100 hB rfl rfl rfl rfl ?_;exact gQ (xs:=[.one (.c (.sat (aD 15 vlE vs)))]) ⟨aj.tmp rfl,trivial⟩ ⟨rfl,rfl,rfl,trivial⟩
 |true=>
  refine ak.fnM func159 results159 ntmps159 rfl rfl rfl rfl (by first|rfl|(cases u <;> rfl)) (by first|rfl|(cases u <;> rfl)) (by first|rfl|(cases u <;> rfl)) (fun w0 Tw Bw E0 hB=>?_)
  refine zg ?_;refine W.nu (fun k fu=>k<=ns.length/\fu=F+(ks.drop k).sum) (fun k fu=>[(0,.ptr 81 0),(5,.own 100),(8,.r (aD 3 ndE ns)),(9,.v (.int .i64 (ns.length:Int))),(10,.v (.int .i64 (k:Int)))]) (fun k fu=>[(81,MB fu B true la),(82,.abs (iW (nmC nm))),(84,wO tx),(100,.row 61 15 k ((vs.take k).flatMap vlE))]) (fun k _=>ns.length - k) 0 (F+ks.sum) ⟨zq8 _,rfl⟩ (fun k fu ⟨hkn,hfu⟩=>?_)
   (by
    refine St.aS [(100,none)] (by intro b h;exact SX.dB h rfl) ?_ ?_ rfl
    ·exact yk
    ·exact⟨ay.same rfl rfl,ay.same rfl rfl,ay.same rfl rfl,ay.dw rfl,trivial⟩)
  by_cases hlt:k < ns.length
  ·obtain⟨n,hn⟩:∃n,ns[k]? =some n:=⟨_,zyh hlt⟩
   obtain⟨c,hc⟩:∃c,ks[k]? =some c:=⟨_,zyh zE⟩
   obtain⟨v,hvk⟩:∃v,vs[k]? =some v:=⟨_,zyh zE⟩
   have hsum:(ks.drop k).sum=c+(ks.drop (k+1)).sum:=by
    obtain⟨hk2,e⟩:=zxg.1 hc
    rw[zy4 hk2,e,List.sum_cons]
   have hle:(ks.drop k).sum<=ks.sum:=by
    conv=>rhs;rw[<-zv5 k ks,List.sum_append]
    omega
   obtain⟨f',rfl⟩:∃f',fu=f'+c:=⟨F+(ks.drop (k+1)).sum,zE⟩
   have cE:=h k n c v hn hc hvk f' true la tx zE
   have e2:(vs.take k).flatMap vlE++vlE v=(vs.take (k+1)).flatMap vlE:=by rw[lQ hvk];simp
   refine zg ?_;refine W.mV (k+1) f' ⟨hlt,zE⟩ zE (by
    refine St.aS [(100,some 19)] (by intro b h;exact SX.dB h rfl) ?_ ?_ rfl
    ·exact ye
    ·exact⟨ay.same rfl rfl,ay.same rfl rfl,ay.same rfl rfl,ay.row rfl rfl rfl e2,trivial⟩)
  ·obtain rfl:k=vs.length:=zE
   rw[List.drop_of_length_le zE,List.sum_nil]at hfu
   subst hfu;rw[zy8];refine zg ?_;refine aJ.frzM 100 hB rfl rfl rfl rfl ?_;exact gQ (xs:=[.one (.c (.sat (aD 15 vlE vs)))]) ⟨aj.tmp rfl,trivial⟩ ⟨rfl,rfl,rfl,trivial⟩
section
variable{B:Nat}{nm:Nms}{n:Nd}{v:Vl}{s:Nat}(hB0:B<=1000000000)
include hB0
theorem EX.num(hop:n.op=1){z:Nat}(cP:ah prog 154 [.v (str n.text)] (.tup [.agg (zN z),.one (.c (.val (.bool true)))]))(cW:ah prog 156 [.agg (zN z)] (.agg (vlA v)))(hv:VI B s v):EX B nm n (s+1) v:=fun F u la tx hF=>by
 have c1:=pI (F+s) B nm u la tx zE
 have c2:=agv F B s nm u la tx hv hB0 zE
 rw[show F+(s+1)=F+s+1 from rfl,aex]
 cases u <;> (
  refine ak.fnM func109 results109 ntmps109 rfl rfl rfl rfl (by first|rfl|(cases u <;> rfl)) (by first|rfl|(cases u <;> rfl)) (by first|rfl|(cases u <;> rfl)) (fun w0 Tw Bw E0 hB=>?_)
  refine zg ?_;exact gQ (xs:=[.agg (vlA v)]) ⟨aj.fC rfl rfl rfl,trivial⟩ ⟨rfl,rfl,rfl,trivial⟩
 )
theorem EX.name(hop:n.op=2)(hl:iC nm n.text=some v)(hv:VI B s v):EX B nm n (s+1) v:=fun F u la tx hF=>by
 have c1:=pI (F+s) B nm u la tx zE
 have c2:=agv F B s nm u la tx hv hB0 zE
 have c3:=avR (F+s) B u la tx (aqo hl);rw[show F+(s+1)=F+s+1 from rfl,aex]
 cases u <;> (
  refine ak.fnM func109 results109 ntmps109 rfl rfl rfl rfl (by first|rfl|(cases u <;> rfl)) (by first|rfl|(cases u <;> rfl)) (by first|rfl|(cases u <;> rfl)) (fun w0 Tw Bw E0 hB=>?_)
  refine zg ?_;exact gQ (xs:=[.agg (vlA v)]) ⟨aj.fC rfl rfl rfl,trivial⟩ ⟨rfl,rfl,rfl,trivial⟩
 )
theorem EX.opr(hop:¬n.op=1/\¬n.op=2/\¬n.op=14){vs:List Vl}(hA:AL B nm n.kids k vs)(cO:ah prog 160 [.agg (ndM n),.r (aD 15 vlE vs)] (.tup [.agg (vlA v),eNo 0]))(hv:VI B s v):EX B nm n (s+k+1) v:=fun F u la tx hF=>by
 obtain⟨h1,h2,h3⟩:=hop;have c1:=pI (F+s+k) B nm u la tx zE
 have cA:=hA (F+s) u la tx zE
 have c2:=agv F B s nm u la tx hv hB0 zE
 rw[show F+(s+k+1)=F+s+k+1 by omega,aex]
 cases u <;> (
  refine ak.fnM func109 results109 ntmps109 rfl rfl rfl rfl (by first|rfl|(cases u <;> rfl)) (by first|rfl|(cases u <;> rfl)) (by first|rfl|(cases u <;> rfl)) (fun w0 Tw Bw E0 hB=>?_)
  refine zg ?_;exact gQ (xs:=[.agg (vlA v)]) ⟨aj.fC rfl rfl rfl,trivial⟩ ⟨rfl,rfl,rfl,trivial⟩
 )
theorem EX.mat(hop:n.op=14)(hR:∀F u la tx,F+k<=1000000000->ak prog 158 [.ptr 81 0,.r (aD 3 ndE n.kids)] (ME (F+k) B nm u la tx) ⟨.tup [.agg (vlA v),eNo 0],MO F B nm u la tx⟩)(hv:VI B s v):EX B nm n (s+k+1) v:=fun F u la tx hF=>by
 have c1:=pI (F+s+k) B nm u la tx zE
 have cA:=hR (F+s) u la tx zE
 have c2:=agv F B s nm u la tx hv hB0 zE
 rw[show F+(s+k+1)=F+s+k+1 by omega,aex]
 cases u <;> (
  refine ak.fnM func109 results109 ntmps109 rfl rfl rfl rfl (by first|rfl|(cases u <;> rfl)) (by first|rfl|(cases u <;> rfl)) (by first|rfl|(cases u <;> rfl)) (fun w0 Tw Bw E0 hB=>?_)
  refine zg ?_;exact gQ (xs:=[.agg (vlA v)]) ⟨aj.fC rfl rfl rfl,trivial⟩ ⟨rfl,rfl,rfl,trivial⟩
 )
end
section
variable{n:Nd}{v:Vl}
def as2(hop:n.op=3)(c:ah prog 198 [.v (.int .i64 3),.agg (vlA a)] (.tup [.agg (vlA v),eNo 0])):ah prog 160 [.agg (ndM n),.r (aD 15 vlE [a])] (.tup [.agg (vlA v),eNo 0]):=by
 have ha:[a][0]? =some a:=rfl;rw[<-hop]at c;refine ah.fq func160 ?_;intros
 refine zg ?_;exact .ok (aA.mk2 aj.fC (aj.tmp rfl))
def nO(hop:n.op=13){vs:List Vl}(c:ah prog 199 [.v (str n.text),.r (aD 15 vlE vs)] (.tup [.agg (vlA v),eNo 0])):ah prog 160 [.agg (ndM n),.r (aD 15 vlE vs)] (.tup [.agg (vlA v),eNo 0]):=by
 refine ah.fq func160 ?_;intros
 refine zg ?_;exact .ok (aA.mk2 aj.fC (aj.tmp rfl))
def ad8(hop:4<=n.op/\n.op<=12){b:Vl}(c:ah prog 201 [.v (.int .i64 n.op),.agg (vlA a),.agg (vlA b)] (.tup [.agg (vlA v),eNo 0])):ah prog 160 [.agg (ndM n),.r (aD 15 vlE [a,b])] (.tup [.agg (vlA v),eNo 0]):=by
 have ha:[a,b][0]? =some a:=rfl;have hb:[a,b][1]? =some b:=rfl;refine ah.fq func160 ?_;intros
 refine zg ?_;exact .ok (aA.mk2 aj.fC (aj.tmp rfl))
end
end
section
def ayQ(bs s:List UInt8):bs.length+s.length=(bs++s).length:=List.length_append.symm
def azv(bs s:List UInt8):bs.flatMap kY++s.flatMap kY=(bs++s).flatMap kY:=List.flatMap_append.symm
abbrev wrt(tx:List UInt8):Bool:=!tx.isEmpty
def um(F B:Nat)(nm:Nms)(la:Vl)(tx:List UInt8):kL:=oO 81 (fun _:Unit=>True) 79 (fun _=>mB F B (wrt tx) la) (fun _=>[(82,.abs (iW (nmC nm))),(84,wO tx)])
def ayp{i:Nat}(h:i∈(mB F B u la).flatMap Atom.ids):i=82\/i=81\/i=84:=by
 cases u
 ·have h':i=82\/i=84:=by simpa[aiO,Atom.ids]using h
  rcases h' with h'|h'
  ·exact .inl h'
  ·exact .inr (.inr h')
 ·have h':i=82\/i=81\/i=84:=by simpa[aiO,Atom.ids]using h
  exact h'
def acd{Q:Exit->St->Prop}{cd:Code}{nm:Nms}(hb:st.hp 81= .ent (.abs (um F B nm la tx)))(h1:st.hp 82= .free)(h2:st.hp 84= .free)(f1:C.fix 82=false)(f2:C.fix 84=false)(h:WP P C cd (xG st 81 79 (mB F B (wrt tx) la) [(82,.abs (iW (nmC nm))),(84,wO tx)]) Q):WP P C cd st Q:=
 WP.aiZ (ι:=Unit) (b:=81) [82,84] hb (fun p=>rfl) (by intro i hi;simp at hi;rcases hi with rfl|rfl <;> assumption) (by intro i hi;simp at hi;rcases hi with rfl|rfl <;> assumption)
  (by
   intro p i hi;rcases ayp hi with rfl|rfl|rfl <;> simp)
  (by intro p i e he;simp at he;rcases he with⟨rfl,rfl⟩|⟨rfl,rfl⟩ <;> rfl) (fun p hp=>h)
def ahY{ρ:List (Nat×Option Nat)}{u':Bool}(e:u=u')(h:fresh ρ [81]=true):aB ρ (aiO u) (aiO u'):=by
 subst e;cases u
 ·exact aB.same rfl
 ·exact aB.same h
def adb{nm:Nms}{cells0:List Atom}(ρ:List (Nat×Option Nat))(os:List Nat)(hb:st.hp 81= .ent (.box 79 cells0))(hc:pF ρ cells0 (mB F B (wrt tx) la))(hR:acQ st ρ [(82,.abs (iW (nmC nm))),(84,wO tx)])(hos:(([(82,.abs (iW (nmC nm))),(84,wO tx)]:List (Nat×Ent)).all fun q=>match SX.src ρ q.1 with|some o=>jw os o|none=>true)=true)(hbo:jw os 81=false)(hdi:(([(82,.abs (iW (nmC nm))),(84,wO tx)]:List (Nat×Ent)).all fun q=>([(82,.abs (iW (nmC nm))),(84,wO tx)]:List (Nat×Ent)).all fun q'=>Nat.beq q.1 q'.1||!(eqO (SX.src ρ q.1) (SX.src ρ q'.1)))=true)(hfb:lk ρ 81=none:=by rfl):St.le C st (nP st 81 (um F B nm la tx) os):=
 St.acL (ι:=Unit) (b:=81) () ρ os trivial hb hc hR hos hbo hdi hfb
abbrev S21{ρ:List (Nat×Option Nat)}{x:Atom}(h:fresh ρ x.ids=true:=by rfl):aB ρ x x:=aB.same h
def ag4{nm:Nms}(hu:u=wrt tx)(hb:st.hp 81= .ent (MB F B u la))(h2:st.hp 82= .ent (.abs (iW (nmC nm))))(h4:st.hp 84= .ent (wO tx)):St.le C st (nP st 81 (um F B nm la tx) [82,84]):=
 adb [] [82,84] hb ⟨S21,S21,S21,ahY hu rfl,S21,S21,S21,S21,S21,S21,S21,S21,S21,S21,S21,S21,S21,S21,S21,S21,S21,trivial⟩ ⟨ay.same h2 rfl,ay.same h4 rfl,trivial⟩ rfl rfl rfl
abbrev MP(F B:Nat)(nm:Nms)(la:Vl)(tx:List UInt8):List (Nat×Ent):=[(81,.abs (um F B nm la tx))]
abbrev MQ(F B:Nat)(nm:Nms)(la:Vl)(tx:List UInt8):List (Nat×Slot):=[(81,.ent (.abs (um F B nm la tx)))]
def ak.mach{r:AV}{F':Nat}{nm nm':Nms}{la':Vl}(h:ak prog f ao (ME F B nm (wrt tx) la tx) ⟨r,MO F' B nm' (wrt tx) la' tx⟩)(hargs:∀v∈ao,∀i∈v.ids,i=81)(hr:r.ids=[]):
  ak prog f ao (MP F B nm la tx) ⟨r,MQ F' B nm' la' tx⟩:=
 ak.bun (R:=[(82,.abs (iW (nmC nm))),(84,wO tx)]) (R':=[(82,.abs (iW (nmC nm'))),(84,wO tx)]) h hargs hr (by intro e he;simp at he)
def args1{a:AV}(h:a.ids=[]):∀v∈[AV.ptr 81 0,a],∀i∈v.ids,i=81:=by
 intro v hv i hi;simp at hv
 rcases hv with rfl|rfl
 ·simpa[AV.ids,AV0.ids,Atom.ids]using hi
 ·rw[h]at hi;cases hi
def EX.mach{B:Nat}{nm:Nms}{n:Nd}{k:Nat}{v:Vl}(h:EX B nm n k v)(F:Nat)(la:Vl)(tx:List UInt8)(hF:F+k<=1000000000):ak prog 109 [.ptr 81 0,.agg (ndA n)] (MP (F+k) B nm la tx) ⟨.agg (vlA v),MQ F B nm la tx⟩:=
 ak.mach (h F (wrt tx) la tx hF) (args1 rfl) rfl
def axd(F B:Nat)(nm:Nms)(la:Vl)(tx:List UInt8)(h:F+1<=1000000000):ak prog 108 [.ptr 81 0,.v (.int .i64 1)] (MP (F+1) B nm la tx) ⟨.v (.bool true),MQ F B nm la tx⟩:=
 ak.mach (pI F B nm (wrt tx) la tx h) (args1 rfl) rfl
def St.auu{t:TypeId}{ag:List Atom}(hb:st.hp b= .ent (.box t ag)):St.le C st ⟨st.tm,upd st.hp b .gone⟩:=fun a w ⟨E,S,hs⟩=>by
 have hu:∀i,(st.hp i).used=true->(upd st.hp b .gone i).used=true:=fun i hi=>by
  by_cases e:i=b
  ·subst e;rw[upd_same];rfl
  ·rw[upd_ne _ _ e];exact hi
 have hk:∀c e,upd st.hp b .gone c= .ent e->st.hp c= .ent e:=fun c e hc=>by
  by_cases e1:c=b
  ·subst e1;rw[upd_same]at hc;cases hc
  ·rw[upd_ne _ _ e1]at hc;exact hc
 exact⟨E,S,{dfr:=hs.dfr,nt:=hs.nt,cT:=hs.cT,cT0:=hs.cT0,cS:=hs.cS,lt:=hs.lt,tm:=hs.tm,tid:=fun t v h i hi=>hu i (hs.tid t v h i hi),hp:=fun c e hc=>hs.hp c e (hk c e hc),aq:=fun c e hc i hi=>hu i (hs.aq c e (hk c e hc) i hi),blk:=fun c e k hc=>hs.blk c e k (hk c e hc),sep:=fun c c' e e' k hne hc hc'=>hs.sep c c' e e' k hne (hk c e hc) (hk c' e' hc'),off:=hs.off,env:=fun c hc=>let⟨g1,g2,g3⟩:=hs.env c hc;⟨g1,g2,hu c g3⟩,gl:=hs.gl}⟩
def ayX(v:Value)(w:World):(callFunc 204 #[v]).run prog w= .ok (.value v) w:=by
 rw[run_callFunc_extern func204 yW yW yW (e:=Extern.AbiNoEscape.same) yW]
 rw[Lib.run_noEscape];rfl
def St.amb{a b c:St}(h:St.le C a b)(k:St.le C b c):St.le C a c:=fun x w hs=>k x w (h x w hs)
attribute [local irreducible] IntKind.wrap Go1 Reg WP aK aN bD aZ aJ aA aj ak aT Sat
attribute [local irreducible] nmC
def avT(F B:Nat)(nm:Nms)(u:Bool)(la:Vl)(tx:List UInt8):ak prog 175 [.ptr 81 3] (ME F B nm u la tx) ⟨.tup [],MO F B nm true la tx⟩:=by
 cases u with
 |false=>
  refine ak.fnM func175 results175 ntmps175 rfl rfl rfl rfl (by first|rfl|(cases u <;> rfl)) (by first|rfl|(cases u <;> rfl)) (by first|rfl|(cases u <;> rfl)) (fun w0 Tw Bw E0 hB=>?_)
  refine zg ?_;refine SX.Go1.aq5 (b:=81) (off:=3) rfl ayX rfl ?_;refine zg ?_;refine SX.Go1.azZ (m:=21) rfl rfl rfl rfl yW ?_
  refine zg ?_;exact gQ (xs:=[]) trivial ⟨rfl,rfl,rfl,trivial⟩
 |true=>
  refine ak.fnM func175 results175 ntmps175 rfl rfl rfl rfl (by first|rfl|(cases u <;> rfl)) (by first|rfl|(cases u <;> rfl)) (by first|rfl|(cases u <;> rfl)) (fun w0 Tw Bw E0 hB=>?_)
  refine zg ?_;exact gQ (xs:=[]) trivial ⟨rfl,rfl,rfl,trivial⟩
def azb(F B:Nat)(nm:Nms)(la:Vl)(tx:List UInt8):ak prog 161 [.ptr 81 3] (MP F B nm la tx) ⟨.v (.int .i64 (tx.length:Int)),MQ F B nm la tx⟩:=by
 refine ak.fnA func161 results161 ntmps161 rfl rfl rfl rfl rfl rfl rfl rfl fun _ _ B _ _=>?_
 refine acd rfl rfl rfl rfl rfl ?_;refine zg ?_;refine aJ.le (ag4 rfl rfl rfl rfl) ?_;exact gQ (xs:=[.one (.c (.val (.int .i64 (tx.length:Int))))]) ⟨aj.tmp rfl,trivial⟩ ⟨rfl,trivial⟩
def aw7(tx s:List UInt8)(h:s≠[]):true=wrt (tx++s):=by
 cases tx <;> cases s <;> simp_all
def adH(F B:Nat)(nm:Nms)(la:Vl)(tx s:List UInt8)(h:tx.length+s.length<=1000000000)(hs:s≠[]):ak prog 126 [.ptr 81 3,.v (str s)] (MP F B nm la tx) ⟨.tup [.one (.c (.val (.int .i64 (s.length:Int)))),.one (.c (.val .nilIface))],MQ F B nm la (tx++s)⟩:=by
 have c:=avT F B nm (wrt tx) la tx;refine ak.fnA func126 results126 ntmps126 rfl rfl rfl rfl rfl rfl rfl rfl fun _ _ B _ _=>?_
 refine acd rfl rfl rfl rfl rfl ?_;generalize wrt tx=u at c ⊢;cases u <;> (
  refine zg ?_;refine aJ.le (adb (tx:=tx++s) [(84,some 14)] [82,14] rfl ⟨S21,S21,S21,ahY (aw7 tx s hs) rfl,aB.own rfl,S21,S21,S21,S21,S21,S21,S21,S21,S21,S21,S21,S21,S21,S21,S21,S21,trivial⟩ ⟨ay.same rfl rfl,ay.row rfl rfl (ayQ _ _) (azv _ _),trivial⟩ rfl rfl rfl) ?_;exact gQ (xs:=[.one (.c (.val (.int .i64 (s.length:Int)))),.one (.c (.val .nilIface))]) ⟨aj.tmp rfl,aj.tmp rfl,trivial⟩ ⟨rfl,trivial⟩
 )
def apb(F B:Nat)(nm:Nms)(la:Vl)(tx:List UInt8)(h0:tx≠[]):ak prog 24 [.ptr 81 3] (MP F B nm la tx) ⟨.v (str tx),[(81,.gone)]⟩:=by
 have hl:0 < tx.length:=by
  cases tx with
  |nil=>exact absurd rfl h0
  |cons=>simp
 refine ak.fnA func24 results24 ntmps24 rfl rfl rfl rfl rfl rfl rfl rfl fun _ _ B _ _=>?_
 refine acd rfl rfl rfl rfl rfl ?_;refine zg ?_;refine aJ.le (St.auu (b:=81) rfl) ?_;exact gQ (xs:=[.one (.c (.val (str tx)))]) ⟨aj.tmp rfl,trivial⟩ ⟨rfl,trivial⟩
def ayH(F Bt:Nat)(nm:Nms)(la:Vl)(tx:List UInt8)(cP:ah prog 27 [.agg (vlA v)] (.tup [.one (.c (.val (str s))),eNo 0]))(hl:tx.length+s.length+1<=100000):
  ak prog 110 [.ptr 81 0,.agg (vlA v)] (MP F Bt nm la tx) ⟨.tup [],MQ F Bt nm v (tx++(s++[10]))⟩:=by
 have cL:=azb F Bt nm la tx;have hsl:(s++[10]).length=s.length+1:=by simp
 have cW:=adH F Bt nm v tx (s++[10]) zE zp
 have hq:Hide (¬((tx.length:Int)+(s.length:Int)+1 > 100000)):=⟨zE⟩
 refine ak.fnA func110 results110 ntmps110 rfl rfl rfl rfl rfl rfl rfl rfl fun _ _ _ _ _=>?_
 refine W.meet [(0,.ptr 81 0),(3,.ptr 3 0)] [(3,.box 61 (vlA v)),(81,.abs (um F Bt nm la tx))] ?_ ?_
 ·refine zg ?_;exact W.le
 refine W.meet [(0,.ptr 81 0),(3,.ptr 3 0),(4,.v (str s)),(5,.v (.int .i64 0))] [(3,.box 61 (vlA v)),(81,.abs (um F Bt nm la tx))] ?_ ?_
 ·refine zg ?_;exact W.le
 refine W.meet [(0,.ptr 81 0),(3,.ptr 3 0),(4,.v (str s))] [(3,.box 61 (vlA v)),(81,.abs (um F Bt nm la tx))] ?_ ?_
 ·refine zg ?_;exact W.le
 refine acd rfl rfl rfl rfl rfl ?_;refine W.meet [(0,.ptr 81 0),(4,.v (str s))] [(81,.abs (um F Bt nm v tx))] ?_ ?_
 ·refine zg ?_;refine St.amb (ag4 (la:=v) rfl rfl rfl rfl) ?_;exact W.le
 refine zg ?_;exact gQ (xs:=[]) trivial ⟨rfl,trivial⟩
end
section
abbrev Ms:=Nms×Vl×List UInt8
def ST(B:Nat)(n:Nd)(k:Nat)(σ σ':Ms):Prop:=∀F,F+k<=1000000000->ak prog 66 [.ptr 81 0,.agg (ndA n)] (MP (F+k) B σ.1 σ.2.1 σ.2.2) ⟨.tup [],MQ F B σ'.1 σ'.2.1 σ'.2.2⟩
def BL(B:Nat)(ns:List Nd)(k:Nat)(σ σ':Ms):Prop:=∀F,F+k<=1000000000->ak prog 39 [.ptr 81 0,.r (aD 3 ndE ns)] (MP (F+k) B σ.1 σ.2.1 σ.2.2) ⟨.tup [],MQ F B σ'.1 σ'.2.1 σ'.2.2⟩
def aB.ofI{ρ:List (Nat×Option Nat)}{x y:CA}(h:aH (.c x) (.c y)):aB ρ (.c x) (.c y):=fun E S w v hv=>h (dX ρ E) S w v hv
def ang{α:Type}{l:List α}{m:α}{r:List α}(h:l=m::r):l[0]? =some m/\0 < l.length:=by subst h;exact⟨rfl,by simp⟩
def avH:nmC []=[]:=rfl
def av7{ae:List Oper}{aa:List Oper}{ab:_}{K:_}{d:Tmp}{ty:TypeId}{xs:Array Operand}{tys:Array TypeId}{A:kL}(hc:ak P f ao [] ⟨.ptr b 0,[(b,.ent (.abs A))]⟩)(ha:evs st xs.toList=some ao)(hd:aC (some d) C.nt=true)(hf:st.hp b= .free)(ai:Reg P C ae aa (st.app (some d) ⟨.ptr b 0,[(b,.ent (.abs A))]⟩) (([b],[b])::ab) K):Go1 P C ae (some d) (.call ⟨.value (.func f),xs,tys⟩) ty aa st ab K:=
 Go1.wG (am:=[]) (pre:=[]) (out:=⟨.ptr b 0,[(b,.ent (.abs A))]⟩) (fp:=[b]) hd rfl ha (by simpa using hc) (fun b e hb=>by cases hb) (fun b s hb=>by simp at hb;rw[hb.1];exact .inr hf) (fun b s hb=>by simp at hb;rw[hb.2];rfl) (fun b s hb=>by simp at hb;simp[hb.1])
  (fun i hi=>by
   left
   rcases hi with hi|⟨b,e,hb,hi⟩
   ·have:i=b:=by simpa[AV.ids,AV0.ids,Atom.ids]using hi
    subst this;exact⟨_,by simp;rfl⟩
   ·simp at hb;obtain⟨rfl,rfl⟩:=hb;cases hi) ai
attribute [local irreducible] IntKind.wrap Go1 Reg WP aK aN bD aZ aJ aA aj ak aT Sat
attribute [local irreducible] fP nmC
section
variable{B:Nat}{n m:Nd}{v:Vl}{k:Nat}{nm:Nms}{la:Vl}{tx:List UInt8}
def ST.set(hop:n.op=18){r:List Nd}(hk:n.kids=m::r)(h:EX B nm m k v):ST B n (k+1) (nm,la,tx) (fP nm n.text v,la,tx):=fun F hF=>by
 obtain⟨u,hu⟩:∃u,u=wrt tx:=⟨_,rfl⟩;have c1:=pI (F+k) B nm u la tx zE
 have cE:=h F u la tx zE
 obtain⟨h0,hl⟩:=ang hk
 dsimp only
 rw[show F+(k+1)=F+k+1 from rfl,aex]
 refine ak.fnA func66 results66 ntmps66 rfl rfl rfl rfl rfl rfl rfl rfl fun _ _ B _ _=>?_
 refine acd rfl rfl rfl rfl rfl ?_;rw[<-hu];cases u <;> (
  refine zg ?_;refine aJ.le (ag4 (nm:=fP nm n.text v) hu rfl (by rw[avV];rfl) rfl) ?_
  exact gQ (xs:=[]) trivial ⟨rfl,trivial⟩
 )
def ST.show(hop:n.op=19){r:List Nd}(hk:n.kids=m::r)(h:EX B nm m k v){s:List UInt8}(cP:ah prog 27 [.agg (vlA v)] (.tup [.one (.c (.val (str s))),eNo 0]))(hl:tx.length+s.length+1<=100000):ST B n (k+1) (nm,la,tx) (nm,v,tx++(s++[10])):=fun F hF=>by
 have c1:=axd (F+k) B nm la tx zE
 have cE:=h.mach F la tx zE
 have cS:=ayH F B nm la tx cP hl;obtain⟨h0,hl⟩:=ang hk
 dsimp only
 rw[show F+(k+1)=F+k+1 from rfl,aex]
 refine ak.fnA func66 results66 ntmps66 rfl rfl rfl rfl rfl rfl rfl rfl fun _ _ B _ _=>?_
 refine zg ?_;exact gQ (xs:=[]) trivial ⟨rfl,trivial⟩
end
def amc(Bt:Nat)(ns:List Nd)(ks:List Nat)(σ:Nat->Ms)(hk:ks.length=ns.length)(hl:ns.length<=100000)(h:∀(i:Nat) n k,ns[i]? =some n->ks[i]? =some k->ST Bt n k (σ i) (σ (i+1))):BL Bt ns ks.sum (σ 0) (σ ns.length):=fun F hF=>by
 refine ak.fnA func39 results39 ntmps39 rfl rfl rfl rfl rfl rfl rfl rfl fun _ _ _ _ _=>?_
 refine zg ?_;refine W.nu (fun k fu=>k<=ns.length/\fu=F+(ks.drop k).sum) (fun k fu=>[(0,.ptr 81 0),(6,.r (aD 3 ndE ns)),(7,.v (.int .i64 (ns.length:Int))),(8,.v (.int .i64 (k:Int)))]) (fun k fu=>[(81,.abs (um fu Bt (σ k).1 (σ k).2.1 (σ k).2.2))]) (fun k _=>ns.length - k) 0 (F+ks.sum) ⟨zq8 _,rfl⟩ (fun k fu ⟨hkn,hfu⟩=>?_)
  (by
   refine St.aS [] (by intro b h;exact SX.dB h rfl) ?_ ?_ rfl
   ·exact yd
   ·exact⟨ay.same rfl rfl,trivial⟩)
 by_cases hlt:k < ns.length
 ·obtain⟨n,hn⟩:∃n,ns[k]? =some n:=⟨_,zyh hlt⟩
  obtain⟨c,hc⟩:∃c,ks[k]? =some c:=⟨_,zyh zE⟩
  have hsum:(ks.drop k).sum=c+(ks.drop (k+1)).sum:=by
   obtain⟨hk2,e⟩:=zxg.1 hc
   rw[zy4 hk2,e,List.sum_cons]
  have hle:(ks.drop k).sum<=ks.sum:=by
   conv=>rhs;rw[<-zv5 k ks,List.sum_append]
   omega
  obtain⟨f',rfl⟩:∃f',fu=f'+c:=⟨F+(ks.drop (k+1)).sum,zE⟩
  have cS:=h k n c hn hc f' zE
  refine zg ?_;refine W.mV (k+1) f' ⟨hlt,zE⟩ zE (by
   refine St.aS [] (by intro b h;exact SX.dB h rfl) ?_ ?_ rfl
   ·exact yd
   ·exact⟨ay.same rfl rfl,trivial⟩)
 ·obtain rfl:k=ns.length:=zE
  rw[List.drop_of_length_le zE,List.sum_nil]at hfu
  subst hfu;refine zg ?_;exact gQ (xs:=[]) trivial ⟨rfl,trivial⟩
abbrev acX(F B D:Nat):List Atom:=[.c (.val (.int .i64 (F:Int))),.c (.val (.int .i64 (B:Int))),.c (.val (.int .i64 (D:Int)))]
def awl(F B D:Nat)(h:D<=200):ah prog 36 [.agg (acX F B D)] (.v (.bool true)):=by
 have hd:decide ((D:Int)<=200)=true:=decide_eq_true zE
 refine ah.fq func36 fun _ _ B _ _=>?_
 refine zg ?_;exact aU hd
def adn(hD:D<=200){ts:List Tok}{l:List Nd}{p:Nat}(hs:s.length<=20000)(hL:afD s=(ts,0,0))(hts:ts.length<=1000000/\∀t∈ts,t.text.length<=9223372036854775807)(hP:xE ts D=(l,p,0)):ah prog 22 [.v (str s),.agg (acX F B D)] (.tup [.one (.c (.sat (aD 3 ndC l))),eNo 0]):=by
 have cM:=awl F B D hD;have cL:=(axe s).h zE
 rw[hL]at cL;have cP:=aj0 hts.1 hts.2 hP;refine ah.fq func22 fun _ _ B _ _=>?_
 refine zg ?_;exact .ok (aA.mk2 (aj.tmp rfl) (aj.tmp rfl))
def apt{Bt:Nat}{l:List Nd}{σ:Ms}(h:BL Bt l k ([],v0,[]) σ)(hF:F+k<=1000000000):ak prog 23 [.r (aD 3 ndE l),.agg (acX (F+k) Bt D)] [] ⟨.ptr 81 0,MQ F Bt σ.1 σ.2.1 σ.2.2⟩:=by
 have n81:Named 12 81:=⟨⟩;have cB:=h F hF;refine ak.fnA func23 results23 ntmps23 rfl rfl rfl rfl rfl rfl rfl rfl fun _ _ B _ _=>?_
 refine W.meet [(0,.r (aD 3 ndE l)),(3,.ptr 3 0)] [(3,.box 43 (acX (F+k) Bt D))] ?_ ?_
 ·refine zg ?_;exact W.le
 refine W.meet [(0,.r (aD 3 ndE l)),(5,.ptr 81 0)] [(81,.abs (um (F+k) Bt [] v0 []))] ?_ ?_
 ·refine zg ?_;refine St.amb (adb (F:=F+k) (B:=Bt) (nm:=[]) (la:=v0) (tx:=[]) [(82,some 10),(84,none)] [10] rfl ⟨S21,S21,aB.own rfl,S21,aB.nil rfl,S21,S21,aB.ofI aH.vV,S21,aB.ofI aH.vV,S21,S21,aB.ofI aH.nil,aB.ofI aH.nil,S21,S21,S21,aB.ofI aH.nil,aB.ofI aH.nil,aB.ofI aH.nil,S21,trivial⟩ ⟨ay.abs (by rw[avH];rfl) rfl rfl,ay.dw rfl,trivial⟩ rfl rfl rfl) ?_
  exact W.le
 refine zg ?_;exact gQ (xs:=[.one (.ptr 81 0)]) ⟨aj.tmp rfl,trivial⟩ ⟨rfl,trivial⟩
def al5{l:List Nd}{σ:Ms}(cp:ah prog 22 [.v (str s),.agg (acX (F+k) B D)] (.tup [.one (.c (.sat (aD 3 ndC l))),eNo 0]))(h:BL B l k ([],v0,[]) σ)(hF:F+k<=1000000000)(h0:σ.2.2≠[]):
  ah prog 11 [.v (str s),.agg (acX (F+k) B D)] (.tup [.one (.c (.val (str σ.2.2))),eNo 0]):=by
 rw[show ndC=ndE from funext aI]at cp
 have cs:=apt (D:=D) h hF;have cS:=apb F B σ.1 σ.2.1 σ.2.2 h0;refine ah.fq func11 fun _ _ B _ _=>?_
 refine zg ?_;refine av7 cs rfl rfl rfl ?_;refine zg ?_;exact .ok (aA.mk2 (aj.tmp rfl) (aj.tmp rfl))
end
