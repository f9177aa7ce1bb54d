import Derived.Test.YtcamgbgfelmbaaaGreatDoorO6
import Derived.Test.YtcamgbgfelmbaaaGreatDoorO9
import Derived.Test.YtcamgbgfelmbaaaGreatDoorO3
set_option linter.all false
open Go.Proofs.Tryz
namespace Go.Proofs.YtcamgbgfelmbaaaGreatDoor
open Go.RowKit QM SX LA
variable{b:Bool}{C:SX.Ctx}{z:Int}{l:List SX.Atom}{zs:List Int}{so t:List UInt8}{K c i k p:Nat}{P:Go.Program}{R:SX.Rep}{st:SX.St}{v:Vl}
section
abbrev bR(t:List UInt8)(vs:List Vl):List Atom:=[.c (.val (str t)),.c (.sat (aD 15 vlE vs))]
abbrev kC(v:Vl)(e:Int)(b:Bool):List Atom:=[.c (.val (.int .i64 v.k)),.c (.val (.bool v.q.1)),.c (.sat (dV v.q.2.1)),.c (.val (.bool v.q.2.2.1)),.c (.sat (dV v.q.2.2.2)),.c (.val (.int .i64 v.r)),.c (.val (.int .i64 v.c)),.c (.sat (aD 4 q4C (v.a.map rq))),.c (.sat (aD 2 z2C (v.po.map rz))),.c (.val (.int .u64 (v.p:Int))),.c (.val (.int .i64 v.fr)),.c (.val (.int .i64 v.fc)),.c (.sat (aD 1 wdC v.fa)),.c (.sat (aD 1 wdC v.ri)),.c (.sat (aD 15 vlC v.li)),.c (.val (.int .i64 e)),.c (.val (.bool b))]
def jY{r:ResultVar}{x y:AV0}(h:aj P st r x)(e:x.imp y):aJ C P [r] ⟨.it y,[]⟩ st:= .ok (aA.mk1 (h.imp e))
attribute [local irreducible] IntKind.wrap Go1 Reg WP aK aN bD aZ aJ aA aj ak aT Sat
def tV(v:Vl):ah prog 259 [.agg (vlA v),.v (.int .i64 0)] (.agg (kC v 0 true)):=by
 refine ah.fq func259 ?_;intros
 refine zg ?_;refine jY aj.fF ?_;exact z7 _
def acv(v:Vl):ah prog 255 [.agg (vlA v)] (.agg (kC v 0 true)):=by
 have c:=tV v;refine ah.fq func255 ?_;intros
 refine zg ?_;refine jY aj.fF ?_;exact z7 _
def jT(hz:z.natAbs < WB ^ K)(h1:1<=K)(hK:K<=100000):ah prog 346 [.agg (vlA (eY (z:Rat)))] (.tup [.agg (zN z),.one (.c (.val (.bool true)))]):=by
 have cw:=awr (RB.ofI hz h1) hK;rw[if_pos (Rat.den_intCast z),decide_eq_true (Rat.den_intCast z),Rat.num_intCast]at cw;refine ah.fq func346 ?_;intros
 refine zg ?_;exact .ok (aA.mk2 aj.fK (aj.tmp rfl))
def om(hq:Sm WB v.q.2.1/\Sm WB v.q.2.2.2)(hl:v.q.2.1.length<=100000/\v.q.2.2.2.length<=100000)(hk:¬v.k=1):∃z:Int,ah prog 346 [.agg (vlA v)] (.tup [.agg (zN z),.one (.c (.val (.bool false)))]):=by
 obtain⟨z,b,h⟩:∃(z:Int) (b:Bool),ah prog 163 [.agg (q4A (rq v.q))] (.tup [.agg (zN z),.one (.c (.val (.bool b)))]):=⟨_,_,(xB (h:=ZI.raw v.q.1 v.q.2.1) (h':=ZI.raw v.q.2.2.1 v.q.2.2.2)).h zE⟩
 refine⟨z,?_⟩;cases b with
 |true=>
  suffices hs:ah prog 346 [.agg (vlA v)] (.tup [.agg (zN z),.one (.c (.val (.bool (decide (v.k=1)))))])by rwa [decide_eq_false hk]at hs
  refine ah.fq func346 fun w0 T B E0 hB=>?_
  refine zg ?_;exact .ok (aA.mk2 aj.fK (aj.tmp rfl))
 |false=>
  refine ah.fq func346 fun w0 T B E0 hB=>?_
  refine zg ?_;exact .ok (aA.mk2 aj.fK (aj.tmp rfl))
def ako(v:Vl):ah prog 281 [.agg (vlA v),.v (.int .u8 120)] (.v (.bool (decide (v.k=2)))):=by
 refine ah.fq func281 ?_;intros
 refine zg ?_;exact aU rfl
def ou(v:Vl):ah prog 281 [.agg (vlA v),.v (.int .u8 113)] (.v (.bool (decide (v.k=3)))):=by
 refine ah.fq func281 ?_;intros
 refine zg ?_;exact aU rfl
def ajx(v:Vl):ah prog 281 [.agg (vlA v),.v (.int .u8 102)] (.v (.bool (decide (v.k=4)))):=by
 refine ah.fq func281 ?_;intros
 refine zg ?_;exact aU rfl
def fV(h:ah prog 346 [.agg (vlA v)] (.tup [.agg (zN z),.one (.c (.val (.bool b)))])):ah prog 281 [.agg (vlA v),.v (.int .u8 110)] (.v (.bool b)):=by
 refine ah.fq func281 ?_;intros
 refine zg ?_;exact aU rfl
abbrev zmA(r c:Int)(x:CA):List Atom:=[.c (.val (.int .i64 r)),.c (.val (.int .i64 c)),.c x]
def wY{r c:Int}(h:ah prog 351 [.agg (vlA v)] (.tup [.agg (zmA r c (.sat R)),.one (.c (.val (.bool b)))])):ah prog 281 [.agg (vlA v),.v (.int .u8 109)] (.v (.bool b)):=by
 refine ah.fq func281 ?_;intros
 refine zg ?_;exact aU rfl
def aaG{r c:Int}(h:ah prog 351 [.agg (vlA v)] (.tup [.agg (zmA r c (.val (.slice none 0 0))),.one (.c (.val (.bool b)))])):ah prog 281 [.agg (vlA v),.v (.int .u8 109)] (.v (.bool b)):=by
 refine ah.fq func281 ?_;intros
 refine zg ?_;exact aU rfl
def aa9(hk:¬v.k=2):ah prog 351 [.agg (vlA v)] (.tup [.agg (zmA 0 0 (.val (.slice none 0 0))),.one (.c (.val (.bool false)))]):=by
 refine ah.fq func351 ?_;intros
 refine zg ?_;exact .ok (aA.mk2 aj.aW (aj.tmp rfl))
def aie{t2:List UInt8}{vs:List Vl}(h:(t==t2)=false):ah prog 249 [.agg (bR t vs),.v (str t2),.v (str so)] (.v (.bool false)):=by
 have h2:decide (t=t2)=false:=by simpa using h
 refine ah.fq func249 ?_;intros
 refine zg ?_;exact aU rfl
def lI{t:List UInt8}{vs:List Vl}(f:Nat->Bool)(hl:vs.length=so.length)(hn:vs.length<=1000000)(hf:∀(i:Nat) v,vs[i]? =some v->ah prog 281 [.agg (vlA v),.v (.int .u8 ((byt so i).toNat:Int))] (.v (.bool (f i)))):
  ah prog 249 [.agg (bR t vs),.v (str t),.v (str so)] (.v (.bool ((List.range vs.length).all f))):=by
 have h2:decide (t=t)=true:=decide_eq_true rfl;refine ah.fq func249 ?_;intros
 refine zg ?_;refine W.loop (fun k=>k<=vs.length/\(List.range k).all f=true) (fun k=>[(2,.v (str so)),(22,.r (aD 15 vlE vs)),(23,.v (.int .i64 (vs.length:Int))),(24,.v (.int .i64 (k:Int)))]) (fun _=>[]) (fun k=>vs.length - k) 0 ⟨zq8 _,rfl⟩ (fun k ⟨hk,ha⟩=>?_)
 by_cases hlt:k < vs.length
 ·obtain⟨v,hv⟩:∃v,vs[k]? =some v:=⟨_,zyh hlt⟩
  have c:=hf k v hv;cases hb:f k with
  |true=>
   rw[hb]at c;refine zg ?_;exact W.next (k+1) ⟨hlt,by rw[List.range_succ,List.all_append,ha];simp[hb]⟩ zE
  |false=>
   rw[hb]at c;refine zg ?_;refine aU ?_;rw[eq_comm,List.all_eq_false];exact⟨k,List.mem_range.2 hlt,by rw[hb];decide⟩
 ·obtain rfl:k=vs.length:=zE
  refine zg ?_;exact aU ha.symm
end
section
attribute [local irreducible] IntKind.wrap Go1 Reg WP aK aN bD aZ aJ aA aj ak aT Sat
attribute [local irreducible] qv
def ad5{vs:List Vl}(hv:vs[i]? =some v)(hi:i<=1000)(h:ah prog 346 [.agg (vlA v)] (.tup [.agg (zN z),.one (.c (.val (.bool b)))])):ah prog 252 [.agg (bR t vs),.v (.int .i64 (i:Int))] (.agg (zN z)):=by
 have hl:=oL hv;refine ah.fq func252 ?_;intros
 refine zg ?_;exact jG aj.fK rfl
def ath{vs:List Vl}{r c:Int}(hv:vs[i]? =some v)(hi:i<=1000)(h:ah prog 351 [.agg (vlA v)] (.tup [.agg (zmA r c (.sat R)),.one (.c (.val (.bool b)))])):ah prog 258 [.agg (bR t vs),.v (.int .i64 (i:Int))] (.agg (zmA r c (.sat R))):=by
 have hl:=oL hv;refine ah.fq func258 ?_;intros
 refine zg ?_;exact jG aj.aW rfl
def aar(h1: -1073741824<=z)(h2:z<=1073741824):ah prog 251 [.agg (zN z)] (.v (.int .i64 z)):=by
 haveI:Bd z 1:=⟨azY zE zE⟩
 have c:=ayu (l:=zN z) (z:=z) (k:=1) zc
 have e1:pG z=true:=by
  unfold pG;rw[decide_eq_true zE,decide_eq_true zE];rfl
 have e2:wu z=z:=by unfold wu;rw[e1];rfl
 rw[e1,e2]at c;refine ah.fq func251 ?_;intros
 refine zg ?_;exact dZ rfl
def aud{r:Nat}(hr:r<=64)(hc:c<=64):ah prog 250 [.v (.int .i64 (r:Int)),.v (.int .i64 (c:Int))] (.tup [.agg (nG r c (fJ c (fun _ _=>0) r)),eNo 0]):=by
 have s1:=(qG (r:Int)).h trivial;have s2:=(qG (c:Int)).h trivial;rw[decide_eq_true (show 0<=(r:Int)/\(r:Int)<=64 by omega)]at s1
 rw[decide_eq_true (show 0<=(c:Int)/\(c:Int)<=64 by omega)]at s2
 have c0:∀i k:Nat,ah prog 345 [.v (.int .i64 (i:Int)),.v (.int .i64 (k:Int))] (.agg (z2A (false,dV []))):=fun i k=>by
  refine ah.fq func345 fun w0 T B E0 hB=>?_
  refine zg ?_;refine uG aj.fK ?_;exact mg ⟨aH.refl _,aH.vV,trivial⟩
 have cM:=zG (qR r c (.sat (jR 345 [] [])) (fun _ _=>(false,dV [])) (fun _ _=>0) 1 zE zE zc (fun i k _ _=>FnV.const (c0 i k)) (fun i k _ _=>ZQ.raw (b:=false) (l:=[]) Sm.nil zc) rfl)
 refine ah.fq func250 fun w0 T B E0 hB=>?_
 refine zg ?_;exact .ok (aA.mk2 aj.aW (aj.tmp rfl))
def uM(r c:Nat)(zs:List Int):nG r c zs=og r c (zs.map z2v):=by
 show [_,_,Atom.c (.sat (aP 2 zs.length (zs.flatMap zC)))]=[_,_,Atom.c (.sat (aP 2 (zs.map z2v).length ((zs.map z2v).flatMap z2C)))];rw[zq5,List.flatMap_map]
def ayT(z:Int):qv z 1=(z:Rat):=by unfold qv;grind
def afm{r:Nat}{l:List Rat}{val:Nat->Nat->Rat}(hl:l.length=r*c)(h:∀i k,i < r->k < c->l[i*c+k]? =some (val i k)):ku c val r=l:=by
 refine zyb fun n=>?_
 by_cases hn:n < r*c
 ·have hc:0 < c:=Nat.pos_of_ne_zero (by rintro rfl;simp at hn)
  have h1:n / c < r:=Nat.div_lt_of_lt_mul (by rwa [zxj]at hn)
  have h2:=zyi n hc;have e:n=n / c*c+n % c:=by rw[zxj];exact(Nat.div_add_mod n c).symm
  rw[e,agj h2 h1,h _ _ h1 h2]
 ·rw[zqe (by rw[oC];omega),zqe zE]
def ajk{r:Nat}(hl:zs.length=r*c):ku c (fun i k=>qv (zat zs c i k) 1) r=zs.map fun z:Int=>(z:Rat):=by
 refine afm (by rw[zq5];exact hl) fun i k hi hk=>?_
 rw[zqa,qh hl hi hk,ayT];rfl
def aeR{r:Nat}(hl:zs.length=r*c)(hr:r<=64)(hc:c<=64)(hz:∀z∈zs,z.natAbs < WB ^ K)(hK:K<=10000)(hK1:1<=K):ah prog 261 [.agg (nG r c zs)] (.agg (vlA (dW r c (zs.map fun z:Int=>(z:Rat))))):=by
 have cF:=aiN (MZ.made hz) (by rw[zq5];exact hl) hr hc hK hK1
 rw[<-uM,ajk hl,nT]at cF;have hb:∀x∈zs.map (fun z:Int=>(z:Rat)),RB x K:=fun x hx=>by
  obtain⟨z,hz',rfl⟩:=zqg.1 hx;exact RB.ofI (hz z hz') hK1
 have cM:=xD (r:=r) (c:=c) (MV.made hb) (by rw[zq5,zq5];exact hl) hr hc zE
 refine ah.fq func261 ?_;intros
 refine zg ?_;refine uG aj.fC ?_;exact z7 _
def zI{r:Nat}(hl:zs.length=r*c)(hr:r<=64)(hc:c<=64)(hz:∀z∈zs,z.natAbs < WB ^ K)(hK:K<=10000)(hK1:1<=K):ah prog 253 [.agg (nG r c zs),.v (.int .i64 0)] (.agg (kC (dW r c (zs.map fun z:Int=>(z:Rat))) 0 true)):=by
 have cT:=aeR hl hr hc hz hK hK1;have cD:=tV (dW r c (zs.map fun z:Int=>(z:Rat)))
 refine ah.fq func253 ?_;intros
 refine zg ?_;refine jY aj.fF ?_;exact z7 _
abbrev nA:List UInt8:=[122,101,114,111]
abbrev am9:List UInt8:=[112,111,108,121]
abbrev mP:List UInt8:=[109,111,100]
abbrev vI(z:Int):Vl:=eY (z:Rat)
def yg{r:Nat}(h:r<=64):(r:Int).natAbs < WB ^ 1:=by rw[zxh,bf];omega
def abR{r:Nat}(hr:r<=64)(hc:c<=64):ah prog 214 [.agg (bR nA [vI r,vI c])] (.agg (kC (dW r c ((fJ c (fun _ _=>0) r).map fun z:Int=>(z:Rat))) 0 true)):=by
 have w1:=jT (yg hr) (zq6 1) zc
 have w2:=jT (yg hc) (zq6 1) zc
 have cA:ah prog 249 [.agg (bR nA [vI r,vI c]),.v (str nA),.v (str [110,110])] (.v (.bool true)):=lI (fun _=>true) rfl (zqc rfl) (fun i v hv=>by
  match i,hv with
  |0,hv=>cases hv;exact fV w1
  |1,hv=>cases hv;exact fV w2)
 have n1:ah prog 252 [.agg (bR nA [vI r,vI c]),.v (.int .i64 0)] (.agg (zN (r:Int))):=ad5 (i:=0) rfl zc w1
 have n2:ah prog 252 [.agg (bR nA [vI r,vI c]),.v (.int .i64 1)] (.agg (zN (c:Int))):=ad5 (i:=1) rfl zc w2
 have s1:=aar (z:=(r:Int)) zE zE
 have s2:=aar (z:=(c:Int)) zE zE
 have cN:=aud hr hc;have cM:=zI (r:=r) (c:=c) (K:=1) (zs:=fJ c (fun _ _=>0) r) (dM ..) hr hc (nM fun _ _ _ _=>by rw[zxh,bf];decide) zc zc
 refine ah.fq func214 ?_;intros
 refine zg ?_;refine jY aj.fF ?_;exact z7 _
end
section
section
def zmd(p:Nat)(z:Int):Nat:=(z % (p:Int)).toNat
def zO(h:PrP p)(z:Int):zmd p z < p:=by
 have:=h.lt;have h1:=Int.emod_nonneg z (show (p:Int)≠0 by omega)
 have h2:=Int.emod_lt_of_pos z (show (0:Int) < p by omega)
 unfold zmd;omega
def aq6{x:Nat}(h:x < p):zmd p (x:Int)=x:=by
 unfold zmd;rw[Int.emod_eq_of_lt zE zE];rfl
attribute [local irreducible] IntKind.wrap Go1 Reg WP aK aN bD aZ aJ aA aj ak aT Sat
attribute [local irreducible] PrP zmd
def aiS{l':List Atom}{x y:Int}{m:Nat}[h:ZI l x k][h':ZI l' y m](hy:0 < y)(hk:k+m<=1000000):ah prog 405 [.agg l,.agg l'] (.tup [.agg (zN (x % y)),.one (.c (.val (.bool true)))]):=by
 refine z2 ⟨_,func405,rfl,rfl⟩ fun neg n neg2 n2 hz hz2 hn hn2=>?_
 have cS:=aaJ (l:=zR neg2 n2 m) (z:=sgn neg2 n2) (k:=m) zE
 have cE:=axk (l:=zR neg n k) (l':=zR neg2 n2 m) (x:=sgn neg n) (y:=sgn neg2 n2) (k:=k) (m:=m) zE
 rw[<-hz2]at cS;rw[<-hz,<-hz2]at cE;have e1:zer x y=x % y:=by unfold zer;rw[if_neg zE]
 rw[e1,decide_eq_true (show y≠0 by omega)]at cE
 have hs:¬bG y<=0:=by unfold bG;rw[if_neg zE,if_neg zE];omega
 refine ah.fq func405 ?_;intros
 refine zg ?_;exact .ok (aA.mk2 aj.fK (aj.tmp rfl))
def aiP(hp:PrP p){n:Nat}(h:NI (.sat R) n k)(hk:k<=100000):ah prog 299 [.agg (gfA p),.agg [.c (.val (.bool b)),.c (.sat R)]] (.v (.int .u64 ((zmd p (sgn b n):Nat):Int))):=by
 have hl:=hp.lt;have cP:=pJ hp;have hpW:p < WB:=by rw[bf];omega
 have cO:=nOf p hpW
 haveI i1:BdN p 1:=⟨by rw[zxh];exact hpW⟩
 have cF:=qV (a:= .sat (bI p)) (x:=p) (k:=1) false zE
 rw[show sgn false p=(p:Int)from rfl]at cF
 haveI i2:=ZI.mk' (neg:=b) h
 have cM:=aiS (l:=[.c (.val (.bool b)),.c (.sat R)]) (l':=zN (p:Int)) (x:=sgn b n) (y:=(p:Int)) (k:=k) (m:=1) zE zE
 have hlt:=zO hp (sgn b n);have e1:(sgn b n % (p:Int)).natAbs=zmd p (sgn b n):=by
  have:=Int.emod_nonneg (sgn b n) (show (p:Int)≠0 by omega)
  unfold zmd;omega
 haveI i3:BdN (sgn b n % (p:Int)).natAbs 1:=⟨by rw[zxh,e1];omega⟩
 have cW:ah prog 55 [.it (.one (.c (.sat (bI (sgn b n % (p:Int)).natAbs))))] (.tup [.one (.c (.val (.int .u64 ((zmd p (sgn b n):Nat):Int)))),.one (.c (.val (.bool true)))]):=by
  have h:=alN (a:= .sat (bI (sgn b n % (p:Int)).natAbs)) (x:=(sgn b n % (p:Int)).natAbs) (k:=1) zE
  rw[if_pos (by rw[e1];omega),decide_eq_true (by rw[e1];omega)]at h
  rwa [<-e1]
 refine ah.fq func299 ?_;intros
 refine zg ?_;exact dZ rfl
def aiT(hp:PrP p){l:List Z2}(hM:MZ l zs K)(hK:K<=100000)(hl:l.length<=10000):ah prog 490 [.r (aD 2 z2C l),.agg (gfA p)] (.r (aD 1 wdC (bL p (zs.map (zmd p))))):=by
 have hpl:=hp.lt;have hlen:=hM.len;have e1:(zs.map (zmd p)).length=l.length:=by rw[zq5,hlen]
 have cN:=vg hp (l:=zs.map (zmd p)) zE (fun x hx=>by
  obtain⟨z,_,rfl⟩:=zqg.1 hx;have:=zO hp z;omega)
 refine ah.fq func490 fun _ _ _ _ hB=>?_
 refine zg ?_;refine W.loop (fun k=>k<=l.length) (fun k=>[(3,.ptr 3 0),(5,.own 100),(8,.r (aD 2 z2C l)),(9,.v (.int .i64 (l.length:Int))),(10,.v (.int .i64 (k:Int)))]) (fun k=>[(3,.box 267 (gfA p)),(100,.row 35 1 k (((zs.take k).map (zmd p)).flatMap wdC))]) (fun k=>l.length - k) 0 (zq8 _) (fun k hk=>?_)
  (by
   refine St.aS [(100,none)] z6 ?_ ?_ rfl
   ·exact yi
   ·exact⟨ay.same rfl rfl,ay.dw rfl,trivial⟩)
 by_cases h:k < l.length
 ·obtain⟨q,hq⟩:∃q,l[k]? =some q:=⟨_,zyh h⟩
  obtain⟨z,hzk⟩:∃z,zs[k]? =some z:=⟨_,zyh zE⟩
  obtain⟨n,k',hz,hn,hk'⟩:=(hM.z k q z hq hzk).h;have cO:=aiP hp (b:=q.1) hn zE
  rw[<-hz]at cO;have e2:=afc (enc:=wdC) (f:=zmd p) hzk;refine zg ?_;refine W.next (k+1) h zE (by
   refine St.aS [(100,some 19)] z6 ?_ ?_ rfl
   ·exact ye
   ·exact⟨ay.same rfl rfl,ay.row rfl rfl rfl e2,trivial⟩)
 ·obtain rfl:k=l.length:=zE
  rw[hlen,zy8,<-hlen,<-e1];refine WP.freeze 100 hB rfl ?_;refine zg ?_;exact jG (aj.tmp rfl) rfl
abbrev ptrZm(r c:Nat)(l:List Z2):AV:= .r (dL [.val (.int .i64 (r:Int)),.val (.int .i64 (c:Int)),.sat (aD 2 z2C l)])
def amD{c:Nat}{val:Nat->Nat->Nat}{k:Nat}(hk:k < c):∀{r i:Nat},i < r->(iN c val r)[i*c+k]? =some (val i k)
 |0,i,h=>absurd h (zvj _)
 |r+1,i,h=>by
  rw[uX];by_cases hi:i < r
  ·rw[zyj (by rw[oJ];exact rW hi hk)]
   exact amD hk hi
  ·obtain rfl:i=r:=zE
   rw[zv6 (by rw[oJ];omega),oJ,Nat.add_sub_cancel_left,zqa,zvb hk];rfl
def aeu{r:Nat}{l:List Nat}{val:Nat->Nat->Nat}(hl:l.length=r*c)(h:∀i k,i < r->k < c->l[i*c+k]? =some (val i k)):iN c val r=l:=by
 refine zyb fun n=>?_
 by_cases hn:n < r*c
 ·have hc:0 < c:=Nat.pos_of_ne_zero (by rintro rfl;simp at hn)
  have h1:n / c < r:=Nat.div_lt_of_lt_mul (by rwa [zxj]at hn)
  have h2:=zyi n hc;have e:n=n / c*c+n % c:=by rw[zxj];exact(Nat.div_add_mod n c).symm
  rw[e,amD h2 h1,h _ _ h1 h2]
 ·rw[zqe (by rw[oJ];omega),zqe zE]
def ap7(hp:PrP p){r:Nat}(hl:zs.length=r*c)(hr:r<=64)(hc:c<=64)(hz:∀z∈zs,z.natAbs < WB ^ K)(hK:K<=10000):ah prog 491 [.agg (gfA p),.agg (nG r c zs)] (.tup [.agg (fmA r c (zs.map (zmd p))),eNo 0]):=by
 have hpl:=hp.lt;have hl2:(zs.map z2v).length=r*c:=by rw[zq5];exact hl
 have cF:=pY (ag:=(zs.map z2v).flatMap z2C) (gX.nat hr hc hl2);have c1:∀i k,i < r->k < c->ah prog 554 [.v (.int .i64 (i:Int)),.v (.int .i64 (k:Int)),ptrP p,ptrZm r c (zs.map z2v)] (.v (.int .u64 ((zmd p (zat zs c i k):Nat):Int))):=fun i k hi hk=>by
  have cA:=ab9 (r:=r) (c:=c) (MZ.made hz) hl2 hr hc hi hk zE
  have hb:=hz _ (zq4 (qh hl hi hk));generalize zat zs c i k=z at*
  haveI i1:BdN z.natAbs K:=⟨hb⟩
  have cO:=aiP hp (b:=decide (z < 0)) (R:=bI z.natAbs) (NI.aaV hb) zE
  rw[air]at cO;refine ah.fq func554 fun w0 T B E0 hB=>?_
  refine zg ?_;exact dZ rfl
 have cM:=afo hp r c (.sat (jR 554 [] [.sat (dL [.val (.int .u64 (p:Int))]),.sat (dL [.val (.int .i64 (r:Int)),.val (.int .i64 (c:Int)),.sat (aD 2 z2C (zs.map z2v))])])) (fun i k=>zmd p (zat zs c i k)) zE zE
  (fun i k hi hk=>FnV.clo (c1 i k hi hk)) (fun i k _ _=>zO hp _) rfl
 rw[aeu (l:=zs.map (zmd p)) (by rw[zq5];exact hl) (fun i k hi hk=>by rw[zqa,qh hl hi hk];rfl)]at cM
 rw[aal];refine ah.fq func491 fun w0 T B E0 hB=>?_
 refine zg ?_;refine WP.dG 2 hB rfl rfl ?_;refine WP.dG 3 hB rfl rfl ?_;refine WP.aG ?_;refine zg ?_;exact .ok (aA.mk2 aj.aW (aj.tmp rfl))
def ahO(p:Nat)(l:List Nat):ah prog 290 [.v (.int .u64 (p:Int)),.r (aD 1 wdC l)] (.agg (vlA (jS p l))):=by
 refine ah.fq func290 ?_;intros
 refine zg ?_;refine uG aj.fC ?_;exact mg ⟨aH.refl _,aH.refl _,aH.vV,aH.refl _,aH.vV,aH.refl _,aH.refl _,aH.nil,aH.nil,aH.refl _,aH.refl _,aH.refl _,aH.nil,aH.refl _,aH.nil,trivial⟩
def ao4(p r c:Nat)(l:List Nat):ah prog 284 [.v (.int .u64 (p:Int)),.agg (fmA r c l)] (.agg (vlA (gu p r c l))):=by
 refine ah.fq func284 ?_;intros
 refine zg ?_;refine uG aj.fC ?_;exact mg ⟨aH.refl _,aH.refl _,aH.vV,aH.refl _,aH.vV,aH.refl _,aH.refl _,aH.nil,aH.nil,aH.refl _,aH.refl _,aH.refl _,aH.refl _,aH.nil,aH.nil,trivial⟩
end
section
def su:List UInt8:=[32,122,101,114,111,32,105,100,32,116,114,97,110,115,112,111,115,101,32,114,111,119,115,32,99,111,108,115,32,100,101,116,32,105,110,118,32,114,97,110,107,32,116,114,97,99,101,32,97,100,106,32,104,110,102,32,109,111,100,104,110,102,32,115,110,102,32,107,101,114,110,101,108,32,105,109,97,103,101,32,115,97,116,117,114,97,116,101,32,115,111,108,118,101,32,108,108,108,32,99,104,97,114,32,109,105,110,32,102,114,111,98,32,105,110,118,97,114,105,97,110,116,115,32,99,111,109,112,97,110,105,111,110,32,112,111,108,121,32,109,111,100,32,108,105,102,116,32,100,101,103,32,101,118,97,108,32,100,101,114,105,118,101,32,103,99,100,32,120,103,99,100,32,102,108,111,111,114,32,114,111,117,110,100,32,97,98,115,32,110,117,109,32,100,101,110,32,112,114,105,109,101,32,99,114,116,32,112,111,119,109,111,100,32,108,101,110,32,102,97,99,116,111,114,115,32]
abbrev fnC(f:FuncId):List CA:=[.val (.func (.func f) #[] #[])]
instance:dY fnC 1:=⟨fun _=>rfl⟩
def FnV.val{P:Program}{f:FuncId}{ao:List AV}{r:AV}(h:ah P f ao r):FnV P (.val (.func (.func f) #[] #[])) ao r:=by
 intro S w v hv;cases hv;exact⟨f,[],[],[],[],rfl,fun E=>trivial,fun E=>trivial,by simpa using h⟩
def bg{s:List UInt8}(hs:s.length < 4294967281)(hb:Lib.contains s t=b):ah prog 146 [.v (str s),.v (str t)] (.v (.bool b)):=by
 refine⟨⟨_,func146,rfl,rfl⟩,fun E S w vs hl hg hv _ _ _=>?_⟩
 match vs,hv with
 |[x,y],⟨h1,h2,_⟩=>
  have h1':x=str s:=h1;have h2':y=str t:=h2;subst h1' h2';obtain⟨_,_,m,hm⟩:=hg.2 4 (by simp[axN])
  refine(strings_Contains ⟨⟨s⟩⟩ ⟨⟨t⟩⟩ m w hs hm).mono ?_;rintro e w' ⟨rfl,rfl⟩;refine⟨_,E,S,rfl,{env:=fun _ _=>⟨rfl,rfl⟩,fpe:=fun _ _=>rfl,sub:=fun _ h=>h,new:=fun _ h=> .inl h,lt:=hl,off:=Off.refl _ _,res:=?_,ents:=fun _ _ h=>(by cases h),blk:=fun _ _ _ h=>(by cases h),sep:=fun _ _ _ _ _ _ h=>(by cases h)}⟩
  show Value.bool (Lib.contains s t)=Value.bool b;rw[hb]
instance con_asI(t t2 so:List UInt8)(vs:List Vl):Con prog 249 [.agg (bR t vs),.v (str t2),.v (str so)] ((t==t2)=false) (.v (.bool false)):=⟨fun h=>aie h⟩
attribute [local irreducible] IntKind.wrap Go1 Reg WP aK aN bD aZ aJ aA aj ak aT Sat
attribute [local irreducible] PrP cq zmd
abbrev qd:List Atom:=kC v0 0 false
def mO{r:ResultVar}(h:aj P st r (.agg [.c (.val (.int .i64 0)),.c (.val (.bool false)),.c (.val (.slice none 0 0)),.c (.val (.bool false)),.c (.val (.slice none 0 0)),.c (.val (.int .i64 0)),.c (.val (.int .i64 0)),.c (.val (.slice none 0 0)),.c (.val (.slice none 0 0)),.c (.val (.int .u64 0)),.c (.val (.int .i64 0)),.c (.val (.int .i64 0)),.c (.val (.slice none 0 0)),.c (.val (.slice none 0 0)),.c (.val (.slice none 0 0)),.c (.val (.int .i64 0)),.c (.val (.bool false))])):aJ C P [r] ⟨.it (.agg qd),[]⟩ st:=
 jY h (mg ⟨aH.refl _,aH.refl _,aH.vV,aH.refl _,aH.vV,aH.refl _,aH.refl _,aH.nil,aH.nil,aH.refl _,aH.refl _,aH.refl _,aH.nil,aH.nil,aH.nil,aH.refl _,aH.refl _,trivial⟩)
def atr{vs:List Vl}(ht:t=am9\/t=mP):ah prog 214 [.agg (bR t vs)] (.agg qd):=by
 rcases ht with rfl|rfl <;> (
  refine ah.fq func214 ?_;intros
  refine zg ?_;exact mO aj.fF
 )
def auO{vs:List Vl}(ht:t=am9\/t=mP):ah prog 215 [.agg (bR t vs)] (.agg qd):=by
 rcases ht with rfl|rfl <;> (
  refine ah.fq func215 ?_;intros
  refine zg ?_;exact mO aj.fF
 )
def ajM{vs:List Vl}(ht:t=am9\/t=mP):ah prog 216 [.agg (bR t vs)] (.agg qd):=by
 rcases ht with rfl|rfl <;> (
  refine ah.fq func216 ?_;intros
  refine zg ?_;exact mO aj.fF
 )
def afG{vs:List Vl}(ht:t=am9\/t=mP):ah prog 217 [.agg (bR t vs)] (.agg qd):=by
 rcases ht with rfl|rfl <;> (
  refine ah.fq func217 ?_;intros
  refine zg ?_;exact mO aj.fF
 )
def afj{vs:List Vl}(h:vs.length≠1)(hl:vs.length<=100000):ah prog 218 [.agg (bR t vs)] (.agg qd):=by
 refine ah.fq func218 ?_;intros
 refine zg ?_;exact mO aj.fF
def ace{l:List Int}:jh (l.map fun z:Int=>(z:Rat))=1:=by
 refine Nat.dvd_one.1 (ak4 fun v hv=>?_)
 obtain⟨z,_,rfl⟩:=zqg.1 hv;rw[Rat.den_intCast];exact Nat.one_dvd 1
def ah9(l:List Int):qH (l.map fun z:Int=>(z:Rat))=l:=by
 unfold qH;rw[ace,zv4];refine(zvg fun z _=>?_).trans (List.map_id l)
 show ((z:Rat)*qj ((1:Nat):Int)).num=z;rw[amv];have:(z:Rat)*(((1:Nat):Int):Rat)=(z:Rat):=by grind
 rw[this];exact Rat.num_intCast z
def tZ{r:Nat}(hl:zs.length=r*c)(hr:r<=64)(hc:c<=64)(hz:∀z∈zs,z.natAbs < WB ^ K)(hK1:1<=K)(hB0:1+(r*c+1)*K<=50000):ah prog 351 [.agg (vlA (dW r c (zs.map fun z:Int=>(z:Rat))))] (.tup [.agg (zmA r c (.sat (aD 2 zC zs))),.one (.c (.val (.bool true)))]):=by
 have hb:∀x∈zs.map (fun z:Int=>(z:Rat)),RB x K:=fun x hx=>by
  obtain⟨z,hz',rfl⟩:=zqg.1 hx;exact RB.ofI (hz z hz') hK1
 have cC:=aeX (r:=r) (c:=c) (MV.cq hb) (by rw[zq5,zq5,zq5];exact hl) hr hc hK1 hB0
 rw[ace,ah9]at cC;have o1:=anC
 haveI i1:Bd ((1:Nat):Int) 1:=⟨by rw[zxh,bf];decide⟩
 have cS:ah prog 124 [.agg (zN ((1:Nat):Int)),.agg (zN 1)] (.v (.bool true)):=by
  have h:=axI (l:=zN ((1:Nat):Int)) (l':=zN 1) (x:=((1:Nat):Int)) (y:=1) (k:=1) (m:=1) zE
  rwa [decide_eq_true zE]at h
 refine ah.fq func351 ?_;intros
 refine zg ?_;exact .ok (aA.mk2 aj.aW (aj.tmp rfl))
section
variable{p:Nat}(hp:PrP p){w:Vl}
include hp
theorem aj9(hz:∀z∈zs,z.natAbs < WB ^ K)(hK:K<=100000)(hl:zs.length<=10000):ah prog 410 [.agg (bR mP [gP zs,w]),.agg (gfA p)] (.agg (kC (jS p (bL p (zs.map (zmd p)))) 0 true)):=by
 have hv:[gP zs,w][0]? =some (gP zs):=rfl;have cS:=ou (gP zs);rw[decide_eq_true rfl]at cS;have cR:=aiT hp (MZ.ofz hz) hK (by rw[zq5,zq5];exact hl)
 have cG:=pJ hp;have cr:=ahO p (bL p (zs.map (zmd p)));have cf:=acv (jS p (bL p (zs.map (zmd p))));refine ah.fq func410 ?_;intros
 refine zg ?_;refine jY aj.fF ?_;exact z7 _
theorem aju{r:Nat}(hl:zs.length=r*c)(hr:r<=64)(hc:c<=64)(hz:∀z∈zs,z.natAbs < WB ^ K)(hK1:1<=K)(hB0:1+(r*c+1)*K<=50000)(hKK:K<=10000):ah prog 410 [.agg (bR mP [dW r c (zs.map fun z:Int=>(z:Rat)),w]),.agg (gfA p)] (.agg (kC (gu p r c (zs.map (zmd p))) 0 true)):=by
 have hv:[dW r c (zs.map fun z:Int=>(z:Rat)),w][0]? =some (dW r c (zs.map fun z:Int=>(z:Rat))):=rfl
 have cS:=ou (dW r c (zs.map fun z:Int=>(z:Rat)))
 rw[decide_eq_false (fun h=>by have h':(2:Int)=3:=h;omega)]at cS
 have cW:=tZ hl hr hc hz hK1 hB0;have cM:=wY cW;have cm:ah prog 258 [.agg (bR mP [dW r c (zs.map fun z:Int=>(z:Rat)),w]),.v (.int .i64 0)] (.agg (nG r c zs)):=ath (i:=0) hv zc cW
 have cF:=ap7 hp hl hr hc hz hKK;have cG:=pJ hp;have cr:=ao4 p r c (zs.map (zmd p));have cf:=tV (gu p r c (zs.map (zmd p)));refine ah.fq func410 ?_;intros
 refine zg ?_;refine jY aj.fF ?_;exact z7 _
end
end
section
section
variable{P:Program}{C:Ctx}{st:St}{ae aa:List Oper}{ab:List (List Nat×List Nat)}{K:List (List Nat×List Nat)->St->Prop}{an:Option Tmp}{ty t:TypeId}{x:Operand}
def azp{f o1 ft:Nat}{y:Atom}[h1:iT P ft](hf:(P.underlying t).bind (xW · f)=some (o1,ft))(hd:aC an C.nt=true)(hx:st.ev x=some (.agg l))(hi:l[o1]? =some y)(ai:Reg P C ae aa (st.app an ⟨.it (.one y),[]⟩) (([],[])::ab) K):Go1 P C ae an (.field t x f) ty aa st ab K:=
 Go1.dz [] [] zp hd zp (fun o ho _ st' E S a w hev hs _=>by
  obtain⟨⟨vs,hv,hall⟩,hids⟩:=hs.ev ((hev x (by simp[ho,Op.operands])).trans hx)
  obtain⟨dd,hd1,hd2⟩:=Option.bind_eq_some_iff.1 hf;obtain⟨v,h2,h3⟩:=hall.get hi;refine⟨fun j hj=>hids j (zx9.2 ⟨y,zq4 hi,hj⟩),v,?_,h3⟩
  cases dd <;> simp[xW]at hd2
  rename_i fs;obtain⟨fd,hfd,he1,he2⟩:=hd2;subst he1 he2;unfold execOp;rw[ho];simp[show a.eval x=_ from hv,Instr.field,run_underlying hd1,hfd,part,asAgg,ig h1.h,h2]) ai
end
attribute [local irreducible] IntKind.wrap Go1 Reg WP aK aN bD aZ aJ aA aj ak aT Sat
attribute [local irreducible] PrP zmd
def aad{vs:List Vl}(h:ah prog 346 [.agg (vlA v)] (.tup [.agg (zN z),.one (.c (.val (.bool false)))]))(hl:vs.length<=1000):ah prog 295 [.r (aD 15 vlE (v::vs))] (.tup [.one (.c (.val (.slice none 0 0))),.one (.c (.val (.bool false)))]):=by
 have hv:(v::vs)[0]? =some v:=rfl;have hv2:∀k,k=0->(v::vs)[k]? =some v:=fun k hk=>by subst hk;rfl
 have hlen:(v::vs).length=vs.length+1:=rfl;refine ah.fq func295 ?_;intros
 refine zg ?_;refine W.loop (fun(k:Nat)=>k=0) (fun k=>[(4,.v (.slice none 0 0)),(9,.r (aD 15 vlE (v::vs))),(10,.v (.int .i64 ((v::vs).length:Int))),(11,.v (.int .i64 (k:Int)))]) (fun k=>[]) (fun k=>0) 0 rfl (fun k hk=>?_)
 have hvk:=hv2 k hk;refine zg ?_;exact .ok (aA.mk2 (aj.tmp rfl) (aj.tmp rfl))
def afP:ah prog 259 [.agg [.c (.val (.int .i64 3)),.c (.val (.bool false)),.c (.val (.slice none 0 0)),.c (.val (.bool false)),.c (.val (.slice none 0 0)),.c (.val (.int .i64 0)),.c (.val (.int .i64 0)),.c (.val (.slice none 0 0)),.c (.sat (aD 2 z2C (zs.map z2v))),.c (.val (.int .u64 0)),.c (.val (.int .i64 0)),.c (.val (.int .i64 0)),.c (.val (.slice none 0 0)),.c (.val (.slice none 0 0)),.c (.val (.slice none 0 0))],.v (.int .i64 0)] (.agg (kC (gP zs) 0 true)):=by
 refine ah.fq func259 ?_;intros
 refine zg ?_;refine jY aj.fF ?_;exact mg ⟨aH.refl _,aH.refl _,aH.vV,aH.refl _,aH.vV,aH.refl _,aH.refl _,aH.nil,aH.ints zs,aH.refl _,aH.refl _,aH.refl _,aH.nil,aH.nil,aH.nil,aH.refl _,aH.refl _,trivial⟩
def acn:ah prog 273 [.r (aD 2 z2C (zs.map z2v)),.v (.int .i64 0)] (.agg (kC (gP zs) 0 true)):=by
 have cd:=afP (zs:=zs);refine ah.fq func273 ?_;intros
 refine zg ?_;refine jY aj.fF ?_;exact z7 _
def pW:(Sm WB rq0.2.1/\Sm WB rq0.2.2.2)/\rq0.2.1.length<=100000/\rq0.2.2.2.length<=100000:=⟨⟨Sm.nil,Sm.nil⟩,zc,zc⟩
section
variable{p:Nat}(hp:PrP p)
include hp
theorem apg:ah prog 55 [.it (.one (.c (.sat (bI (p:Int).natAbs))))] (.tup [.one (.c (.val (.int .u64 (p:Int)))),.one (.c (.val (.bool true)))]):=by
 have hl:=hp.lt;have e:(p:Int).natAbs=p:=zxa p;have hpW:p < WB:=by rw[bf];omega
 haveI i1:BdN (p:Int).natAbs 1:=⟨by rw[zxh,e];exact hpW⟩
 have h:=alN (a:= .sat (bI (p:Int).natAbs)) (x:=(p:Int).natAbs) (k:=1) zE
 rw[if_pos (by rw[e];exact hpW),decide_eq_true (by rw[e];exact hpW)]at h
 rw[e]at h ⊢;exact h
theorem amB{r:Vl}{b1 b2 b3:Bool}(a1:ah prog 249 [.agg (bR mP [v,vI p]),.v (str mP),.v (str [110,110])] (.v (.bool b1)))(a2:ah prog 249 [.agg (bR mP [v,vI p]),.v (str mP),.v (str [109,110])] (.v (.bool b2)))(a3:ah prog 249 [.agg (bR mP [v,vI p]),.v (str mP),.v (str [113,110])] (.v (.bool b3)))(hb:(b1=false/\b2=true)\/(b1=false/\b2=false/\b3=true))(cI:ah prog 410 [.agg (bR mP [v,vI p]),.agg (gfA p)] (.agg (kC r 0 true))):
  ah prog 303 [.agg (bR mP [v,vI p])] (.agg (kC r 0 true)):=by
 have hl:=hp.lt;have hv:[v,vI p][1]? =some (vI p):=rfl;have hb1:(p:Int).natAbs < WB ^ 1:=by rw[zxh,bf];omega
 have w2:=jT hb1 (zq6 1) zc
 have n1:ah prog 252 [.agg (bR mP [v,vI p]),.v (.int .i64 1)] (.agg (zN (p:Int))):=ad5 (i:=1) hv zc w2
 have cW:=apg hp;have cN:=aap hp
 haveI i1:Bd (p:Int) 1:=⟨hb1⟩
 have cS:=aaJ (l:=zN (p:Int)) (z:=(p:Int)) (k:=1) zE
 have hs:¬bG (p:Int) < 0:=by unfold bG;split <;> omega
 rcases hb with⟨rfl,rfl⟩|⟨rfl,rfl,rfl⟩ <;> (
  refine ah.fq func303 ?_;intros
  refine zg ?_;refine azp (o1:=1) (ft:=31) yW rfl rfl rfl ?_
  refine zg ?_;refine jY aj.fF ?_;exact z7 _
 )
theorem anT(hz:∀z∈zs,z.natAbs < WB ^ K)(hK:K<=100000)(hl:zs.length<=10000):ah prog 303 [.agg (bR mP [gP zs,vI p])] (.agg (kC (jS p (bL p (zs.map (zmd p)))) 0 true)):=by
 have hl':=hp.lt;have hb1:(p:Int).natAbs < WB ^ 1:=by rw[zxh,bf];omega
 have w2:=jT hb1 (zq6 1) zc
 obtain⟨z,w1⟩:=om (v:=gP zs) pW.1 pW.2 (fun h=>by have h':(3:Int)=1:=h;omega)
 have s3:=ou (gP zs);rw[decide_eq_true rfl]at s3;refine amB hp (b1:=false) (b2:=false) (b3:=true) (lI (fun i=>i != 0) rfl (zqc rfl) fun i v hv=>?_) (lI (fun i=>i != 0) rfl (zqc rfl) fun i v hv=>?_) (lI (fun i=>true) rfl (zqc rfl) fun i v hv=>?_) (.inr ⟨rfl,rfl,rfl⟩) (aj9 hp hz hK hl)
 ·match i,hv with
  |0,hv=>cases hv;exact fV w1
  |1,hv=>cases hv;exact fV w2
 ·match i,hv with
  |0,hv=>cases hv;exact aaG (aa9 fun h=>by have h':(3:Int)=2:=h;omega)
  |1,hv=>cases hv;exact fV w2
 ·match i,hv with
  |0,hv=>cases hv;exact s3
  |1,hv=>cases hv;exact fV w2
theorem apr{r:Nat}(hl:zs.length=r*c)(hr:r<=64)(hc:c<=64)(hz:∀z∈zs,z.natAbs < WB ^ K)(hK1:1<=K)(hB0:1+(r*c+1)*K<=50000)(hKK:K<=10000):ah prog 303 [.agg (bR mP [dW r c (zs.map fun z:Int=>(z:Rat)),vI p])] (.agg (kC (gu p r c (zs.map (zmd p))) 0 true)):=by
 have hl':=hp.lt;have hb1:(p:Int).natAbs < WB ^ 1:=by rw[zxh,bf];omega
 have w2:=jT hb1 (zq6 1) zc
 obtain⟨z,w1⟩:=om (v:=dW r c (zs.map fun z:Int=>(z:Rat))) pW.1 pW.2 (fun h=>by have h':(2:Int)=1:=h;omega)
 have s3:=ou (dW r c (zs.map fun z:Int=>(z:Rat)))
 have cW:=tZ hl hr hc hz hK1 hB0;refine amB hp (b1:=false) (b2:=true) (b3:=false) (lI (fun i=>i != 0) rfl (zqc rfl) fun i v hv=>?_) (lI (fun i=>true) rfl (zqc rfl) fun i v hv=>?_) (lI (fun i=>i != 0) rfl (zqc rfl) fun i v hv=>?_) (.inl ⟨rfl,rfl⟩) (aju hp hl hr hc hz hK1 hB0 hKK)
 ·match i,hv with
  |0,hv=>cases hv;exact fV w1
  |1,hv=>cases hv;exact fV w2
 ·match i,hv with
  |0,hv=>cases hv;exact wY cW
  |1,hv=>cases hv;exact fV w2
 ·match i,hv with
  |0,hv=>cases hv;rw[decide_eq_false (fun h=>by have h':(2:Int)=3:=h;omega)]at s3;exact s3
  |1,hv=>cases hv;exact fV w2
end
def aeo{w r:Vl}(h:ah prog 346 [.agg (vlA v)] (.tup [.agg (zN z),.one (.c (.val (.bool false)))]))(hM:ah prog 303 [.agg (bR mP [v,w])] (.agg (kC r 0 true))):ah prog 219 [.agg (bR mP [v,w])] (.agg (kC r 0 true)):=by
 have cm:=aad (vs:=[w]) h (zqc rfl);refine ah.fq func219 ?_;intros
 refine zg ?_;refine SX.Go1.sJ (n:=17) (l:=kC r 0 true) rfl rfl rfl rfl rfl ?_;refine zg ?_;refine jY aj.fF ?_;exact z7 _
abbrev groups:List FuncId:=[214,215,216,217,218,219,220]
abbrev vlZ:List Atom:=[.c (.val (.int .i64 0)),.c (.val (.bool false)),.c (.val (.slice none 0 0)),.c (.val (.bool false)),.c (.val (.slice none 0 0)),.c (.val (.int .i64 0)),.c (.val (.int .i64 0)),.c (.val (.slice none 0 0)),.c (.val (.slice none 0 0)),.c (.val (.int .u64 0)),.c (.val (.int .i64 0)),.c (.val (.int .i64 0)),.c (.val (.slice none 0 0)),.c (.val (.slice none 0 0)),.c (.val (.slice none 0 0))]
def oN{vs:List Vl}{r:Vl}{n0:Nat}(htl:t.length<=1000)(hn:n0 < 7)(hl:vs.length<=100000)(hF:∀v∈vs,ah prog 44 [.agg (vlA v)] (.v (.bool true)))(c1:ah prog 146 [.v (str su),.v (str (([32]++t)++[32]))] (.v (.bool true)))(c2:ah prog 146 [.v (str t),.v (str [32])] (.v (.bool false)))(hno:∀(k:Nat) f,k < n0->groups[k]? =some f->ah prog f [.agg (bR t vs)] (.agg qd))(hyes:∀f,groups[n0]? =some f->ah prog f [.agg (bR t vs)] (.agg (kC r 0 true))):
  ah prog 199 [.v (str t),.r (aD 15 vlE vs)] (.tup [.agg (vlA r),eNo 0]):=by
 have hg:groups.length=7:=rfl;refine ah.fq func199 ?_;intros
 refine zg ?_;refine W.loop (fun k=>k<=vs.length) (fun k=>[(0,.v (str t)),(1,.r (aD 15 vlE vs)),(4,.ptr 4 0),(12,.r (aD 15 vlE vs)),(13,.v (.int .i64 (vs.length:Int))),(14,.v (.int .i64 (k:Int)))]) (fun k=>[(4,.box 61 vlZ)]) (fun k=>vs.length - k) 0 (zq8 _) (fun k hk=>?_)
 by_cases h:k < vs.length
 ·obtain⟨v,hv⟩:∃v,vs[k]? =some v:=⟨_,zyh h⟩
  have cF:=hF v (zq4 hv);refine zg ?_;exact W.next (k+1) h zE
 ·obtain rfl:k=vs.length:=zE
  refine zg ?_;refine SX.Go1.aiU (n:=7) (size:=1) (m:=[.val (.func (.func 214) #[] #[]),.val (.func (.func 215) #[] #[]),.val (.func (.func 216) #[] #[]),.val (.func (.func 217) #[] #[]),.val (.func (.func 218) #[] #[]),.val (.func (.func 219) #[] #[]),.val (.func (.func 220) #[] #[])]) (l:=[.c (.val (.func (.func 214) #[] #[])),.c (.val (.func (.func 215) #[] #[])),.c (.val (.func (.func 216) #[] #[])),.c (.val (.func (.func 217) #[] #[])),.c (.val (.func (.func 218) #[] #[])),.c (.val (.func (.func 219) #[] #[])),.c (.val (.func (.func 220) #[] #[]))]) rfl rfl rfl rfl rfl yW rfl rfl ?_
  refine zg ?_;refine W.loop (fun k=>k<=n0) (fun k=>[(4,.ptr 4 0),(8,.ptr 8 0),(36,.r (aD 1 fnC groups)),(37,.v (.int .i64 7)),(38,.v (.int .i64 (k:Int)))]) (fun k=>[(4,.box 61 vlZ),(8,.box 244 (bR t vs))]) (fun k=>n0 - k) 0 (zq8 _) (fun k hk=>?_)
  obtain⟨f,hf⟩:∃f,groups[k]? =some f:=⟨_,zyh zE⟩
  by_cases h2:k < n0
  ·have cV:=FnV.val (hno k f h2 hf);refine zg ?_;exact W.next (k+1) h2 zE
  ·obtain rfl:k=n0:=zE
   have cV:=FnV.val (hyes f hf);refine zg ?_;exact .ok (aA.mk2 aj.fC (aj.tmp rfl))
end
end
