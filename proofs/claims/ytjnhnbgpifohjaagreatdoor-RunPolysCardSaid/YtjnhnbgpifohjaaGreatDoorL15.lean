import Derived.Test.YtjnhnbgpifohjaaGreatDoorL10
import Derived.Test.YtjnhnbgpifohjaaGreatDoorL14
import Derived.Test.YtjnhnbgpifohjaaGreatDoorL6
set_option linter.unusedVariables false
set_option linter.unusedSimpArgs false
open Go.Proofs.Tryz
namespace Go.Proofs.YtjnhnbgpifohjaaGreatDoor
open Go.RowKit QM SX LA
section
abbrev bB(t:List UInt8)(vs:List Vl):List Atom:=[.c (.val (str t)),.c (.sat (aA 15 vlE vs))]
abbrev gW(v:Vl)(e:Int)(b:Bool):List Atom:=[.c (.val (.int .i64 v.k)),.c (.val (.bool v.q.1)),.c (.sat (eT v.q.2.1)),.c (.val (.bool v.q.2.2.1)),.c (.sat (eT v.q.2.2.2)),.c (.val (.int .i64 v.r)),.c (.val (.int .i64 v.c)),.c (.sat (aA 4 q4C (v.a.map rq))),.c (.sat (aA 2 z2C (v.po.map rz))),.c (.val (.int .u64 (v.p:Int))),.c (.val (.int .i64 v.fr)),.c (.val (.int .i64 v.fc)),.c (.sat (aA 1 wdC v.fa)),.c (.sat (aA 1 wdC v.ri)),.c (.sat (aA 15 vlC v.li)),.c (.val (.int .i64 e)),.c (.val (.bool b))]
theorem gu{P:Program}{C:Ctx}{st:St}{r:ResultVar}{x y:AV0}(h:aj P st r x)(e:x.imp y):aN C P [r] ⟨.it y,[]⟩ st:= .ok (aD.mk1 (h.imp e))
attribute [local irreducible] IntKind.wrap Go1 Reg WP aO aR bM bK aN aD aj ak aX Sat
attribute [local irreducible] bO bX bV cK bW qv dH mf PrP qOk zOk vP dP lz vF cq rqv dX aS bU aV fB jn sq aY qS zS tS tbS plS mdS
theorem yY(v:Vl):ah prog 134 [.agg (vlA v),.v (.int .i64 0)] (.agg (gW v 0 true)):=by
 refine ah.fq func134 results134 ntmps134 fun _ _ _ _ _=>?_
 refine zg ?_;refine gu aj.dJ ?_;exact zv _
theorem nC(v:Vl):ah prog 130 [.agg (vlA v)] (.agg (gW v 0 true)):=by
 have c:=yY v;refine ah.fq func130 results130 ntmps130 fun _ _ _ _ _=>?_
 refine zg ?_;refine gu aj.dJ ?_;exact zv _
theorem kH{z:Int}{K:Nat}(hz:z.natAbs < WB ^ K)(h1:1<=K)(hK:K<=100000):ah prog 229 [.agg (vlA (iR (z:Rat)))] (.tup [.agg (zN z),.one (.c (.val (.bool true)))]):=by
 have cw:=avo (RB.ofI hz h1) hK;rw[if_pos (Rat.den_intCast z),decide_eq_true (Rat.den_intCast z),Rat.num_intCast]at cw;refine ah.fq func229 results229 ntmps229 fun _ _ _ _ _=>?_
 refine zg ?_;exact .ok (aD.mk2 aj.gV (aj.tmp rfl))
theorem sU{v:Vl}(hq:Sm WB v.q.2.1/\Sm WB v.q.2.2.2)(hl:v.q.2.1.length<=100000/\v.q.2.2.2.length<=100000)(hk:¬v.k=1):∃z:Int,ah prog 229 [.agg (vlA v)] (.tup [.agg (zN z),.one (.c (.val (.bool false)))]):=by
 obtain⟨z,b,h⟩:∃(z:Int) (b:Bool),ah prog 52 [.agg (q4A (rq v.q))] (.tup [.agg (zN z),.one (.c (.val (.bool b)))]):=⟨_,_,(xY (h:=ZI.raw v.q.1 v.q.2.1) (h':=ZI.raw v.q.2.2.1 v.q.2.2.2)).h zE⟩
 refine⟨z,?_⟩;cases b with
 |true=>
  suffices hs:ah prog 229 [.agg (vlA v)] (.tup [.agg (zN z),.one (.c (.val (.bool (decide (v.k=1)))))])by rwa [decide_eq_false hk]at hs
  refine ah.fq func229 results229 ntmps229 fun w0 T B E0 hB=>?_
  refine zg ?_;exact .ok (aD.mk2 aj.gV (aj.tmp rfl))
 |false=>
  refine ah.fq func229 results229 ntmps229 fun w0 T B E0 hB=>?_
  refine zg ?_;exact .ok (aD.mk2 aj.gV (aj.tmp rfl))
theorem ajU(v:Vl):ah prog 152 [.agg (vlA v),.v (.int .u8 120)] (.v (.bool (decide (v.k=2)))):=by
 refine ah.fq func152 results152 ntmps152 fun _ _ _ _ _=>?_
 refine zg ?_;exact bg rfl
theorem sD(v:Vl):ah prog 152 [.agg (vlA v),.v (.int .u8 113)] (.v (.bool (decide (v.k=3)))):=by
 refine ah.fq func152 results152 ntmps152 fun _ _ _ _ _=>?_
 refine zg ?_;exact bg rfl
theorem acU(v:Vl):ah prog 152 [.agg (vlA v),.v (.int .u8 102)] (.v (.bool (decide (v.k=4)))):=by
 refine ah.fq func152 results152 ntmps152 fun _ _ _ _ _=>?_
 refine zg ?_;exact bg rfl
theorem adS(v:Vl):ah prog 152 [.agg (vlA v),.v (.int .u8 101)] (.v (.bool (decide (v.k=5)))):=by
 refine ah.fq func152 results152 ntmps152 fun _ _ _ _ _=>?_
 refine zg ?_;exact bg rfl
theorem gJ{v:Vl}{z:Int}{b:Bool}(h:ah prog 229 [.agg (vlA v)] (.tup [.agg (zN z),.one (.c (.val (.bool b)))])):ah prog 152 [.agg (vlA v),.v (.int .u8 110)] (.v (.bool b)):=by
 refine ah.fq func152 results152 ntmps152 fun _ _ _ _ _=>?_
 refine zg ?_;exact bg rfl
abbrev zmA(r c:Int)(x:CA):List Atom:=[.c (.val (.int .i64 r)),.c (.val (.int .i64 c)),.c x]
theorem abk{v:Vl}{r c:Int}{b:Bool}(h:ah prog 234 [.agg (vlA v)] (.tup [.agg (zmA r c (.val (.slice none 0 0))),.one (.c (.val (.bool b)))])):ah prog 152 [.agg (vlA v),.v (.int .u8 109)] (.v (.bool b)):=by
 refine ah.fq func152 results152 ntmps152 fun _ _ _ _ _=>?_
 refine zg ?_;exact bg rfl
theorem abn{v:Vl}(hk:¬v.k=2):ah prog 234 [.agg (vlA v)] (.tup [.agg (zmA 0 0 (.val (.slice none 0 0))),.one (.c (.val (.bool false)))]):=by
 refine ah.fq func234 results234 ntmps234 fun _ _ _ _ _=>?_
 refine zg ?_;exact .ok (aD.mk2 aj.bG (aj.tmp rfl))
theorem aiC{t t2 so:List UInt8}{vs:List Vl}(h:(t==t2)=false):ah prog 125 [.agg (bB t vs),.v (str t2),.v (str so)] (.v (.bool false)):=by
 have h2:decide (t=t2)=false:=by simpa using h
 refine ah.fq func125 results125 ntmps125 fun _ _ _ _ _=>?_
 refine zg ?_;exact bg rfl
theorem jE{t so:List UInt8}{vs:List Vl}(f:Nat->Bool)(hl:vs.length=so.length)(hn:vs.length<=1000000)(hf:∀(i:Nat) v,vs[i]? =some v->ah prog 152 [.agg (vlA v),.v (.int .u8 ((byt so i).toNat:Int))] (.v (.bool (f i)))):
  ah prog 125 [.agg (bB t vs),.v (str t),.v (str so)] (.v (.bool ((List.range vs.length).all f))):=by
 have h2:decide (t=t)=true:=decide_eq_true rfl;refine ah.fq func125 results125 ntmps125 fun _ _ _ _ _=>?_
 refine zg ?_;refine W.loop (fun k=>k<=vs.length/\(List.range k).all f=true) (fun k=>[(2,.v (str so)),(22,.r (aA 15 vlE vs)),(23,.v (.int .i64 (vs.length:Int))),(24,.v (.int .i64 (k:Int)))]) (fun _=>[]) (fun k=>vs.length - k) 0 ⟨zq8 _,rfl⟩ (fun k ⟨hk,ha⟩=>?_)
 by_cases hlt:k < vs.length
 ·obtain⟨v,hv⟩:∃v,vs[k]? =some v:=⟨_,zyh hlt⟩
  have c:=hf k v hv;cases hb:f k with
  |true=>
   rw[hb]at c;refine zg ?_;exact W.next (k+1) ⟨hlt,by rw[List.range_succ,List.all_append,ha];simp[hb]⟩ zE
  |false=>
   rw[hb]at c;refine zg ?_;refine bg ?_;rw[eq_comm,List.all_eq_false];exact⟨k,List.mem_range.2 hlt,by rw[hb];decide⟩
 ·obtain rfl:k=vs.length:=zE
  refine zg ?_;exact bg ha.symm
end
section
attribute [local irreducible] IntKind.wrap Go1 Reg WP aO aR bM bK aN aD aj ak aX Sat
attribute [local irreducible] bO bX bV cK bW qv dH mf PrP qOk zOk vP dP lz vF cq rqv dX aS bU aV fB jn sq aY qS zS tS tbS plS mdS
theorem aaO{t:List UInt8}{vs:List Vl}{i:Nat}{v:Vl}{z:Int}{b:Bool}(hv:vs[i]? =some v)(hi:i<=1000)(h:ah prog 229 [.agg (vlA v)] (.tup [.agg (zN z),.one (.c (.val (.bool b)))])):ah prog 127 [.agg (bB t vs),.v (.int .i64 (i:Int))] (.agg (zN z)):=by
 have hl:=xg hv;refine ah.fq func127 results127 ntmps127 fun _ _ _ _ _=>?_
 refine zg ?_;exact nM aj.gV rfl
theorem aeH{z:Int}(h1: -1073741824<=z)(h2:z<=1073741824):ah prog 126 [.agg (zN z)] (.v (.int .i64 z)):=by
 haveI:Bd z 1:=⟨ay0 zE zE⟩
 have c:=ayo (l:=zN z) (z:=z) (k:=1) zc
 have e1:qK z=true:=by
  unfold qK;rw[decide_eq_true zE,decide_eq_true zE];rfl
 have e2:wY z=z:=by unfold wY;rw[e1];rfl
 rw[e1,e2]at c;refine ah.fq func126 results126 ntmps126 fun _ _ _ _ _=>?_
 refine zg ?_;exact fC rfl
theorem ara{r c:Nat}(hr:r<=64)(hc:c<=64):ah prog 74 [.v (.int .i64 (r:Int)),.v (.int .i64 (c:Int))] (.tup [.agg (xL r c (jl c (fun _ _=>0) r)),eNo 0]):=by
 have s1:=(oF (r:Int)).h trivial;have s2:=(oF (c:Int)).h trivial;rw[decide_eq_true (show 0<=(r:Int)/\(r:Int)<=64 by omega)]at s1
 rw[decide_eq_true (show 0<=(c:Int)/\(c:Int)<=64 by omega)]at s2
 have c0:∀i k:Nat,ah prog 122 [.v (.int .i64 (i:Int)),.v (.int .i64 (k:Int))] (.agg (z2A (false,eT []))):=fun i k=>by
  refine ah.fq func122 results122 ntmps122 fun w0 T B E0 hB=>?_
  refine zg ?_;refine oJ aj.gV ?_;exact iO ⟨aB.refl _,aB.lT,trivial⟩
 have cM:=yP (apf r c (.sat (fJ 122 [] [])) (fun _ _=>(false,eT [])) (fun _ _=>0) 1 zE zE zc (fun i k _ _=>FnV.const (c0 i k)) (fun i k _ _=>ZQ.raw (b:=false) (l:=[]) Sm.nil zc) rfl)
 refine ah.fq func74 results74 ntmps74 fun w0 T B E0 hB=>?_
 refine zg ?_;exact .ok (aD.mk2 aj.bG (aj.tmp rfl))
theorem akb(r c:Nat)(zs:List Int):xL r c zs=ag3 r c (zs.map z2v):=by
 show [_,_,Atom.c (.sat (aQ 2 zs.length (zs.flatMap zC)))]=[_,_,Atom.c (.sat (aQ 2 (zs.map z2v).length ((zs.map z2v).flatMap z2C)))];rw[zq5,List.flatMap_map]
theorem ax4(z:Int):qv z 1=(z:Rat):=by unfold qv;grind
theorem aok{c r:Nat}{l:List Rat}{val:Nat->Nat->Rat}(hl:l.length=r*c)(h:∀i k,i < r->k < c->l[i*c+k]? =some (val i k)):nI c val r=l:=by
 refine zyb fun n=>?_
 by_cases hn:n < r*c
 ·have hc:0 < c:=Nat.pos_of_ne_zero (by rintro rfl;simp at hn)
  have h1:n / c < r:=Nat.div_lt_of_lt_mul (by rwa [zxj]at hn)
  have h2:=zyi n hc;have e:n=n / c*c+n % c:=by rw[zxj];exact(Nat.div_add_mod n c).symm
  rw[e,agk h2 h1,h _ _ h1 h2]
 ·rw[zqe (by rw[oV];omega),zqe zE]
theorem ahq{r c:Nat}{zs:List Int}(hl:zs.length=r*c):nI c (fun i k=>qv (zat zs c i k) 1) r=zs.map fun z:Int=>(z:Rat):=by
 refine aok (by rw[zq5];exact hl) fun i k hi hk=>?_
 rw[zqa,agr hl hi hk,ax4];rfl
theorem aeF{r c K:Nat}{zs:List Int}(hl:zs.length=r*c)(hr:r<=64)(hc:c<=64)(hz:∀z∈zs,z.natAbs < WB ^ K)(hK:K<=10000)(hK1:1<=K):ah prog 136 [.agg (xL r c zs)] (.agg (vlA (iC r c (zs.map fun z:Int=>(z:Rat))))):=by
 have cF:=ai5 (MZ.made hz) (by rw[zq5];exact hl) hr hc hK hK1
 rw[<-akb,ahq hl,aau]at cF;have hb:∀x∈zs.map (fun z:Int=>(z:Rat)),RB x K:=fun x hx=>by
  obtain⟨z,hz',rfl⟩:=zqg.1 hx;exact RB.ofI (hz z hz') hK1
 have cM:=xD (r:=r) (c:=c) (MV.made hb) (by rw[zq5,zq5];exact hl) hr hc zE
 refine ah.fq func136 results136 ntmps136 fun _ _ _ _ _=>?_
 refine zg ?_;refine oJ aj.ig ?_;exact zv _
theorem y8{r c K:Nat}{zs:List Int}(hl:zs.length=r*c)(hr:r<=64)(hc:c<=64)(hz:∀z∈zs,z.natAbs < WB ^ K)(hK:K<=10000)(hK1:1<=K):ah prog 128 [.agg (xL r c zs),.v (.int .i64 0)] (.agg (gW (iC r c (zs.map fun z:Int=>(z:Rat))) 0 true)):=by
 have cT:=aeF hl hr hc hz hK hK1;have cD:=yY (iC r c (zs.map fun z:Int=>(z:Rat)))
 refine ah.fq func128 results128 ntmps128 fun _ _ _ _ _=>?_
 refine zg ?_;refine gu aj.dJ ?_;exact zv _
abbrev nS:List UInt8:=[122,101,114,111]
abbrev vo:List UInt8:=[112,111,108,121]
abbrev jT:List UInt8:=[109,111,100]
abbrev vI(z:Int):Vl:=iR (z:Rat)
theorem abD{r:Nat}(h:r<=64):(r:Int).natAbs < WB ^ 1:=by rw[zxh,bJ];omega
theorem acC{r c:Nat}(hr:r<=64)(hc:c<=64):ah prog 80 [.agg (bB nS [vI r,vI c])] (.agg (gW (iC r c ((jl c (fun _ _=>0) r).map fun z:Int=>(z:Rat))) 0 true)):=by
 have w1:=kH (abD hr) (zq6 1) zc
 have w2:=kH (abD hc) (zq6 1) zc
 have cA:ah prog 125 [.agg (bB nS [vI r,vI c]),.v (str nS),.v (str [110,110])] (.v (.bool true)):=jE (fun _=>true) rfl (zqc rfl) (fun i v hv=>by
  match i,hv with
  |0,hv=>cases hv;exact gJ w1
  |1,hv=>cases hv;exact gJ w2)
 have n1:ah prog 127 [.agg (bB nS [vI r,vI c]),.v (.int .i64 0)] (.agg (zN (r:Int))):=aaO (i:=0) rfl zc w1
 have n2:ah prog 127 [.agg (bB nS [vI r,vI c]),.v (.int .i64 1)] (.agg (zN (c:Int))):=aaO (i:=1) rfl zc w2
 have s1:=aeH (z:=(r:Int)) zE zE
 have s2:=aeH (z:=(c:Int)) zE zE
 have cN:=ara hr hc;have cM:=y8 (r:=r) (c:=c) (K:=1) (zs:=jl c (fun _ _=>0) r) (yU ..) hr hc (aug fun _ _ _ _=>by rw[zxh,bJ];decide) zc zc
 refine ah.fq func80 results80 ntmps80 fun _ _ _ _ _=>?_
 refine zg ?_;refine gu aj.dJ ?_;exact zv _
end
section
section
def zmd(p:Nat)(z:Int):Nat:=(z % (p:Int)).toNat
theorem akF{p:Nat}(h:PrP p)(z:Int):zmd p z < p:=by
 have:=h.lt;have h1:=Int.emod_nonneg z (show (p:Int)≠0 by omega)
 have h2:=Int.emod_lt_of_pos z (show (0:Int) < p by omega)
 unfold zmd;omega
theorem aqw{p x:Nat}(h:x < p):zmd p (x:Int)=x:=by
 unfold zmd;rw[Int.emod_eq_of_lt zE zE];rfl
attribute [local irreducible] IntKind.wrap Go1 Reg WP aO aR bM bK aN aD aj ak aX Sat
attribute [local irreducible] bO bX bV cK bW qv dH mf PrP qOk zOk vP dP lz vF cq rqv dX aS bU aV fB jn sq aY qS zS tS tbS plS mdS zmd
theorem ahr{l l':List Atom}{x y:Int}{k m:Nat}[h:ZI l x k][h':ZI l' y m](hy:0 < y)(hk:k+m<=1000000):ah prog 112 [.agg l,.agg l'] (.tup [.agg (zN (x % y)),.one (.c (.val (.bool true)))]):=by
 refine z2 ⟨_,func112,rfl,rfl⟩ fun neg n neg2 n2 hz hz2 hn hn2=>?_
 have cS:=abv (l:=zR neg2 n2 m) (z:=sgn neg2 n2) (k:=m) zE
 have cE:=auu (l:=zR neg n k) (l':=zR neg2 n2 m) (x:=sgn neg n) (y:=sgn neg2 n2) (k:=k) (m:=m) zE
 rw[<-hz2]at cS;rw[<-hz,<-hz2]at cE;have e1:zer x y=x % y:=by unfold zer;rw[if_neg zE]
 rw[e1,decide_eq_true (show y≠0 by omega)]at cE
 have hs:¬bI y<=0:=by unfold bI;rw[if_neg zE,if_neg zE];omega
 refine ah.fq func112 results112 ntmps112 fun _ _ _ _ _=>?_
 refine zg ?_;exact .ok (aD.mk2 aj.gV (aj.tmp rfl))
theorem ahO{p:Nat}(hp:PrP p){b:Bool}{R:Rep}{n k:Nat}(h:NI (.sat R) n k)(hk:k<=100000):ah prog 63 [.agg (gfA p),.agg [.c (.val (.bool b)),.c (.sat R)]] (.v (.int .u64 ((zmd p (sgn b n):Nat):Int))):=by
 have hl:=hp.lt;have cP:=sQ hp;have hpW:p < WB:=by rw[bJ];omega
 have cO:=nOf p hpW
 haveI i1:BdN p 1:=⟨by rw[zxh];exact hpW⟩
 have cF:=qV (a:= .sat (bN p)) (x:=p) (k:=1) false zE
 rw[show sgn false p=(p:Int)from rfl]at cF
 haveI i2:=ZI.mk' (neg:=b) h
 have cM:=ahr (l:=[.c (.val (.bool b)),.c (.sat R)]) (l':=zN (p:Int)) (x:=sgn b n) (y:=(p:Int)) (k:=k) (m:=1) zE zE
 have hlt:=akF hp (sgn b n);have e1:(sgn b n % (p:Int)).natAbs=zmd p (sgn b n):=by
  have:=Int.emod_nonneg (sgn b n) (show (p:Int)≠0 by omega)
  unfold zmd;omega
 haveI i3:BdN (sgn b n % (p:Int)).natAbs 1:=⟨by rw[zxh,e1];omega⟩
 have cW:ah prog 114 [.it (.one (.c (.sat (bN (sgn b n % (p:Int)).natAbs))))] (.tup [.one (.c (.val (.int .u64 ((zmd p (sgn b n):Nat):Int)))),.one (.c (.val (.bool true)))]):=by
  have h:=ahG (a:= .sat (bN (sgn b n % (p:Int)).natAbs)) (x:=(sgn b n % (p:Int)).natAbs) (k:=1) zE
  rw[if_pos (by rw[e1];omega),decide_eq_true (by rw[e1];omega)]at h
  rwa [<-e1]
 refine ah.fq func63 results63 ntmps63 fun _ _ _ _ _=>?_
 refine zg ?_;exact fC rfl
theorem vB{p:Nat}(hp:PrP p){l:List Z2}{zs:List Int}{K:Nat}(hM:MZ l zs K)(hK:K<=100000)(hl:l.length<=10000):ah prog 24 [.r (aA 2 z2C l),.agg (gfA p)] (.r (aA 1 wdC (aH p (zs.map (zmd p))))):=by
 have hpl:=hp.lt;have hlen:=hM.len;have e1:(zs.map (zmd p)).length=l.length:=by rw[zq5,hlen]
 have cN:=iH hp (l:=zs.map (zmd p)) zE (fun x hx=>by
  obtain⟨z,_,rfl⟩:=zqg.1 hx;have:=akF hp z;omega)
 refine ah.fq func24 results24 ntmps24 fun _ _ _ _ hB=>?_
 refine zg ?_;refine W.loop (fun k=>k<=l.length) (fun k=>[(3,.ptr 3 0),(5,.own 100),(8,.r (aA 2 z2C l)),(9,.v (.int .i64 (l.length:Int))),(10,.v (.int .i64 (k:Int)))]) (fun k=>[(3,.box 65 (gfA p)),(100,.row 36 1 k (((zs.take k).map (zmd p)).flatMap wdC))]) (fun k=>l.length - k) 0 (zq8 _) (fun k hk=>?_)
  (by
   refine St.aW [(100,none)] zt ?_ ?_ rfl
   ·exact ye
   ·exact⟨ay.same rfl rfl,ay.dO rfl,trivial⟩)
 by_cases h:k < l.length
 ·obtain⟨q,hq⟩:∃q,l[k]? =some q:=⟨_,zyh h⟩
  obtain⟨z,hzk⟩:∃z,zs[k]? =some z:=⟨_,zyh zE⟩
  obtain⟨n,k',hz,hn,hk'⟩:=(hM.z k q z hq hzk).h;have cO:=ahO hp (b:=q.1) hn zE
  rw[<-hz]at cO;have e2:=wB (enc:=wdC) (f:=zmd p) hzk;refine zg ?_;refine W.next (k+1) h zE (by
   refine St.aW [(100,some 19)] zt ?_ ?_ rfl
   ·exact yb
   ·exact⟨ay.same rfl rfl,ay.row rfl rfl rfl e2,trivial⟩)
 ·obtain rfl:k=l.length:=zE
  rw[hlen,zy8,<-hlen,<-e1];refine WP.freeze 100 hB rfl ?_;refine zg ?_;exact nM (aj.tmp rfl) rfl
theorem rM(p:Nat)(l:List Nat):ah prog 161 [.v (.int .u64 (p:Int)),.r (aA 1 wdC l)] (.agg (vlA (aT p l))):=by
 refine ah.fq func161 results161 ntmps161 fun _ _ _ _ _=>?_
 refine zg ?_;refine oJ aj.ig ?_;exact iO ⟨aB.refl _,aB.refl _,aB.lT,aB.refl _,aB.lT,aB.refl _,aB.refl _,aB.nil,aB.nil,aB.refl _,aB.refl _,aB.refl _,aB.nil,aB.refl _,aB.nil,trivial⟩
theorem ae5(p r c:Nat)(l:List Nat):ah prog 155 [.v (.int .u64 (p:Int)),.agg (fmA r c l)] (.agg (vlA (pR p r c l))):=by
 refine ah.fq func155 results155 ntmps155 fun _ _ _ _ _=>?_
 refine zg ?_;refine oJ aj.ig ?_;exact iO ⟨aB.refl _,aB.refl _,aB.lT,aB.refl _,aB.lT,aB.refl _,aB.refl _,aB.nil,aB.nil,aB.refl _,aB.refl _,aB.refl _,aB.refl _,aB.nil,aB.nil,trivial⟩
end
section
def qQ:List UInt8:=[32,122,101,114,111,32,105,100,32,116,114,97,110,115,112,111,115,101,32,114,111,119,115,32,99,111,108,115,32,100,101,116,32,105,110,118,32,114,97,110,107,32,116,114,97,99,101,32,97,100,106,32,104,110,102,32,109,111,100,104,110,102,32,115,110,102,32,107,101,114,110,101,108,32,105,109,97,103,101,32,115,97,116,117,114,97,116,101,32,115,111,108,118,101,32,108,108,108,32,99,104,97,114,32,109,105,110,32,102,114,111,98,32,105,110,118,97,114,105,97,110,116,115,32,99,111,109,112,97,110,105,111,110,32,112,111,108,121,32,109,111,100,32,108,105,102,116,32,100,101,103,32,101,118,97,108,32,100,101,114,105,118,101,32,103,99,100,32,120,103,99,100,32,102,108,111,111,114,32,114,111,117,110,100,32,97,98,115,32,110,117,109,32,100,101,110,32,112,114,105,109,101,32,99,114,116,32,112,111,119,109,111,100,32,108,101,110,32,102,97,99,116,111,114,115,32]
abbrev fnC(f:FuncId):List CA:=[.val (.func (.func f) #[] #[])]
instance:fF fnC 1:=⟨fun _=>rfl⟩
theorem FnV.val{P:Program}{f:FuncId}{args:List AV}{r:AV}(h:ah P f args r):FnV P (.val (.func (.func f) #[] #[])) args r:=by
 intro S w v hv;cases hv;exact⟨f,[],[],[],[],rfl,fun E=>trivial,fun E=>trivial,by simpa using h⟩
theorem bF{s t:List UInt8}{b:Bool}(hs:s.length < 4294967281)(hb:Lib.contains s t=b):ah prog 79 [.v (str s),.v (str t)] (.v (.bool b)):=by
 refine⟨⟨_,func79,rfl,rfl⟩,fun E S w vs hl hg hv _ _ _=>?_⟩
 match vs,hv with
 |[x,y],⟨h1,h2,_⟩=>
  have h1':x=str s:=h1;have h2':y=str t:=h2;subst h1' h2';obtain⟨_,_,m,hm⟩:=hg.2 0 (by simp[awg])
  refine(strings_Contains ⟨⟨s⟩⟩ ⟨⟨t⟩⟩ m w hs hm).mono ?_;rintro e w' ⟨rfl,rfl⟩;refine⟨_,E,S,rfl,{env:=fun _ _=>⟨rfl,rfl⟩,fpe:=fun _ _=>rfl,sub:=fun _ h=>h,new:=fun _ h=> .inl h,lt:=hl,off:=Off.refl _ _,res:=?_,ents:=fun _ _ h=>(by cases h),blk:=fun _ _ _ h=>(by cases h),sep:=fun _ _ _ _ _ _ h=>(by cases h)}⟩
  show Value.bool (Lib.contains s t)=Value.bool b;rw[hb]
instance con_asI(t t2 so:List UInt8)(vs:List Vl):Con prog 125 [.agg (bB t vs),.v (str t2),.v (str so)] ((t==t2)=false) (.v (.bool false)):=⟨fun h=>aiC h⟩
attribute [local irreducible] IntKind.wrap Go1 Reg WP aO aR bM bK aN aD aj ak aX Sat
attribute [local irreducible] bO bX bV cK bW qv dH mf PrP qOk zOk vP dP lz vF cq rqv dX aS bU aV fB jn sq aY qS zS tS tbS plS mdS zmd
abbrev nP:List Atom:=gW v0 0 false
theorem lJ{P:Program}{C:Ctx}{st:St}{r:ResultVar}(h:aj P st r (.agg [.c (.val (.int .i64 0)),.c (.val (.bool false)),.c (.val (.slice none 0 0)),.c (.val (.bool false)),.c (.val (.slice none 0 0)),.c (.val (.int .i64 0)),.c (.val (.int .i64 0)),.c (.val (.slice none 0 0)),.c (.val (.slice none 0 0)),.c (.val (.int .u64 0)),.c (.val (.int .i64 0)),.c (.val (.int .i64 0)),.c (.val (.slice none 0 0)),.c (.val (.slice none 0 0)),.c (.val (.slice none 0 0)),.c (.val (.int .i64 0)),.c (.val (.bool false))])):aN C P [r] ⟨.it (.agg nP),[]⟩ st:=
 gu h (iO ⟨aB.refl _,aB.refl _,aB.lT,aB.refl _,aB.lT,aB.refl _,aB.refl _,aB.nil,aB.nil,aB.refl _,aB.refl _,aB.refl _,aB.nil,aB.nil,aB.nil,aB.refl _,aB.refl _,trivial⟩)
theorem acR{t:List UInt8}{vs:List Vl}(ht:t=vo\/t=jT):ah prog 80 [.agg (bB t vs)] (.agg nP):=by
 rcases ht with rfl|rfl <;> (
  refine ah.fq func80 results80 ntmps80 fun _ _ _ _ _=>?_
  refine zg ?_;exact lJ aj.dJ
 )
theorem adL{t:List UInt8}{vs:List Vl}(ht:t=vo\/t=jT):ah prog 81 [.agg (bB t vs)] (.agg nP):=by
 rcases ht with rfl|rfl <;> (
  refine ah.fq func81 results81 ntmps81 fun _ _ _ _ _=>?_
  refine zg ?_;exact lJ aj.dJ
 )
theorem xH{t:List UInt8}{vs:List Vl}(ht:t=vo\/t=jT):ah prog 82 [.agg (bB t vs)] (.agg nP):=by
 rcases ht with rfl|rfl <;> (
  refine ah.fq func82 results82 ntmps82 fun _ _ _ _ _=>?_
  refine zg ?_;exact lJ aj.dJ
 )
theorem rZ{t:List UInt8}{vs:List Vl}(ht:t=vo\/t=jT):ah prog 83 [.agg (bB t vs)] (.agg nP):=by
 rcases ht with rfl|rfl <;> (
  refine ah.fq func83 results83 ntmps83 fun _ _ _ _ _=>?_
  refine zg ?_;exact lJ aj.dJ
 )
theorem aan{t:List UInt8}{vs:List Vl}(h:vs.length≠1)(hl:vs.length<=100000):ah prog 84 [.agg (bB t vs)] (.agg nP):=by
 refine ah.fq func84 results84 ntmps84 fun _ _ _ _ _=>?_
 refine zg ?_;exact lJ aj.dJ
theorem adT{t:List UInt8}{v:Vl}(h:¬v.k=4/\¬v.k=5):ah prog 84 [.agg (bB t [v])] (.agg nP):=by
 have hv:[v][0]? =some v:=rfl;have c1:=acU v;have c2:=adS v;rw[decide_eq_false h.1]at c1;rw[decide_eq_false h.2]at c2;refine ah.fq func84 results84 ntmps84 fun _ _ _ _ _=>?_
 refine zg ?_;exact lJ aj.dJ
theorem aiu{l:List Int}:jI (l.map fun z:Int=>(z:Rat))=1:=by
 refine Nat.dvd_one.1 (akB fun v hv=>?_)
 obtain⟨z,_,rfl⟩:=zqg.1 hv;rw[Rat.den_intCast];exact Nat.one_dvd 1
theorem arI(l:List Int):ru (l.map fun z:Int=>(z:Rat))=l:=by
 unfold ru;rw[aiu,zv4];refine(zvg fun z _=>?_).trans (List.map_id l)
 show ((z:Rat)*qj ((1:Nat):Int)).num=z;rw[amK];have:(z:Rat)*(((1:Nat):Int):Rat)=(z:Rat):=by grind
 rw[this];exact Rat.num_intCast z
section
variable{p:Nat}(hp:PrP p){w:Vl}
include hp
theorem ajs{K:Nat}{zs:List Int}(hz:∀z∈zs,z.natAbs < WB ^ K)(hK:K<=100000)(hl:zs.length<=10000):ah prog 276 [.agg (bB jT [bQ zs,w]),.agg (gfA p)] (.agg (gW (aT p (aH p (zs.map (zmd p)))) 0 true)):=by
 have hv:[bQ zs,w][0]? =some (bQ zs):=rfl;have cS:=sD (bQ zs);rw[decide_eq_true rfl]at cS;have cR:=vB hp (MZ.ofz hz) hK (by rw[zq5,zq5];exact hl)
 have cG:=sQ hp;have cr:=rM p (aH p (zs.map (zmd p)));have cf:=nC (aT p (aH p (zs.map (zmd p))));refine ah.fq func276 results276 ntmps276 fun _ _ _ _ _=>?_
 refine zg ?_;refine gu aj.dJ ?_;exact zv _
end
end
section
section
variable{P:Program}{C:Ctx}{st:St}{ops rest:List Oper}{acc:List (List Nat×List Nat)}{K:List (List Nat×List Nat)->St->Prop}{dst:Option Tmp}{ty t:TypeId}{x:Operand}
theorem arb{f o1 ft:Nat}{l:List Atom}{y:Atom}[h1:jC P ft](hf:(P.underlying t).bind (yB · f)=some (o1,ft))(hd:aG dst C.nt=true)(hx:st.ev x=some (.agg l))(hi:l[o1]? =some y)
  (next:Reg P C ops rest (st.app dst ⟨.it (.one y),[]⟩) (([],[])::acc) K):Go1 P C ops dst (.field t x f) ty rest st acc K:=
 Go1.dS [] [] zp hd zp (fun o ho _ st' E S a w hev hs _=>by
  obtain⟨⟨vs,hv,hall⟩,hids⟩:=hs.ev ((hev x (by simp[ho,Op.operands])).trans hx)
  obtain⟨dd,hd1,hd2⟩:=Option.bind_eq_some_iff.1 hf;obtain⟨v,h2,h3⟩:=hall.get hi;refine⟨fun j hj=>hids j (zx9.2 ⟨y,zq4 hi,hj⟩),v,?_,h3⟩
  cases dd <;> simp[yB]at hd2
  rename_i fs;obtain⟨fd,hfd,he1,he2⟩:=hd2;subst he1 he2;unfold execOp;rw[ho];simp[show a.eval x=_ from hv,Instr.field,run_underlying hd1,hfd,part,asAgg,iZ h1.h,h2]) next
end
attribute [local irreducible] IntKind.wrap Go1 Reg WP aO aR bM bK aN aD aj ak aX Sat
attribute [local irreducible] bO bX bV cK bW qv dH mf PrP qOk zOk vP dP lz vF cq rqv dX aS bU aV fB jn sq aY qS zS tS tbS plS mdS zmd
theorem iE{v:Vl}{vs:List Vl}{z:Int}(h:ah prog 229 [.agg (vlA v)] (.tup [.agg (zN z),.one (.c (.val (.bool false)))]))(hl:vs.length<=1000):ah prog 165 [.r (aA 15 vlE (v::vs))] (.tup [.one (.c (.val (.slice none 0 0))),.one (.c (.val (.bool false)))]):=by
 have hv:(v::vs)[0]? =some v:=rfl;have hv2:∀k,k=0->(v::vs)[k]? =some v:=fun k hk=>by subst hk;rfl
 have hlen:(v::vs).length=vs.length+1:=rfl;refine ah.fq func165 results165 ntmps165 fun _ _ _ _ _=>?_
 refine zg ?_;refine W.loop (fun(k:Nat)=>k=0) (fun k=>[(4,.v (.slice none 0 0)),(9,.r (aA 15 vlE (v::vs))),(10,.v (.int .i64 ((v::vs).length:Int))),(11,.v (.int .i64 (k:Int)))]) (fun k=>[]) (fun k=>0) 0 rfl (fun k hk=>?_)
 have hvk:=hv2 k hk;refine zg ?_;exact .ok (aD.mk2 (aj.tmp rfl) (aj.tmp rfl))
theorem afG{zs:List Int}:ah prog 134 [.agg [.c (.val (.int .i64 3)),.c (.val (.bool false)),.c (.val (.slice none 0 0)),.c (.val (.bool false)),.c (.val (.slice none 0 0)),.c (.val (.int .i64 0)),.c (.val (.int .i64 0)),.c (.val (.slice none 0 0)),.c (.sat (aA 2 z2C (zs.map z2v))),.c (.val (.int .u64 0)),.c (.val (.int .i64 0)),.c (.val (.int .i64 0)),.c (.val (.slice none 0 0)),.c (.val (.slice none 0 0)),.c (.val (.slice none 0 0))],.v (.int .i64 0)] (.agg (gW (bQ zs) 0 true)):=by
 refine ah.fq func134 results134 ntmps134 fun _ _ _ _ _=>?_
 refine zg ?_;refine gu aj.dJ ?_;exact iO ⟨aB.refl _,aB.refl _,aB.lT,aB.refl _,aB.lT,aB.refl _,aB.refl _,aB.nil,aB.ints zs,aB.refl _,aB.refl _,aB.refl _,aB.nil,aB.nil,aB.nil,aB.refl _,aB.refl _,trivial⟩
theorem lq{zs:List Int}:ah prog 148 [.r (aA 2 z2C (zs.map z2v)),.v (.int .i64 0)] (.agg (gW (bQ zs) 0 true)):=by
 have cd:=afG (zs:=zs);refine ah.fq func148 results148 ntmps148 fun _ _ _ _ _=>?_
 refine zg ?_;refine gu aj.dJ ?_;exact zv _
theorem uN:(Sm WB rq0.2.1/\Sm WB rq0.2.2.2)/\rq0.2.1.length<=100000/\rq0.2.2.2.length<=100000:=⟨⟨Sm.nil,Sm.nil⟩,zc,zc⟩
section
variable{p:Nat}(hp:PrP p)
include hp
theorem apc:ah prog 114 [.it (.one (.c (.sat (bN (p:Int).natAbs))))] (.tup [.one (.c (.val (.int .u64 (p:Int)))),.one (.c (.val (.bool true)))]):=by
 have hl:=hp.lt;have e:(p:Int).natAbs=p:=zxa p;have hpW:p < WB:=by rw[bJ];omega
 haveI i1:BdN (p:Int).natAbs 1:=⟨by rw[zxh,e];exact hpW⟩
 have h:=ahG (a:= .sat (bN (p:Int).natAbs)) (x:=(p:Int).natAbs) (k:=1) zE
 rw[if_pos (by rw[e];exact hpW),decide_eq_true (by rw[e];exact hpW)]at h
 rw[e]at h ⊢;exact h
theorem aul{v r:Vl}{b1 b2 b3:Bool}(a1:ah prog 125 [.agg (bB jT [v,vI p]),.v (str jT),.v (str [110,110])] (.v (.bool b1)))(a2:ah prog 125 [.agg (bB jT [v,vI p]),.v (str jT),.v (str [109,110])] (.v (.bool b2)))
  (a3:ah prog 125 [.agg (bB jT [v,vI p]),.v (str jT),.v (str [113,110])] (.v (.bool b3))) (hb:(b1=false/\b2=true)\/(b1=false/\b2=false/\b3=true)) (cI:ah prog 276 [.agg (bB jT [v,vI p]),.agg (gfA p)] (.agg (gW r 0 true))):
  ah prog 167 [.agg (bB jT [v,vI p])] (.agg (gW r 0 true)):=by
 have hl:=hp.lt;have hv:[v,vI p][1]? =some (vI p):=rfl;have hb1:(p:Int).natAbs < WB ^ 1:=by rw[zxh,bJ];omega
 have w2:=kH hb1 (zq6 1) zc
 have n1:ah prog 127 [.agg (bB jT [v,vI p]),.v (.int .i64 1)] (.agg (zN (p:Int))):=aaO (i:=1) hv zc w2
 have cW:=apc hp;have cN:=wo hp
 haveI i1:Bd (p:Int) 1:=⟨hb1⟩
 have cS:=abv (l:=zN (p:Int)) (z:=(p:Int)) (k:=1) zE
 have hs:¬bI (p:Int) < 0:=by unfold bI;split <;> omega
 rcases hb with⟨rfl,rfl⟩|⟨rfl,rfl,rfl⟩ <;> (
  refine ah.fq func167 results167 ntmps167 fun _ _ _ _ _=>?_
  refine zg ?_;refine arb (o1:=1) (ft:=29) z6 rfl rfl rfl ?_
  refine zg ?_;refine gu aj.dJ ?_;exact zv _
 )
theorem aeE{K:Nat}{zs:List Int}(hz:∀z∈zs,z.natAbs < WB ^ K)(hK:K<=100000)(hl:zs.length<=10000):ah prog 167 [.agg (bB jT [bQ zs,vI p])] (.agg (gW (aT p (aH p (zs.map (zmd p)))) 0 true)):=by
 have hl':=hp.lt;have hb1:(p:Int).natAbs < WB ^ 1:=by rw[zxh,bJ];omega
 have w2:=kH hb1 (zq6 1) zc
 obtain⟨z,w1⟩:=sU (v:=bQ zs) uN.1 uN.2 (fun h=>by have h':(3:Int)=1:=h;omega)
 have s3:=sD (bQ zs);rw[decide_eq_true rfl]at s3;refine aul hp (b1:=false) (b2:=false) (b3:=true) (jE (fun i=>i != 0) rfl (zqc rfl) fun i v hv=>?_) (jE (fun i=>i != 0) rfl (zqc rfl) fun i v hv=>?_) (jE (fun i=>true) rfl (zqc rfl) fun i v hv=>?_) (.inr ⟨rfl,rfl,rfl⟩) (ajs hp hz hK hl)
 ·match i,hv with
  |0,hv=>cases hv;exact gJ w1
  |1,hv=>cases hv;exact gJ w2
 ·match i,hv with
  |0,hv=>cases hv;exact abk (abn fun h=>by have h':(3:Int)=2:=h;omega)
  |1,hv=>cases hv;exact gJ w2
 ·match i,hv with
  |0,hv=>cases hv;exact s3
  |1,hv=>cases hv;exact gJ w2
end
theorem ael{v w r:Vl}{z:Int}(h:ah prog 229 [.agg (vlA v)] (.tup [.agg (zN z),.one (.c (.val (.bool false)))]))(hM:ah prog 167 [.agg (bB jT [v,w])] (.agg (gW r 0 true))):ah prog 85 [.agg (bB jT [v,w])] (.agg (gW r 0 true)):=by
 have cm:=iE (vs:=[w]) h (zqc rfl);refine ah.fq func85 results85 ntmps85 fun _ _ _ _ _=>?_
 refine zg ?_;refine SX.Go1.qh (n:=17) (l:=gW r 0 true) rfl rfl rfl rfl rfl ?_;refine zg ?_;refine gu aj.dJ ?_;exact zv _
abbrev groups:List FuncId:=[80,81,82,83,84,85,86]
abbrev vlZ:List Atom:=[.c (.val (.int .i64 0)),.c (.val (.bool false)),.c (.val (.slice none 0 0)),.c (.val (.bool false)),.c (.val (.slice none 0 0)),.c (.val (.int .i64 0)),.c (.val (.int .i64 0)),.c (.val (.slice none 0 0)),.c (.val (.slice none 0 0)),.c (.val (.int .u64 0)),.c (.val (.int .i64 0)),.c (.val (.int .i64 0)),.c (.val (.slice none 0 0)),.c (.val (.slice none 0 0)),.c (.val (.slice none 0 0))]
theorem oQ{t:List UInt8}{vs:List Vl}{r:Vl}{n0:Nat}(htl:t.length<=1000)(hn:n0 < 7)(hl:vs.length<=100000)(hF:∀v∈vs,ah prog 78 [.agg (vlA v)] (.v (.bool true)))
  (c1:ah prog 79 [.v (str qQ),.v (str (([32]++t)++[32]))] (.v (.bool true))) (c2:ah prog 79 [.v (str t),.v (str [32])] (.v (.bool false)))
  (hno:∀(k:Nat) f,k < n0->groups[k]? =some f->ah prog f [.agg (bB t vs)] (.agg nP)) (hyes:∀f,groups[n0]? =some f->ah prog f [.agg (bB t vs)] (.agg (gW r 0 true))):
  ah prog 28 [.v (str t),.r (aA 15 vlE vs)] (.tup [.agg (vlA r),eNo 0]):=by
 have hg:groups.length=7:=rfl;refine ah.fq func28 results28 ntmps28 fun _ _ _ _ _=>?_
 refine zg ?_;refine W.loop (fun k=>k<=vs.length) (fun k=>[(0,.v (str t)),(1,.r (aA 15 vlE vs)),(4,.ptr 4 0),(12,.r (aA 15 vlE vs)),(13,.v (.int .i64 (vs.length:Int))),(14,.v (.int .i64 (k:Int)))]) (fun k=>[(4,.box 42 vlZ)]) (fun k=>vs.length - k) 0 (zq8 _) (fun k hk=>?_)
 by_cases h:k < vs.length
 ·obtain⟨v,hv⟩:∃v,vs[k]? =some v:=⟨_,zyh h⟩
  have cF:=hF v (zq4 hv);refine zg ?_;exact W.next (k+1) h zE
 ·obtain rfl:k=vs.length:=zE
  refine zg ?_;refine SX.Go1.abp (n:=7) (size:=1) (m:=[.val (.func (.func 80) #[] #[]),.val (.func (.func 81) #[] #[]),.val (.func (.func 82) #[] #[]),.val (.func (.func 83) #[] #[]),.val (.func (.func 84) #[] #[]),.val (.func (.func 85) #[] #[]),.val (.func (.func 86) #[] #[])]) (l:=[.c (.val (.func (.func 80) #[] #[])),.c (.val (.func (.func 81) #[] #[])),.c (.val (.func (.func 82) #[] #[])),.c (.val (.func (.func 83) #[] #[])),.c (.val (.func (.func 84) #[] #[])),.c (.val (.func (.func 85) #[] #[])),.c (.val (.func (.func 86) #[] #[]))]) rfl rfl rfl rfl rfl z6 rfl rfl ?_
  refine zg ?_;refine W.loop (fun k=>k<=n0) (fun k=>[(4,.ptr 4 0),(8,.ptr 8 0),(36,.r (aA 1 fnC groups)),(37,.v (.int .i64 7)),(38,.v (.int .i64 (k:Int)))]) (fun k=>[(4,.box 42 vlZ),(8,.box 137 (bB t vs))]) (fun k=>n0 - k) 0 (zq8 _) (fun k hk=>?_)
  obtain⟨f,hf⟩:∃f,groups[k]? =some f:=⟨_,zyh zE⟩
  by_cases h2:k < n0
  ·have cV:=FnV.val (hno k f h2 hf);refine zg ?_;exact W.next (k+1) h2 zE
  ·obtain rfl:k=n0:=zE
   have cV:=FnV.val (hyes f hf);refine zg ?_;exact .ok (aD.mk2 aj.ig (aj.tmp rfl))
end
end
