import Derived.Test.YthnkfhfcgjoieaaGreatDoorO11
import Derived.Test.YthnkfhfcgjoieaaGreatDoorO15
import Derived.Test.YthnkfhfcgjoieaaGreatDoorO6
set_option linter.unusedVariables false
set_option linter.unusedSimpArgs false
open Go.Proofs.Tryz
namespace Go.Proofs.YthnkfhfcgjoieaaGreatDoor
open Go.RowKit QM SX LA
section
abbrev bR(t:List UInt8)(vs:List Vl):List Atom:=[.c (.val (str t)),.c (.sat (aB 15 vlE vs))]
abbrev iW(v:Vl)(e:Int)(b:Bool):List Atom:=[.c (.val (.int .i64 v.k)),.c (.val (.bool v.q.1)),.c (.sat (bL v.q.2.1)),.c (.val (.bool v.q.2.2.1)),.c (.sat (bL v.q.2.2.2)),.c (.val (.int .i64 v.r)),.c (.val (.int .i64 v.c)),.c (.sat (aB 4 q4C (v.a.map rq))),.c (.sat (aB 2 z2C (v.po.map rz))),.c (.val (.int .u64 (v.p:Int))),.c (.val (.int .i64 v.fr)),.c (.val (.int .i64 v.fc)),.c (.sat (aB 1 wdC v.fa)),.c (.sat (aB 1 wdC v.ri)),.c (.sat (aB 15 vlC v.li)),.c (.val (.int .i64 e)),.c (.val (.bool b))]
theorem fK{P:Program}{C:Ctx}{st:St}{r:ResultVar}{x y:AV0}(h:ak P st r x)(e:x.imp y):aM C P [r] ⟨.it y,[]⟩ st:= .ok (aA.mk1 (h.imp e))
attribute [local irreducible] IntKind.wrap Go1 Reg WP aJ aN bF bD aM aA ak aj aT Sat
attribute [local irreducible] bK bO bM bS bN qv bZ mf PrP qOk zOk vP dx lz vF cq rqv dI aX bG aV dN jn sq aW qS zS tS tbS plS mdS
theorem sP(v:Vl):ah prog 104 [.agg (vlA v),.v (.int .i64 0)] (.agg (iW v 0 true)):=by
 refine ah.fq func104 results104 ntmps104 fun _ _ _ _ _=>?_
 refine zg ?_;refine fK ak.dW ?_;exact zv _
theorem mh(v:Vl):ah prog 100 [.agg (vlA v)] (.agg (iW v 0 true)):=by
 have c:=sP v;refine ah.fq func100 results100 ntmps100 fun _ _ _ _ _=>?_
 refine zg ?_;refine fK ak.dW ?_;exact zv _
theorem dG{z:Int}{K:Nat}(hz:z.natAbs < WB ^ K)(h1:1<=K)(hK:K<=100000):ah prog 192 [.agg (vlA (bW (z:Rat)))] (.tup [.agg (zN z),.one (.c (.val (.bool true)))]):=by
 have cw:=ai0 (RB.ofI hz h1) hK;rw[if_pos (Rat.den_intCast z),decide_eq_true (Rat.den_intCast z),Rat.num_intCast]at cw;refine ah.fq func192 results192 ntmps192 fun _ _ _ _ _=>?_
 refine zg ?_;exact .ok (aA.mk2 ak.dP (ak.tmp rfl))
theorem uU{v:Vl}(hq:Sm WB v.q.2.1/\Sm WB v.q.2.2.2)(hl:v.q.2.1.length<=100000/\v.q.2.2.2.length<=100000)(hk:¬v.k=1):∃z:Int,ah prog 192 [.agg (vlA v)] (.tup [.agg (zN z),.one (.c (.val (.bool false)))]):=by
 obtain⟨z,b,h⟩:∃(z:Int) (b:Bool),ah prog 227 [.agg (q4A (rq v.q))] (.tup [.agg (zN z),.one (.c (.val (.bool b)))]):=⟨_,_,(uM (h:=ZI.raw v.q.1 v.q.2.1) (h':=ZI.raw v.q.2.2.1 v.q.2.2.2)).h zE⟩
 refine⟨z,?_⟩;cases b with
 |true=>
  suffices hs:ah prog 192 [.agg (vlA v)] (.tup [.agg (zN z),.one (.c (.val (.bool (decide (v.k=1)))))])by rwa [decide_eq_false hk]at hs
  refine ah.fq func192 results192 ntmps192 fun w0 T B E0 hB=>?_
  refine zg ?_;exact .ok (aA.mk2 ak.dP (ak.tmp rfl))
 |false=>
  refine ah.fq func192 results192 ntmps192 fun w0 T B E0 hB=>?_
  refine zg ?_;exact .ok (aA.mk2 ak.dP (ak.tmp rfl))
theorem ahM(v:Vl):ah prog 127 [.agg (vlA v),.v (.int .u8 114)] (.v (.bool (decide (v.k=1)))):=by
 refine ah.fq func127 results127 ntmps127 fun _ _ _ _ _=>?_
 refine zg ?_;exact bf rfl
theorem aif(v:Vl):ah prog 127 [.agg (vlA v),.v (.int .u8 120)] (.v (.bool (decide (v.k=2)))):=by
 refine ah.fq func127 results127 ntmps127 fun _ _ _ _ _=>?_
 refine zg ?_;exact bf rfl
theorem aa3(v:Vl):ah prog 127 [.agg (vlA v),.v (.int .u8 113)] (.v (.bool (decide (v.k=3)))):=by
 refine ah.fq func127 results127 ntmps127 fun _ _ _ _ _=>?_
 refine zg ?_;exact bf rfl
theorem aht(v:Vl):ah prog 127 [.agg (vlA v),.v (.int .u8 102)] (.v (.bool (decide (v.k=4)))):=by
 refine ah.fq func127 results127 ntmps127 fun _ _ _ _ _=>?_
 refine zg ?_;exact bf rfl
theorem u7(v:Vl):ah prog 127 [.agg (vlA v),.v (.int .u8 101)] (.v (.bool (decide (v.k=5)))):=by
 refine ah.fq func127 results127 ntmps127 fun _ _ _ _ _=>?_
 refine zg ?_;exact bf rfl
theorem uV(v:Vl):ah prog 127 [.agg (vlA v),.v (.int .u8 108)] (.v (.bool (decide (v.k=6)))):=by
 refine ah.fq func127 results127 ntmps127 fun _ _ _ _ _=>?_
 refine zg ?_;exact bf rfl
theorem jk{v:Vl}{z:Int}{b:Bool}(h:ah prog 192 [.agg (vlA v)] (.tup [.agg (zN z),.one (.c (.val (.bool b)))])):ah prog 127 [.agg (vlA v),.v (.int .u8 110)] (.v (.bool b)):=by
 refine ah.fq func127 results127 ntmps127 fun _ _ _ _ _=>?_
 refine zg ?_;exact bf rfl
theorem aeW{t t2 so:List UInt8}{vs:List Vl}(h:(t==t2)=false):ah prog 94 [.agg (bR t vs),.v (str t2),.v (str so)] (.v (.bool false)):=by
 have h2:decide (t=t2)=false:=by simpa using h
 refine ah.fq func94 results94 ntmps94 fun _ _ _ _ _=>?_
 refine zg ?_;exact bf rfl
theorem oz{t so:List UInt8}{vs:List Vl}(f:Nat->Bool)(hl:vs.length=so.length)(hn:vs.length<=1000000)(hf:∀(i:Nat) v,vs[i]? =some v->ah prog 127 [.agg (vlA v),.v (.int .u8 ((byt so i).toNat:Int))] (.v (.bool (f i)))):
  ah prog 94 [.agg (bR t vs),.v (str t),.v (str so)] (.v (.bool ((List.range vs.length).all f))):=by
 have h2:decide (t=t)=true:=decide_eq_true rfl;refine ah.fq func94 results94 ntmps94 fun _ _ _ _ _=>?_
 refine zg ?_;refine W.loop (fun k=>k<=vs.length/\(List.range k).all f=true) (fun k=>[(2,.v (str so)),(22,.r (aB 15 vlE vs)),(23,.v (.int .i64 (vs.length:Int))),(24,.v (.int .i64 (k:Int)))]) (fun _=>[]) (fun k=>vs.length - k) 0 ⟨zq8 _,rfl⟩ (fun k ⟨hk,ha⟩=>?_)
 by_cases hlt:k < vs.length
 ·obtain⟨v,hv⟩:∃v,vs[k]? =some v:=⟨_,zyh hlt⟩
  have c:=hf k v hv;cases hb:f k with
  |true=>
   rw[hb]at c;refine zg ?_;exact W.next (k+1) ⟨hlt,by rw[List.range_succ,List.all_append,ha];simp[hb]⟩ zE
  |false=>
   rw[hb]at c;refine zg ?_;refine bf ?_;rw[eq_comm,List.all_eq_false];exact⟨k,List.mem_range.2 hlt,by rw[hb];decide⟩
 ·obtain rfl:k=vs.length:=zE
  refine zg ?_;exact bf ha.symm
end
section
attribute [local irreducible] IntKind.wrap Go1 Reg WP aJ aN bF bD aM aA ak aj aT Sat
attribute [local irreducible] bK bO bM bS bN qv bZ mf PrP qOk zOk vP dx lz vF cq rqv dI aX bG aV dN jn sq aW qS zS tS tbS plS mdS
theorem lC{t:List UInt8}{vs:List Vl}{i:Nat}{v:Vl}{z:Int}{b:Bool}(hv:vs[i]? =some v)(hi:i<=1000)(h:ah prog 192 [.agg (vlA v)] (.tup [.agg (zN z),.one (.c (.val (.bool b)))])):ah prog 97 [.agg (bR t vs),.v (.int .i64 (i:Int))] (.agg (zN z)):=by
 have hl:=qJ hv;refine ah.fq func97 results97 ntmps97 fun _ _ _ _ _=>?_
 refine zg ?_;exact nP ak.dP rfl
theorem acy{z:Int}(h1: -1073741824<=z)(h2:z<=1073741824):ah prog 96 [.agg (zN z)] (.v (.int .i64 z)):=by
 haveI:Bd z 1:=⟨auk zE zE⟩
 have c:=aqw (l:=zN z) (z:=z) (k:=1) zc
 have e1:kL z=true:=by
  unfold kL;rw[decide_eq_true zE,decide_eq_true zE];rfl
 have e2:qH z=z:=by unfold qH;rw[e1];rfl
 rw[e1,e2]at c;refine ah.fq func96 results96 ntmps96 fun _ _ _ _ _=>?_
 refine zg ?_;exact iw rfl
theorem aof{r c:Nat}(hr:r<=64)(hc:c<=64):ah prog 95 [.v (.int .i64 (r:Int)),.v (.int .i64 (c:Int))] (.tup [.agg (aay r c (lX c (fun _ _=>0) r)),eNo 0]):=by
 have s1:=(sQ (r:Int)).h trivial;have s2:=(sQ (c:Int)).h trivial;rw[decide_eq_true (show 0<=(r:Int)/\(r:Int)<=64 by omega)]at s1
 rw[decide_eq_true (show 0<=(c:Int)/\(c:Int)<=64 by omega)]at s2
 have c0:∀i k:Nat,ah prog 191 [.v (.int .i64 (i:Int)),.v (.int .i64 (k:Int))] (.agg (z2A (false,bL []))):=fun i k=>by
  refine ah.fq func191 results191 ntmps191 fun w0 T B E0 hB=>?_
  refine zg ?_;refine u6 ak.dP ?_;exact jA ⟨aF.refl _,aF.qU,trivial⟩
 have cM:=zT (al0 r c (.sat (fD 191 [] [])) (fun _ _=>(false,bL [])) (fun _ _=>0) 1 zE zE zc (fun i k _ _=>FnV.const (c0 i k)) (fun i k _ _=>ZQ.raw (b:=false) (l:=[]) Sm.nil zc) rfl)
 refine ah.fq func95 results95 ntmps95 fun w0 T B E0 hB=>?_
 refine zg ?_;exact .ok (aA.mk2 ak.bQ (ak.tmp rfl))
theorem atO(r c:Nat)(zs:List Int):aay r c zs=adp r c (zs.map z2v):=by
 show [_,_,Atom.c (.sat (aQ 2 zs.length (zs.flatMap zC)))]=[_,_,Atom.c (.sat (aQ 2 (zs.map z2v).length ((zs.map z2v).flatMap z2C)))];rw[zq5,List.flatMap_map]
theorem aug(z:Int):qv z 1=(z:Rat):=by unfold qv;grind
theorem alq{c r:Nat}{l:List Rat}{val:Nat->Nat->Rat}(hl:l.length=r*c)(h:∀i k,i < r->k < c->l[i*c+k]? =some (val i k)):lZ c val r=l:=by
 refine zyb fun n=>?_
 by_cases hn:n < r*c
 ·have hc:0 < c:=Nat.pos_of_ne_zero (by rintro rfl;simp at hn)
  have h1:n / c < r:=Nat.div_lt_of_lt_mul (by rwa [zxj]at hn)
  have h2:=zyi n hc;have e:n=n / c*c+n % c:=by rw[zxj];exact(Nat.div_add_mod n c).symm
  rw[e,aed h2 h1,h _ _ h1 h2]
 ·rw[zqe (by rw[ny];omega),zqe zE]
theorem aod{r c:Nat}{zs:List Int}(hl:zs.length=r*c):lZ c (fun i k=>qv (zat zs c i k) 1) r=zs.map fun z:Int=>(z:Rat):=by
 refine alq (by rw[zq5];exact hl) fun i k hi hk=>?_
 rw[zqa,aej hl hi hk,aug];rfl
theorem alo{r c K:Nat}{zs:List Int}(hl:zs.length=r*c)(hr:r<=64)(hc:c<=64)(hz:∀z∈zs,z.natAbs < WB ^ K)(hK:K<=10000)(hK1:1<=K):ah prog 106 [.agg (aay r c zs)] (.agg (vlA (iJ r c (zs.map fun z:Int=>(z:Rat))))):=by
 have cF:=aqC (MZ.made hz) (by rw[zq5];exact hl) hr hc hK hK1
 rw[<-atO,aod hl,ac3]at cF;have hb:∀x∈zs.map (fun z:Int=>(z:Rat)),RB x K:=fun x hx=>by
  obtain⟨z,hz',rfl⟩:=zqg.1 hx;exact RB.ofI (hz z hz') hK1
 have cM:=aaS (r:=r) (c:=c) (MV.made hb) (by rw[zq5,zq5];exact hl) hr hc zE
 refine ah.fq func106 results106 ntmps106 fun _ _ _ _ _=>?_
 refine zg ?_;refine u6 ak.gL ?_;exact zv _
theorem aea{r c K:Nat}{zs:List Int}(hl:zs.length=r*c)(hr:r<=64)(hc:c<=64)(hz:∀z∈zs,z.natAbs < WB ^ K)(hK:K<=10000)(hK1:1<=K):ah prog 98 [.agg (aay r c zs),.v (.int .i64 0)] (.agg (iW (iJ r c (zs.map fun z:Int=>(z:Rat))) 0 true)):=by
 have cT:=alo hl hr hc hz hK hK1;have cD:=sP (iJ r c (zs.map fun z:Int=>(z:Rat)))
 refine ah.fq func98 results98 ntmps98 fun _ _ _ _ _=>?_
 refine zg ?_;refine fK ak.dW ?_;exact zv _
abbrev mG:List UInt8:=[122,101,114,111]
abbrev vI(z:Int):Vl:=bW (z:Rat)
theorem aar{r:Nat}(h:r<=64):(r:Int).natAbs < WB ^ 1:=by rw[zxh,dn];omega
theorem abj{r c:Nat}(hr:r<=64)(hc:c<=64):ah prog 67 [.agg (bR mG [vI r,vI c])] (.agg (iW (iJ r c ((lX c (fun _ _=>0) r).map fun z:Int=>(z:Rat))) 0 true)):=by
 have w1:=dG (aar hr) (zq6 1) zc
 have w2:=dG (aar hc) (zq6 1) zc
 have cA:ah prog 94 [.agg (bR mG [vI r,vI c]),.v (str mG),.v (str [110,110])] (.v (.bool true)):=oz (fun _=>true) rfl (zqc rfl) (fun i v hv=>by
  match i,hv with
  |0,hv=>cases hv;exact jk w1
  |1,hv=>cases hv;exact jk w2)
 have n1:ah prog 97 [.agg (bR mG [vI r,vI c]),.v (.int .i64 0)] (.agg (zN (r:Int))):=lC (i:=0) rfl zc w1
 have n2:ah prog 97 [.agg (bR mG [vI r,vI c]),.v (.int .i64 1)] (.agg (zN (c:Int))):=lC (i:=1) rfl zc w2
 have s1:=acy (z:=(r:Int)) zE zE
 have s2:=acy (z:=(c:Int)) zE zE
 have cN:=aof hr hc;have cM:=aea (r:=r) (c:=c) (K:=1) (zs:=lX c (fun _ _=>0) r) (wQ ..) hr hc (arC fun _ _ _ _=>by rw[zxh,dn];decide) zc zc
 refine ah.fq func67 results67 ntmps67 fun _ _ _ _ _=>?_
 refine zg ?_;refine fK ak.dW ?_;exact zv _
end
section
section
def zmd(p:Nat)(z:Int):Nat:=(z % (p:Int)).toNat
attribute [local irreducible] IntKind.wrap Go1 Reg WP aJ aN bF bD aM aA ak aj aT Sat
attribute [local irreducible] bK bO bM bS bN qv bZ mf PrP qOk zOk vP dx lz vF cq rqv dI aX bG aV dN jn sq aW qS zS tS tbS plS mdS zmd
theorem yV{l l':List Atom}{x y:Int}{k m:Nat}[h:ZI l x k][h':ZI l' y m](hy:0 < y)(hk:k+m<=1000000):ah prog 39 [.agg l,.agg l'] (.tup [.agg (zN (x % y)),.one (.c (.val (.bool true)))]):=by
 refine z2 ⟨_,func39,rfl,rfl⟩ fun neg n neg2 n2 hz hz2 hn hn2=>?_
 have cS:=jQ (l:=zR neg2 n2 m) (z:=sgn neg2 n2) (k:=m) zE
 have cE:=aiX (l:=zR neg n k) (l':=zR neg2 n2 m) (x:=sgn neg n) (y:=sgn neg2 n2) (k:=k) (m:=m) zE
 rw[<-hz2]at cS;rw[<-hz,<-hz2]at cE;have e1:zer x y=x % y:=by unfold zer;rw[if_neg zE]
 rw[e1,decide_eq_true (show y≠0 by omega)]at cE
 have hs:¬aS y<=0:=by unfold aS;rw[if_neg zE,if_neg zE];omega
 refine ah.fq func39 results39 ntmps39 fun _ _ _ _ _=>?_
 refine zg ?_;exact .ok (aA.mk2 ak.dP (ak.tmp rfl))
end
section
def mD:List UInt8:=[32,122,101,114,111,32,105,100,32,116,114,97,110,115,112,111,115,101,32,114,111,119,115,32,99,111,108,115,32,100,101,116,32,105,110,118,32,114,97,110,107,32,116,114,97,99,101,32,97,100,106,32,104,110,102,32,109,111,100,104,110,102,32,115,110,102,32,107,101,114,110,101,108,32,105,109,97,103,101,32,115,97,116,117,114,97,116,101,32,115,111,108,118,101,32,108,108,108,32,99,104,97,114,32,109,105,110,32,102,114,111,98,32,105,110,118,97,114,105,97,110,116,115,32,99,111,109,112,97,110,105,111,110,32,112,111,108,121,32,109,111,100,32,108,105,102,116,32,100,101,103,32,101,118,97,108,32,100,101,114,105,118,101,32,103,99,100,32,120,103,99,100,32,102,108,111,111,114,32,114,111,117,110,100,32,97,98,115,32,110,117,109,32,100,101,110,32,112,114,105,109,101,32,99,114,116,32,112,111,119,109,111,100,32,108,101,110,32,102,97,99,116,111,114,115,32]
abbrev fnC(f:FuncId):List CA:=[.val (.func (.func f) #[] #[])]
instance:eY fnC 1:=⟨fun _=>rfl⟩
theorem FnV.val{P:Program}{f:FuncId}{args:List AV}{r:AV}(h:ah P f args r):FnV P (.val (.func (.func f) #[] #[])) args r:=by
 intro S w v hv;cases hv;exact⟨f,[],[],[],[],rfl,fun E=>trivial,fun E=>trivial,by simpa using h⟩
theorem aO{s t:List UInt8}{b:Bool}(hs:s.length < 4294967281)(hb:Lib.contains s t=b):ah prog 66 [.v (str s),.v (str t)] (.v (.bool b)):=by
 refine⟨⟨_,func66,rfl,rfl⟩,fun E S w vs hl hg hv _ _ _=>?_⟩
 match vs,hv with
 |[x,y],⟨h1,h2,_⟩=>
  have h1':x=str s:=h1;have h2':y=str t:=h2;subst h1' h2';obtain⟨_,_,m,hm⟩:=hg.2 0 (by simp[atC])
  refine(strings_Contains ⟨⟨s⟩⟩ ⟨⟨t⟩⟩ m w hs hm).mono ?_;rintro e w' ⟨rfl,rfl⟩;refine⟨_,E,S,rfl,{env:=fun _ _=>⟨rfl,rfl⟩,fpe:=fun _ _=>rfl,sub:=fun _ h=>h,new:=fun _ h=> .inl h,lt:=hl,off:=Off.refl _ _,res:=?_,ents:=fun _ _ h=>(by cases h),blk:=fun _ _ _ h=>(by cases h),sep:=fun _ _ _ _ _ _ h=>(by cases h)}⟩
  show Value.bool (Lib.contains s t)=Value.bool b;rw[hb]
instance con_asI(t t2 so:List UInt8)(vs:List Vl):Con prog 94 [.agg (bR t vs),.v (str t2),.v (str so)] ((t==t2)=false) (.v (.bool false)):=⟨fun h=>aeW h⟩
attribute [local irreducible] IntKind.wrap Go1 Reg WP aJ aN bF bD aM aA ak aj aT Sat
attribute [local irreducible] bK bO bM bS bN qv bZ mf PrP qOk zOk vP dx lz vF cq rqv dI aX bG aV dN jn sq aW qS zS tS tbS plS mdS zmd
abbrev nk:List Atom:=iW v0 0 false
theorem mH{P:Program}{C:Ctx}{st:St}{r:ResultVar}(h:ak P st r (.agg [.c (.val (.int .i64 0)),.c (.val (.bool false)),.c (.val (.slice none 0 0)),.c (.val (.bool false)),.c (.val (.slice none 0 0)),.c (.val (.int .i64 0)),.c (.val (.int .i64 0)),.c (.val (.slice none 0 0)),.c (.val (.slice none 0 0)),.c (.val (.int .u64 0)),.c (.val (.int .i64 0)),.c (.val (.int .i64 0)),.c (.val (.slice none 0 0)),.c (.val (.slice none 0 0)),.c (.val (.slice none 0 0)),.c (.val (.int .i64 0)),.c (.val (.bool false))])):aM C P [r] ⟨.it (.agg nk),[]⟩ st:=
 fK h (jA ⟨aF.refl _,aF.refl _,aF.qU,aF.refl _,aF.qU,aF.refl _,aF.refl _,aF.nil,aF.nil,aF.refl _,aF.refl _,aF.refl _,aF.nil,aF.nil,aF.nil,aF.refl _,aF.refl _,trivial⟩)
theorem oU{t:List UInt8}{vs:List Vl}(h:vs.length≠1)(hl:vs.length<=100000):ah prog 71 [.agg (bR t vs)] (.agg nk):=by
 refine ah.fq func71 results71 ntmps71 fun _ _ _ _ _=>?_
 refine zg ?_;exact mH ak.dW
theorem uJ{t:List UInt8}{v:Vl}(h:¬v.k=4/\¬v.k=5):ah prog 71 [.agg (bR t [v])] (.agg nk):=by
 have hv:[v][0]? =some v:=rfl;have c1:=aht v;have c2:=u7 v;rw[decide_eq_false h.1]at c1;rw[decide_eq_false h.2]at c2;refine ah.fq func71 results71 ntmps71 fun _ _ _ _ _=>?_
 refine zg ?_;exact mH ak.dW
theorem ae3{l:List Int}:jl (l.map fun z:Int=>(z:Rat))=1:=by
 refine Nat.dvd_one.1 (aiq fun v hv=>?_)
 obtain⟨z,_,rfl⟩:=zqg.1 hv;rw[Rat.den_intCast];exact Nat.one_dvd 1
theorem aq7(l:List Int):oK (l.map fun z:Int=>(z:Rat))=l:=by
 unfold oK;rw[ae3,zv4];refine(zvg fun z _=>?_).trans (List.map_id l)
 show ((z:Rat)*qj ((1:Nat):Int)).num=z;rw[aki];have:(z:Rat)*(((1:Nat):Int):Rat)=(z:Rat):=by grind
 rw[this];exact Rat.num_intCast z
section
variable{p:Nat}(hp:PrP p){w:Vl}
include hp
end
end
section
section
variable{P:Program}{C:Ctx}{st:St}{ops rest:List Oper}{acc:List (List Nat×List Nat)}{K:List (List Nat×List Nat)->St->Prop}{dst:Option Tmp}{ty t:TypeId}{x:Operand}
theorem agZ{f o1 ft:Nat}{l:List Atom}{y:Atom}[h1:iK P ft](hf:(P.underlying t).bind (wK · f)=some (o1,ft))(hd:aC dst C.nt=true)(hx:st.ev x=some (.agg l))(hi:l[o1]? =some y)
  (next:Reg P C ops rest (st.app dst ⟨.it (.one y),[]⟩) (([],[])::acc) K):Go1 P C ops dst (.field t x f) ty rest st acc K:=
 Go1.dM [] [] zp hd zp (fun o ho _ st' E S a w hev hs _=>by
  obtain⟨⟨vs,hv,hall⟩,hids⟩:=hs.ev ((hev x (by simp[ho,Op.operands])).trans hx)
  obtain⟨dd,hd1,hd2⟩:=Option.bind_eq_some_iff.1 hf;obtain⟨v,h2,h3⟩:=hall.get hi;refine⟨fun j hj=>hids j (zx9.2 ⟨y,zq4 hi,hj⟩),v,?_,h3⟩
  cases dd <;> simp[wK]at hd2
  rename_i fs;obtain⟨fd,hfd,he1,he2⟩:=hd2;subst he1 he2;unfold execOp;rw[ho];simp[show a.eval x=_ from hv,Instr.field,run_underlying hd1,hfd,part,asAgg,iq h1.h,h2]) next
end
attribute [local irreducible] IntKind.wrap Go1 Reg WP aJ aN bF bD aM aA ak aj aT Sat
attribute [local irreducible] bK bO bM bS bN qv bZ mf PrP qOk zOk vP dx lz vF cq rqv dI aX bG aV dN jn sq aW qS zS tS tbS plS mdS zmd
theorem tC{v:Vl}{vs:List Vl}{z:Int}(h:ah prog 192 [.agg (vlA v)] (.tup [.agg (zN z),.one (.c (.val (.bool false)))]))(hl:vs.length<=1000):ah prog 141 [.r (aB 15 vlE (v::vs))] (.tup [.one (.c (.val (.slice none 0 0))),.one (.c (.val (.bool false)))]):=by
 have hv:(v::vs)[0]? =some v:=rfl;have hv2:∀k,k=0->(v::vs)[k]? =some v:=fun k hk=>by subst hk;rfl
 have hlen:(v::vs).length=vs.length+1:=rfl;refine ah.fq func141 results141 ntmps141 fun _ _ _ _ _=>?_
 refine zg ?_;refine W.loop (fun(k:Nat)=>k=0) (fun k=>[(4,.v (.slice none 0 0)),(9,.r (aB 15 vlE (v::vs))),(10,.v (.int .i64 ((v::vs).length:Int))),(11,.v (.int .i64 (k:Int)))]) (fun k=>[]) (fun k=>0) 0 rfl (fun k hk=>?_)
 have hvk:=hv2 k hk;refine zg ?_;exact .ok (aA.mk2 (ak.tmp rfl) (ak.tmp rfl))
theorem xL:(Sm WB rq0.2.1/\Sm WB rq0.2.2.2)/\rq0.2.1.length<=100000/\rq0.2.2.2.length<=100000:=⟨⟨Sm.nil,Sm.nil⟩,zc,zc⟩
section
variable{p:Nat}(hp:PrP p)
include hp
end
abbrev groups:List FuncId:=[67,68,69,70,71,72,73]
abbrev vlZ:List Atom:=[.c (.val (.int .i64 0)),.c (.val (.bool false)),.c (.val (.slice none 0 0)),.c (.val (.bool false)),.c (.val (.slice none 0 0)),.c (.val (.int .i64 0)),.c (.val (.int .i64 0)),.c (.val (.slice none 0 0)),.c (.val (.slice none 0 0)),.c (.val (.int .u64 0)),.c (.val (.int .i64 0)),.c (.val (.int .i64 0)),.c (.val (.slice none 0 0)),.c (.val (.slice none 0 0)),.c (.val (.slice none 0 0))]
theorem lW{t:List UInt8}{vs:List Vl}{r:Vl}{n0:Nat}(htl:t.length<=1000)(hn:n0 < 7)(hl:vs.length<=100000)(hF:∀v∈vs,ah prog 65 [.agg (vlA v)] (.v (.bool true)))
  (c1:ah prog 66 [.v (str mD),.v (str (([32]++t)++[32]))] (.v (.bool true))) (c2:ah prog 66 [.v (str t),.v (str [32])] (.v (.bool false)))
  (hno:∀(k:Nat) f,k < n0->groups[k]? =some f->ah prog f [.agg (bR t vs)] (.agg nk)) (hyes:∀f,groups[n0]? =some f->ah prog f [.agg (bR t vs)] (.agg (iW r 0 true))):
  ah prog 46 [.v (str t),.r (aB 15 vlE vs)] (.tup [.agg (vlA r),eNo 0]):=by
 have hg:groups.length=7:=rfl;refine ah.fq func46 results46 ntmps46 fun _ _ _ _ _=>?_
 refine zg ?_;refine W.loop (fun k=>k<=vs.length) (fun k=>[(0,.v (str t)),(1,.r (aB 15 vlE vs)),(4,.ptr 4 0),(12,.r (aB 15 vlE vs)),(13,.v (.int .i64 (vs.length:Int))),(14,.v (.int .i64 (k:Int)))]) (fun k=>[(4,.box 40 vlZ)]) (fun k=>vs.length - k) 0 (zq8 _) (fun k hk=>?_)
 by_cases h:k < vs.length
 ·obtain⟨v,hv⟩:∃v,vs[k]? =some v:=⟨_,zyh h⟩
  have cF:=hF v (zq4 hv);refine zg ?_;exact W.next (k+1) h zE
 ·obtain rfl:k=vs.length:=zE
  refine zg ?_;refine SX.Go1.yZ (n:=7) (size:=1) (m:=[.val (.func (.func 67) #[] #[]),.val (.func (.func 68) #[] #[]),.val (.func (.func 69) #[] #[]),.val (.func (.func 70) #[] #[]),.val (.func (.func 71) #[] #[]),.val (.func (.func 72) #[] #[]),.val (.func (.func 73) #[] #[])]) (l:=[.c (.val (.func (.func 67) #[] #[])),.c (.val (.func (.func 68) #[] #[])),.c (.val (.func (.func 69) #[] #[])),.c (.val (.func (.func 70) #[] #[])),.c (.val (.func (.func 71) #[] #[])),.c (.val (.func (.func 72) #[] #[])),.c (.val (.func (.func 73) #[] #[]))]) rfl rfl rfl rfl rfl z6 rfl rfl ?_
  refine zg ?_;refine W.loop (fun k=>k<=n0) (fun k=>[(4,.ptr 4 0),(8,.ptr 8 0),(36,.r (aB 1 fnC groups)),(37,.v (.int .i64 7)),(38,.v (.int .i64 (k:Int)))]) (fun k=>[(4,.box 40 vlZ),(8,.box 125 (bR t vs))]) (fun k=>n0 - k) 0 (zq8 _) (fun k hk=>?_)
  obtain⟨f,hf⟩:∃f,groups[k]? =some f:=⟨_,zyh zE⟩
  by_cases h2:k < n0
  ·have cV:=FnV.val (hno k f h2 hf);refine zg ?_;exact W.next (k+1) h2 zE
  ·obtain rfl:k=n0:=zE
   have cV:=FnV.val (hyes f hf);refine zg ?_;exact .ok (aA.mk2 ak.gL (ak.tmp rfl))
end
end
