import Derived.Test.YtjnhnbgpifohjaaGreatDoorL20
import Derived.Test.YtjnhnbgpifohjaaGreatDoorL17
set_option maxRecDepth 40000
set_option maxHeartbeats 16000000
set_option linter.unusedVariables false
set_option linter.unusedSimpArgs false
set_option linter.unusedSectionVars false
open Go.Proofs.Tryz
namespace Go.Proofs.YtjnhnbgpifohjaaGreatDoor
open Go.RowKit QM SX LA
attribute [local irreducible] IntKind.wrap Go1 Reg WP aO aR bM bK aN aD aj ak aX Sat
attribute [local irreducible] bO bX bV cK bW qv dH mf PrP qOk zOk vP dP lz vF cq rqv dX aS bU aV fB jn sq aY qS zS tS tbS plS mdS zmd qN pE zEv aH fDs fEv xgG xgS xgT
theorem sM(zs:List Int):∃z:Int,ah prog 229 [.agg (vlA (bQ zs))] (.tup [.agg (zN z),.one (.c (.val (.bool false)))]):=sU uN.1 uN.2 (fun h=>by have h':(3:Int)=1:=h;omega)
theorem wm(p:Nat)(l:List Nat):∃z:Int,ah prog 229 [.agg (vlA (aT p l))] (.tup [.agg (zN z),.one (.c (.val (.bool false)))]):=sU uN.1 uN.2 (fun h=>by have h':(5:Int)=1:=h;omega)
theorem amv(zs:List Int):ah prog 152 [.agg (vlA (bQ zs)),.v (.int .u8 113)] (.v (.bool true)):=by
 have h:=sD (bQ zs);rw[decide_eq_true rfl]at h;exact h
theorem alg(p:Nat)(l:List Nat):ah prog 152 [.agg (vlA (aT p l)),.v (.int .u8 113)] (.v (.bool false)):=by
 have h:=sD (aT p l);rw[decide_eq_false (fun h=>by have h':(5:Int)=3:=h;omega)]at h;exact h
theorem adN(p:Nat)(l:List Nat):ah prog 152 [.agg (vlA (aT p l)),.v (.int .u8 101)] (.v (.bool true)):=by
 have h:=adS (aT p l);rw[decide_eq_true rfl]at h;exact h
theorem al2(p:Nat)(l:List Nat):ah prog 152 [.agg (vlA (aT p l)),.v (.int .u8 102)] (.v (.bool false)):=by
 have h:=acU (aT p l);rw[decide_eq_false (fun h=>by have h':(5:Int)=4:=h;omega)]at h;exact h
theorem ahZ{x:Int}{K:Nat}(hx:x.natAbs < WB ^ K)(h1:1<=K)(hK:K<=100000):ah prog 229 [.agg (vlA (vI x))] (.tup [.agg (zN x),.one (.c (.val (.bool true)))]):=kH hx h1 hK
section
variable{t:List UInt8}
theorem alU(zs:List Int):ah prog 125 [.agg (bB t [bQ zs]),.v (str t),.v (str [113])] (.v (.bool true)):=
 jE (so:=[113]) (fun _=>true) rfl (zqc rfl) fun i v hv=>by
  match i,hv with
  |0,hv=>cases hv;exact amv zs
theorem agh(p:Nat)(l:List Nat):ah prog 125 [.agg (bB t [aT p l]),.v (str t),.v (str [113])] (.v (.bool false)):=
 jE (so:=[113]) (fun _=>false) rfl (zqc rfl) fun i v hv=>by
  match i,hv with
  |0,hv=>cases hv;exact alg p l
theorem ahH(p:Nat)(l:List Nat):ah prog 125 [.agg (bB t [aT p l]),.v (str t),.v (str [101])] (.v (.bool true)):=
 jE (so:=[101]) (fun _=>true) rfl (zqc rfl) fun i v hv=>by
  match i,hv with
  |0,hv=>cases hv;exact adN p l
theorem apM(zs:List Int){x:Int}{K:Nat}(hx:x.natAbs < WB ^ K)(h1:1<=K)(hK:K<=100000):ah prog 125 [.agg (bB t [bQ zs,vI x]),.v (str t),.v (str [113,110])] (.v (.bool true)):=
 jE (so:=[113,110]) (fun _=>true) rfl (zqc rfl) fun i v hv=>by
  match i,hv with
  |0,hv=>cases hv;exact amv zs
  |1,hv=>cases hv;exact gJ (ahZ hx h1 hK)
theorem auI(p:Nat)(l:List Nat){x:Int}{K:Nat}(hx:x.natAbs < WB ^ K)(h1:1<=K)(hK:K<=100000):ah prog 125 [.agg (bB t [aT p l,vI x]),.v (str t),.v (str [113,110])] (.v (.bool false)):=
 jE (so:=[113,110]) (fun i=>i != 0) rfl (zqc rfl) fun i v hv=>by
  match i,hv with
  |0,hv=>cases hv;exact alg p l
  |1,hv=>cases hv;exact gJ (ahZ hx h1 hK)
theorem axn(p:Nat)(l:List Nat){x:Int}{K:Nat}(hx:x.natAbs < WB ^ K)(h1:1<=K)(hK:K<=100000):ah prog 125 [.agg (bB t [aT p l,vI x]),.v (str t),.v (str [101,110])] (.v (.bool true)):=
 jE (so:=[101,110]) (fun _=>true) rfl (zqc rfl) fun i v hv=>by
  match i,hv with
  |0,hv=>cases hv;exact adN p l
  |1,hv=>cases hv;exact gJ (ahZ hx h1 hK)
theorem ayA(zs zs':List Int):ah prog 125 [.agg (bB t [bQ zs,bQ zs']),.v (str t),.v (str [113,113])] (.v (.bool true)):=
 jE (so:=[113,113]) (fun _=>true) rfl (zqc rfl) fun i v hv=>by
  match i,hv with
  |0,hv=>cases hv;exact amv zs
  |1,hv=>cases hv;exact amv zs'
theorem auT(p:Nat)(l l':List Nat):ah prog 125 [.agg (bB t [aT p l,aT p l']),.v (str t),.v (str [113,113])] (.v (.bool false)):=
 jE (so:=[113,113]) (fun _=>false) rfl (zqc rfl) fun i v hv=>by
  match i,hv with
  |0,hv=>cases hv;exact alg p l
  |1,hv=>cases hv;exact alg p l'
theorem aso(p:Nat)(l l':List Nat):ah prog 125 [.agg (bB t [aT p l,aT p l']),.v (str t),.v (str [101,101])] (.v (.bool true)):=
 jE (so:=[101,101]) (fun _=>true) rfl (zqc rfl) fun i v hv=>by
  match i,hv with
  |0,hv=>cases hv;exact adN p l
  |1,hv=>cases hv;exact adN p l'
end
theorem anK{p:Nat}(hp:PrP p){x:Int}{K:Nat}(hx:x.natAbs < WB ^ K)(hK:K<=100000):ah prog 63 [.agg (gfA p),.agg (zN x)] (.v (.int .u64 ((zmd p x:Nat):Int))):=by
 have h:=ahO hp (b:=decide (x < 0)) (R:=bN x.natAbs) (NI.abB hx) hK;rw[abG]at h;exact h
theorem ao8{x:Nat}(hx:x<=2147483648):ah prog 157 [.v (.int .u64 (x:Int))] (.agg (vlA (vI (x:Int)))):=by
 have cO:ah prog 18 [.v (.int .i64 (x:Int))] (.agg (zN (x:Int))):=kC.h ⟨zE,zE⟩
 have hb:(x:Int).natAbs < WB ^ 1:=by rw[zxh,bJ];omega
 have cW:ah prog 17 [.agg (zN (x:Int))] (.agg (vlA (vI (x:Int)))):=iJ (q:=z2v (x:Int)) (ZQ.made hb) (zq6 1) zc
 refine ah.fq func157 results157 ntmps157 fun _ _ _ _ _=>?_
 refine zg ?_;refine oJ aj.ig ?_;exact zv _
section
variable{zs:List Int}{K:Nat}(hz:∀z∈zs,z.natAbs < WB ^ K)(hK1:1<=K)(hK:K<=10000)(hn:pN zs)(hl:zs.length<=1000)
include hz hK1 hK hn hl
theorem adp:ah prog 85 [.agg (bB aeu [bQ zs])] (.agg (gW (vI ((zs.length:Int) - 1)) 0 true)):=by
 have hv:[bQ zs][0]? =some (bQ zs):=rfl;obtain⟨z,w⟩:=sM zs;have cm:=iE (vs:=[]) w (zqc rfl);have a1:=alU (t:=aeu) zs;have cD:=ak3 (MZ.ofz hz) hn zE zE
 have cc:=ac5 (n:=(zs.length:Int) - 1) zE
 have cf:=nC (vI ((zs.length:Int) - 1));refine ah.fq func85 results85 ntmps85 fun _ _ _ _ _=>?_
 refine zg ?_;refine gu aj.dJ ?_;exact zv _
theorem adr:ah prog 85 [.agg (bB aeo [bQ zs])] (.agg (gW (bQ (pE zs)) 0 true)):=by
 have hv:[bQ zs][0]? =some (bQ zs):=rfl;obtain⟨z,w⟩:=sM zs;have cm:=iE (vs:=[]) w (zqc rfl);have a1:=alU (t:=aeo) zs;have cD:=abl (MZ.ofz hz) hz zE zE
 have cp:=lq (zs:=pE zs);refine ah.fq func85 results85 ntmps85 fun _ _ _ _ _=>?_
 refine zg ?_;refine gu aj.dJ ?_;exact zv _
theorem adn{x:Int}{L:Nat}(hx:x.natAbs < WB ^ L)(h1:1<=L)(hL:L<=50):ah prog 85 [.agg (bB abC [bQ zs,vI x])] (.agg (gW (vI (zEv zs x zs.length)) 0 true)):=by
 have hv:[bQ zs,vI x][0]? =some (bQ zs):=rfl;have hv1:[bQ zs,vI x][1]? =some (vI x):=rfl;obtain⟨z,w⟩:=sM zs;have cm:=iE (vs:=[vI x]) w (zqc rfl);have a1:=apM (t:=abC) zs hx h1 zE
 have cn:ah prog 127 [.agg (bB abC [bQ zs,vI x]),.v (.int .i64 1)] (.agg (zN x)):=aaO hv1 zc (ahZ hx h1 zE)
 have hm:=zxd hl (show L+1<=51 by omega)
 have cE:=af5 (MZ.ofz hz) hz hx zE zE
 have hb:=agi hz hx zs.length;have cN:=ais hb zE zE
 refine ah.fq func85 results85 ntmps85 fun _ _ _ _ _=>?_
 refine zg ?_;refine gu aj.dJ ?_;exact zv _
end
theorem adk{x y:List Int}(hx:pN x)(hy:pN y)(hxl:x.length<=5)(hyl:y.length<=5)(hxz:∀z∈x,z.natAbs < WB ^ 1)(hyz:∀z∈y,z.natAbs < WB ^ 1):ah prog 85 [.agg (bB aao [bQ x,bQ y])] (.agg (gW (bQ (qN x y)) 0 true)):=by
 have hv:[bQ x,bQ y][0]? =some (bQ x):=rfl;have hv1:[bQ x,bQ y][1]? =some (bQ y):=rfl;obtain⟨z,w⟩:=sM x;have cm:=iE (vs:=[bQ y]) w (zqc rfl);have a1:=ayA (t:=aao) x y;have cG:=ahP (MZ.ofz hxz) (MZ.ofz hyz) hx hy hxl hyl hxz hyz;have cp:=lq (zs:=qN x y);refine ah.fq func85 results85 ntmps85 fun _ _ _ _ _=>?_
 refine zg ?_;refine gu aj.dJ ?_;exact zv _
section
variable{p:Nat}(hp:PrP p){l:List Nat}(hb:∀x∈l,x < p)(hl:l.length<=1000)
include hp hb hl
theorem ady:ah prog 85 [.agg (bB aeu [aT p l])] (.agg (gW (vI ((l.length:Int) - 1)) 0 true)):=by
 have hv:[aT p l][0]? =some (aT p l):=rfl;obtain⟨z,w⟩:=wm p l;have cm:=iE (vs:=[]) w (zqc rfl);have a0:=agh (t:=aeu) p l;have a1:=ahH (t:=aeu) p l;have cc:=ac5 (n:=(l.length:Int) - 1) zE
 have cf:=nC (vI ((l.length:Int) - 1));have e:(aT p l).ri.length<=1000:=hl;refine ah.fq func85 results85 ntmps85 fun _ _ _ _ _=>?_
 refine zg ?_;refine gu aj.dJ ?_;exact zv _
theorem acQ:ah prog 85 [.agg (bB aeo [aT p l])] (.agg (gW (aT p (aH p (fDs p l (l.length - 1)))) 0 true)):=by
 have hpl:=hp.lt;have hv:[aT p l][0]? =some (aT p l):=rfl;obtain⟨z,w⟩:=wm p l;have cm:=iE (vs:=[]) w (zqc rfl);have a0:=agh (t:=aeo) p l;have a1:=ahH (t:=aeo) p l;have co:=oN hp l;have cD:=abr hp (l:=l) zE (fun x hx=>by have:=hb x hx;omega)
 have cr:=rM p (aH p (fDs p l (l.length - 1)));have cf:=nC (aT p (aH p (fDs p l (l.length - 1))));refine ah.fq func85 results85 ntmps85 fun _ _ _ _ _=>?_
 refine zg ?_;refine gu aj.dJ ?_;exact zv _
theorem acv{x:Int}{L:Nat}(hx:x.natAbs < WB ^ L)(h1:1<=L)(hL:L<=50):ah prog 85 [.agg (bB abC [aT p l,vI x])] (.agg (gW (vI ((fEv p l (zmd p x) l.length:Nat):Int)) 0 true)):=by
 have hpl:=hp.lt;have hv:[aT p l,vI x][0]? =some (aT p l):=rfl;have hv1:[aT p l,vI x][1]? =some (vI x):=rfl;obtain⟨z,w⟩:=wm p l;have cm:=iE (vs:=[vI x]) w (zqc rfl);have a0:=auI (t:=abC) p l hx h1 zE
 have a1:=axn (t:=abC) p l hx h1 zE
 have cn:ah prog 127 [.agg (bB abC [aT p l,vI x]),.v (.int .i64 1)] (.agg (zN x)):=aaO hv1 zc (ahZ hx h1 zE)
 have co:=oN hp l;have lm:=akF hp x;have cO:=anK hp hx zE
 have cE:=aeI hp (l:=l) zE (fun x hx=>by have:=hb x hx;omega) (zmd p x) zE
 have lE:=ak9 hp l (zmd p x) l.length;have cw:=ao8 (x:=fEv p l (zmd p x) l.length) zE
 have cf:=nC (vI ((fEv p l (zmd p x) l.length:Nat):Int));refine ah.fq func85 results85 ntmps85 fun _ _ _ _ _=>?_
 refine zg ?_;refine gu aj.dJ ?_;exact zv _
end
end Go.Proofs.YtjnhnbgpifohjaaGreatDoor
set_option linter.unusedSectionVars false
namespace Go.Proofs.YtjnhnbgpifohjaaGreatDoor
open Go.RowKit QM SX LA
attribute [local irreducible] IntKind.wrap Go1 Reg WP aO aR bM bK aN aD aj ak aX Sat
attribute [local irreducible] bO bX bV cK bW qv dH mf PrP qOk zOk vP dP lz vF cq rqv dX aS bU aV fB jn sq aY qS zS tS tbS plS mdS zmd qN pE zEv aH fDs fEv xgG xgS xgT
theorem alr{t:List UInt8}{vs:List Vl}(ht:t=aao\/t=ahp):ah prog 167 [.agg (bB t vs)] (.agg nP):=by
 rcases ht with rfl|rfl <;> (
  refine ah.fq func167 results167 ntmps167 fun _ _ _ _ _=>?_
  refine zg ?_;exact lJ aj.dJ
 )
theorem aiK(vs:List Vl):ah prog 135 [.r (aA 15 vlE vs)] (.agg (vlA (nN vs))):=by
 rw[<-vX];refine ah.fq func135 results135 ntmps135 fun _ _ _ _ _=>?_
 refine zg ?_;refine oJ aj.ig ?_;exact iO ⟨aB.refl _,aB.refl _,aB.lT,aB.refl _,aB.lT,aB.refl _,aB.refl _,aB.nil,aB.nil,aB.refl _,aB.refl _,aB.refl _,aB.nil,aB.nil,aB.refl _,trivial⟩
section
variable{p:Nat}(hp:PrP p){l l':List Nat}(hb:∀x∈l,x < p)(hb':∀x∈l',x < p)(hl:l.length<=50)(hl':l'.length<=50)
include hp hb hb' hl hl'
theorem adJ:ah prog 168 [.agg (bB aao [aT p l,aT p l'])] (.agg (gW (aT p (xgG p l l')) 0 true)):=by
 have hpl:=hp.lt;have hv:[aT p l,aT p l'][0]? =some (aT p l):=rfl;have hv1:[aT p l,aT p l'][1]? =some (aT p l'):=rfl;have e1:(aT p l).p=p:=rfl;have e2:(aT p l').p=p:=rfl;have a1:=aso (t:=aao) p l l';have co:=oN hp l;have cX:=aa5 hp hl hl' (fun x hx=>by have:=hb x hx;omega) (fun x hx=>by have:=hb' x hx;omega)
 have cr:=rM p (xgG p l l');have cf:=nC (aT p (xgG p l l'));refine ah.fq func168 results168 ntmps168 fun _ _ _ _ _=>?_
 refine zg ?_;refine gu aj.dJ ?_;exact zv _
theorem abw:ah prog 168 [.agg (bB ahp [aT p l,aT p l'])] (.agg (gW (nN [aT p (xgG p l l'),aT p (xgS p l l'),aT p (xgT p l l')]) 0 true)):=by
 have hpl:=hp.lt;have hv:[aT p l,aT p l'][0]? =some (aT p l):=rfl;have hv1:[aT p l,aT p l'][1]? =some (aT p l'):=rfl;have e1:(aT p l).p=p:=rfl;have e2:(aT p l').p=p:=rfl;have a1:=aso (t:=ahp) p l l';have co:=oN hp l;have cX:=aa5 hp hl hl' (fun x hx=>by have:=hb x hx;omega) (fun x hx=>by have:=hb' x hx;omega)
 have cr:=rM p (xgG p l l');have cs:=rM p (xgS p l l');have ct:=rM p (xgT p l l');have cf:=nC (nN [aT p (xgG p l l'),aT p (xgS p l l'),aT p (xgT p l l')]);have cl:=aiK [aT p (xgG p l l'),aT p (xgS p l l'),aT p (xgT p l l')];refine ah.fq func168 results168 ntmps168 fun _ _ _ _ _=>?_
 refine zg ?_;refine gu aj.dJ ?_;exact zv _
theorem ado:ah prog 85 [.agg (bB aao [aT p l,aT p l'])] (.agg (gW (aT p (xgG p l l')) 0 true)):=by
 have hv:[aT p l,aT p l'][0]? =some (aT p l):=rfl;obtain⟨z,w⟩:=wm p l;have cm:=iE (vs:=[aT p l']) w (zqc rfl);have a0:=auT (t:=aao) p l l';have cM:=alr (t:=aao) (vs:=[aT p l,aT p l']) (.inl rfl);have cC:=adJ hp hb hb' hl hl';refine ah.fq func85 results85 ntmps85 fun _ _ _ _ _=>?_
 refine zg ?_;refine gu aj.dJ ?_;exact zv _
theorem ab5:ah prog 85 [.agg (bB ahp [aT p l,aT p l'])] (.agg (gW (nN [aT p (xgG p l l'),aT p (xgS p l l'),aT p (xgT p l l')]) 0 true)):=by
 have hv:[aT p l,aT p l'][0]? =some (aT p l):=rfl;obtain⟨z,w⟩:=wm p l;have cm:=iE (vs:=[aT p l']) w (zqc rfl);have cM:=alr (t:=ahp) (vs:=[aT p l,aT p l']) (.inr rfl);have cC:=abw hp hb hb' hl hl';refine ah.fq func85 results85 ntmps85 fun _ _ _ _ _=>?_
 refine zg ?_;refine gu aj.dJ ?_;exact zv _
end
end Go.Proofs.YtjnhnbgpifohjaaGreatDoor
set_option linter.unusedSectionVars false
namespace Go.Proofs.YtjnhnbgpifohjaaGreatDoor
open Go.RowKit QM SX LA
abbrev pG:List UInt8:=[99,111,109,112,97,110,105,111,110]
abbrev toI(l:List Nat):List Int:=l.map fun x:Nat=>(x:Int)
attribute [local irreducible] IntKind.wrap Go1 Reg WP aO aR bM bK aN aD aj ak aX Sat
attribute [local irreducible] bO bX bV cK bW qv dH mf PrP qOk zOk vP dP lz vF cq rqv dX aS bU aV fB jn sq aY qS zS tS tbS plS mdS zmd qN pE zEv aH fDs fEv xgG xgS xgT qR
section
variable{p:Nat}(hp:PrP p){l:List Nat}(hb:∀x∈l,x < p)(hl:l.length<=1000)
include hp hb hl
theorem agK:ah prog 167 [.agg (bB afU [aT p l])] (.agg (gW (bQ (toI l)) 0 true)):=by
 have hpl:=hp.lt;have hv:[aT p l][0]? =some (aT p l):=rfl;have e0:(aT p l).ri.length=l.length:=rfl;have a0:ah prog 125 [.agg (bB afU [aT p l]),.v (str afU),.v (str [102])] (.v (.bool false)):=
  jE (so:=[102]) (fun _=>false) rfl (zqc rfl) fun i v hv=>by
   match i,hv with
   |0,hv=>cases hv;exact al2 p l
 have a1:=ahH (t:=afU) p l;have cp:=lq (zs:=toI l);have e8:((toI l).map z2v).length=l.length:=by rw[zq5,zq5]
 rw[wF e8]at cp;refine ah.fq func167 results167 ntmps167 fun _ _ _ _ hB=>?_
 refine zg ?_;refine W.loop (fun k=>k<=l.length) (fun k=>[(1,.ptr 1 0),(2,.ptr 2 0),(11,.own 100),(85,.r (aA 1 wdC (aT p l).ri)),(86,.v (.int .i64 (l.length:Int))),(87,.v (.int .i64 (k:Int)))]) (fun k=>[(1,.box 137 (bB afU [aT p l])),(2,.box 142 anZ),(100,.row 31 2 k (((toI (l.take k)).map z2v).flatMap z2C))]) (fun k=>l.length - k) 0 (zq8 _) (fun k hk=>?_)
  (by
   refine St.aW [(100,none)] zt ?_ ?_ rfl
   ·exact ye
   ·exact⟨ay.same rfl rfl,ay.same rfl rfl,ay.dO rfl,trivial⟩)
 by_cases h:k < l.length
 ·obtain⟨x,hx⟩:∃x,l[k]? =some x:=⟨_,zyh h⟩
  have hx2:(aT p l).ri[k]? =some x:=hx;have lx:=hb x (zq4 hx);have hxb:(x:Int).natAbs < WB ^ 1:=by rw[zxh,bJ];omega
  have cO:=an4 (x:Int) zE zE
  have cF:=qV (ha:=NI.abB hxb) false zc
  rw[show sgn false (x:Int).natAbs=(x:Int)by show (((x:Int).natAbs:Nat):Int)=(x:Int);omega]at cF
  have e2:((toI (l.take k)).map z2v).flatMap z2C++z2C (z2v (x:Int))=((toI (l.take (k+1))).map z2v).flatMap z2C:=by rw[zw7,hx];simp[toI]
  refine zg ?_;refine W.next (k+1) h zE (by
   refine St.aW [(100,some 96)] zt ?_ ?_ rfl
   ·exact yd
   ·exact⟨ay.same rfl rfl,ay.same rfl rfl,ay.row rfl rfl rfl e2,trivial⟩)
 ·obtain rfl:k=l.length:=zE
  rw[zy8];refine WP.freeze 100 hB rfl ?_;refine zg ?_;refine gu aj.dJ ?_;exact zv _
theorem xP{t:List UInt8}(ht:isP t):ah prog 84 [.agg (bB t [aT p l])] (.agg nP):=by
 have hv:[aT p l][0]? =some (aT p l):=rfl;have c1:=al2 p l;have c2:=adN p l;have co:=oN hp l;rcases ht with rfl|rfl|rfl|rfl|rfl|rfl <;> (
  refine ah.fq func84 results84 ntmps84 fun _ _ _ _ _=>?_
  refine zg ?_;exact lJ aj.dJ
 )
end
end Go.Proofs.YtjnhnbgpifohjaaGreatDoor
set_option linter.unusedSectionVars false
namespace Go.Proofs.YtjnhnbgpifohjaaGreatDoor
open Go.RowKit QM SX LA
attribute [local irreducible] IntKind.wrap Go1 Reg WP aO aR bM bK aN aD aj ak aX Sat
attribute [local irreducible] bO bX bV cK bW qv dH mf PrP qOk zOk vP dP lz vF cq rqv dX aS bU aV fB jn sq aY qS zS tS tbS plS mdS zmd qN pE zEv aH fDs fEv xgG xgS xgT qR
theorem akk(p:Nat):ah prog 155 [.v (.int .u64 (p:Int)),.agg aa1] (.agg (vlA (pR p 0 0 []))):=by
 have h:=ae5 p 0 0 [];refine ah.fq func155 results155 ntmps155 fun _ _ _ _ _=>?_
 refine zg ?_;refine oJ aj.ig ?_;exact iO ⟨aB.refl _,aB.refl _,aB.lT,aB.refl _,aB.lT,aB.refl _,aB.refl _,aB.nil,aB.nil,aB.refl _,aB.refl _,aB.refl _,aB.nil,aB.nil,aB.nil,trivial⟩
section
variable{p:Nat}(hp:PrP p){l:List Nat}(hb:∀x∈l,x < p)(hl:l.length<=60)
include hp hb hl
theorem adB(h:¬zG p l):ah prog 84 [.agg (bB pG [aT p l])] (.agg (gW (pR p ((aH p l).length - 1) ((aH p l).length - 1) (qR p l)) 0 true)):=by
 have hpl:=hp.lt;have hv:[aT p l][0]? =some (aT p l):=rfl;have c1:=al2 p l;have c2:=adN p l;have co:=oN hp l;have a1:=ahH (t:=pG) p l;have cC:=ae0 hp hl (fun x hx=>by have:=hb x hx;omega) h
 have cB:=ae5 p ((aH p l).length - 1) ((aH p l).length - 1) (qR p l);have cd:=yY (pR p ((aH p l).length - 1) ((aH p l).length - 1) (qR p l));refine ah.fq func84 results84 ntmps84 fun _ _ _ _ _=>?_
 refine zg ?_;refine gu aj.dJ ?_;exact zv _
theorem ab4(h:zG p l):ah prog 84 [.agg (bB pG [aT p l])] (.agg (gW v0 3 true)):=by
 have hpl:=hp.lt;have hv:[aT p l][0]? =some (aT p l):=rfl;have c1:=al2 p l;have c2:=adN p l;have co:=oN hp l;have a1:=ahH (t:=pG) p l;have cC:=adh hp hl (fun x hx=>by have:=hb x hx;omega) h
 have cB:=akk p;have cd:=af3 (pR p 0 0 []) (e:=3) zc
 refine ah.fq func84 results84 ntmps84 fun _ _ _ _ _=>?_
 refine zg ?_;refine gu aj.dJ ?_;exact zv _
theorem adX:ah prog 85 [.agg (bB afU [aT p l])] (.agg (gW (bQ (toI l)) 0 true)):=by
 have hv:[aT p l][0]? =some (aT p l):=rfl;obtain⟨z,w⟩:=wm p l;have cm:=iE (vs:=[]) w (zqc rfl);have cM:=agK hp hb zE
 refine ah.fq func85 results85 ntmps85 fun _ _ _ _ _=>?_
 refine zg ?_;refine SX.Go1.qh (n:=17) (l:=gW (bQ (toI l)) 0 true) rfl rfl rfl rfl rfl ?_;refine zg ?_;refine gu aj.dJ ?_;exact zv _
end
end Go.Proofs.YtjnhnbgpifohjaaGreatDoor
set_option linter.unusedSectionVars false
namespace Go.Proofs.YtjnhnbgpifohjaaGreatDoor
open Go.RowKit QM SX LA
attribute [local irreducible] IntKind.wrap Go1 Reg WP aO aR bM bK aN aD aj ak aX Sat
attribute [local irreducible] bO bX bV cK bW qv dH mf PrP qOk zOk vP dP lz vF cq rqv dX aS bU aV fB jn sq aY qS zS tS tbS plS mdS zmd qN pE zEv aH fDs fEv xgG xgS xgT qR
theorem cN_P{t:List UInt8}(ht:isP t):ah prog 79 [.v (str qQ),.v (str (([32]++t)++[32]))] (.v (.bool true)):=by
 rcases ht with rfl|rfl|rfl|rfl|rfl|rfl
 ·exact bF iX z6
 ·exact bF iX z6
 ·exact bF iX z6
 ·exact bF iX z6
 ·exact bF iX z6
 ·exact bF iX z6
theorem cB_P{t:List UInt8}(ht:isP t):ah prog 79 [.v (str t),.v (str [32])] (.v (.bool false)):=by
 rcases ht with rfl|rfl|rfl|rfl|rfl|rfl
 ·exact bF zc z6
 ·exact bF zc z6
 ·exact bF zc z6
 ·exact bF zc z6
 ·exact bF zc z6
 ·exact bF zc z6
theorem agq:ah prog 79 [.v (str qQ),.v (str (([32]++pG)++[32]))] (.v (.bool true)):=bF iX z6
theorem afX:ah prog 79 [.v (str pG),.v (str [32])] (.v (.bool false)):=bF zc z6
theorem avh{t:List UInt8}(ht:isP t):t.length<=1000:=by rcases ht with rfl|rfl|rfl|rfl|rfl|rfl <;> decide
theorem jv{t:List UInt8}(ht:isP t){vs:List Vl}{r:Vl}(hl:vs.length<=100000)(hF:∀v∈vs,ah prog 78 [.agg (vlA v)] (.v (.bool true)))(hf:ah prog 84 [.agg (bB t vs)] (.agg nP))
  (h5:ah prog 85 [.agg (bB t vs)] (.agg (gW r 0 true))):ah prog 28 [.v (str t),.r (aA 15 vlE vs)] (.tup [.agg (vlA r),eNo 0]):=by
 refine oQ (n0:=5) (avh ht) zc hl hF (cN_P ht) (cB_P ht) (fun k f hk hg=>?_) (fun f hg=>?_)
 ·match k,hk,hg with
  |0,_,hg=>cases hg;exact apn ht
  |1,_,hg=>cases hg;exact aod ht
  |2,_,hg=>cases hg;exact aiY ht
  |3,_,hg=>cases hg;exact aev ht
  |4,_,hg=>cases hg;exact hf
 ·cases hg;exact h5
theorem F1{v:Vl}(h:ah prog 78 [.agg (vlA v)] (.v (.bool true))):∀u∈[v],ah prog 78 [.agg (vlA u)] (.v (.bool true)):=fun u hu=>by
 rw[zxi]at hu;subst hu;exact h
theorem F2{v w:Vl}(h:ah prog 78 [.agg (vlA v)] (.v (.bool true)))(h':ah prog 78 [.agg (vlA w)] (.v (.bool true))):∀u∈[v,w],ah prog 78 [.agg (vlA u)] (.v (.bool true)):=fun u hu=>by
 rcases zy3.1 hu with rfl|hu
 ·exact h
 ·rw[zxi]at hu;subst hu;exact h'
theorem aeV{t:List UInt8}{v w:Vl}:ah prog 84 [.agg (bB t [v,w])] (.agg nP):=aan (fun h=>by have h':2=1:=h;omega) (zqc rfl)
theorem awr{t:List UInt8}{zs:List Int}:ah prog 84 [.agg (bB t [bQ zs])] (.agg nP):=adT ⟨fun h=>by have h':(3:Int)=4:=h;omega,fun h=>by have h':(3:Int)=5:=h;omega⟩
theorem Fp{zs:List Int}{K:Nat}(hz:∀z∈zs,z.natAbs < WB ^ K)(hK:K<=10000)(hn:pN zs)(hl:zs.length<=1000):ah prog 78 [.agg (vlA (bQ zs))] (.v (.bool true)):=
 (Cv.one (n:=0) (.pol zs zE hn hz:Sh K _)).F zE zc
theorem Fr'{p:Nat}(hp:PrP p){l:List Nat}(hb:∀x∈l,x < p)(hn:wN l)(hl:l.length<=1000):ah prog 78 [.agg (vlA (aT p l))] (.v (.bool true)):=
 (Cv.one (n:=0) (.rng p l hp zE hn hb:Sh 1 _)).F zc zc
section
variable{zs:List Int}{K:Nat}(hz:∀z∈zs,z.natAbs < WB ^ K)(hK1:1<=K)(hK:K<=10000)(hn:pN zs)(hl:zs.length<=1000)
include hz hK1 hK hn hl
theorem anx:ah prog 28 [.v (str aeu),.r (aA 15 vlE [bQ zs])] (.tup [.agg (vlA (vI ((zs.length:Int) - 1))),eNo 0]):=
 jv (.inl rfl) (zqc rfl) (F1 (Fp hz hK hn hl)) awr (adp hz hK1 hK hn hl)
theorem anw:ah prog 28 [.v (str aeo),.r (aA 15 vlE [bQ zs])] (.tup [.agg (vlA (bQ (pE zs))),eNo 0]):=
 jv (.inr (.inl rfl)) (zqc rfl) (F1 (Fp hz hK hn hl)) awr (adr hz hK1 hK hn hl)
theorem ao6{x:Int}{L:Nat}(hx:x.natAbs < WB ^ L)(h1:1<=L)(hL:L<=50):ah prog 28 [.v (str abC),.r (aA 15 vlE [bQ zs,vI x])] (.tup [.agg (vlA (vI (zEv zs x zs.length))),eNo 0]):=
 jv (.inr (.inr (.inl rfl))) (zqc rfl) (F2 (Fp hz hK hn hl) (oZ hx h1 zE)) aeV (adn hz hK1 hK hn hl hx h1 hL)
end
theorem an7{x y:List Int}(hx:pN x)(hy:pN y)(hxl:x.length<=5)(hyl:y.length<=5)(hxz:∀z∈x,z.natAbs < WB ^ 1)(hyz:∀z∈y,z.natAbs < WB ^ 1):ah prog 28 [.v (str aao),.r (aA 15 vlE [bQ x,bQ y])] (.tup [.agg (vlA (bQ (qN x y))),eNo 0]):=
 jv (.inr (.inr (.inr (.inl rfl)))) (zqc rfl) (F2 (Fp hxz zc hx zE) (Fp hyz zc hy zE)) aeV (adk hx hy hxl hyl hxz hyz)
section
variable{p:Nat}(hp:PrP p){l:List Nat}(hb:∀x∈l,x < p)(hn:wN l)(hl:l.length<=50)
include hp hb hn hl
theorem an9:ah prog 28 [.v (str aeu),.r (aA 15 vlE [aT p l])] (.tup [.agg (vlA (vI ((l.length:Int) - 1))),eNo 0]):=
 jv (.inl rfl) (zqc rfl) (F1 (Fr' hp hb hn zE)) (xP hp hb zE (.inl rfl)) (ady hp hb zE)
theorem apb:ah prog 28 [.v (str aeo),.r (aA 15 vlE [aT p l])] (.tup [.agg (vlA (aT p (aH p (fDs p l (l.length - 1))))),eNo 0]):=
 jv (.inr (.inl rfl)) (zqc rfl) (F1 (Fr' hp hb hn zE)) (xP hp hb zE (.inr (.inl rfl))) (acQ hp hb zE)
theorem anM{x:Int}{L:Nat}(hx:x.natAbs < WB ^ L)(h1:1<=L)(hL:L<=50):ah prog 28 [.v (str abC),.r (aA 15 vlE [aT p l,vI x])] (.tup [.agg (vlA (vI ((fEv p l (zmd p x) l.length:Nat):Int))),eNo 0]):=
 jv (.inr (.inr (.inl rfl))) (zqc rfl) (F2 (Fr' hp hb hn zE) (oZ hx h1 zE)) aeV (acv hp hb zE hx h1 hL)
theorem anz:ah prog 28 [.v (str afU),.r (aA 15 vlE [aT p l])] (.tup [.agg (vlA (bQ (toI l))),eNo 0]):=
 jv (.inr (.inr (.inr (.inr (.inr rfl))))) (zqc rfl) (F1 (Fr' hp hb hn zE)) (xP hp hb zE (.inr (.inr (.inr (.inr (.inr rfl)))))) (adX hp hb zE)
theorem aov{l':List Nat}(hb':∀x∈l',x < p)(hn':wN l')(hl':l'.length<=50):ah prog 28 [.v (str aao),.r (aA 15 vlE [aT p l,aT p l'])] (.tup [.agg (vlA (aT p (xgG p l l'))),eNo 0]):=
 jv (.inr (.inr (.inr (.inl rfl)))) (zqc rfl) (F2 (Fr' hp hb hn zE) (Fr' hp hb' hn' zE)) aeV (ado hp hb hb' hl hl')
theorem ajK{l':List Nat}(hb':∀x∈l',x < p)(hn':wN l')(hl':l'.length<=50):ah prog 28 [.v (str ahp),.r (aA 15 vlE [aT p l,aT p l'])] (.tup [.agg (vlA (nN [aT p (xgG p l l'),aT p (xgS p l l'),aT p (xgT p l l')])),eNo 0]):=
 jv (.inr (.inr (.inr (.inr (.inl rfl))))) (zqc rfl) (F2 (Fr' hp hb hn zE) (Fr' hp hb' hn' zE)) aeV (ab5 hp hb hb' hl hl')
end
end Go.Proofs.YtjnhnbgpifohjaaGreatDoor
set_option linter.unusedSectionVars false
namespace Go.Proofs.YtjnhnbgpifohjaaGreatDoor
open Go.RowKit QM SX LA
attribute [local irreducible] IntKind.wrap Go1 Reg WP aO aR bM bK aN aD aj ak aX Sat
attribute [local irreducible] bO bX bV cK bW qv dH mf PrP qOk zOk vP dP lz vF cq rqv dX aS bU aV fB jn sq aY qS zS tS tbS plS mdS zmd qN pE zEv aH fDs fEv xgG xgS xgT qR
section
variable{vs:List Vl}
theorem wz:ah prog 80 [.agg (bB pG vs)] (.agg nP):=by
 refine ah.fq func80 results80 ntmps80 fun _ _ _ _ _=>?_
 refine zg ?_;exact lJ aj.dJ
theorem wL:ah prog 81 [.agg (bB pG vs)] (.agg nP):=by
 refine ah.fq func81 results81 ntmps81 fun _ _ _ _ _=>?_
 refine zg ?_;exact lJ aj.dJ
theorem abt(a0:ah prog 125 [.agg (bB pG vs),.v (str pG),.v (str [113])] (.v (.bool false))):ah prog 82 [.agg (bB pG vs)] (.agg nP):=by
 refine ah.fq func82 results82 ntmps82 fun _ _ _ _ _=>?_
 refine zg ?_;exact lJ aj.dJ
theorem xk:ah prog 83 [.agg (bB pG vs)] (.agg nP):=by
 refine ah.fq func83 results83 ntmps83 fun _ _ _ _ _=>?_
 refine zg ?_;exact lJ aj.dJ
end
section
variable{p:Nat}(hp:PrP p){l:List Nat}(hb:∀x∈l,x < p)(hn:wN l)(hl:l.length<=50)
include hp hb hn hl
theorem aoN(h:¬zG p l):ah prog 28 [.v (str pG),.r (aA 15 vlE [aT p l])] (.tup [.agg (vlA (pR p ((aH p l).length - 1) ((aH p l).length - 1) (qR p l))),eNo 0]):=by
 refine oQ (n0:=4) zc zc (zqc rfl) (F1 (Fr' hp hb hn zE)) agq afX (fun k f hk hg=>?_) (fun f hg=>?_)
 ·match k,hk,hg with
  |0,_,hg=>cases hg;exact wz
  |1,_,hg=>cases hg;exact wL
  |2,_,hg=>cases hg;exact abt (agh p l)
  |3,_,hg=>cases hg;exact xk
 ·cases hg;exact adB hp hb zE h
theorem akj(h:zG p l):ah prog 28 [.v (str pG),.r (aA 15 vlE [aT p l])] (.tup [.agg (vlA v0),eNo 3]):=by
 refine aaB (n0:=4) zc zc (zqc rfl) (F1 (Fr' hp hb hn zE)) agq afX (fun k f hk hg=>?_) (fun f hg=>?_)
 ·match k,hk,hg with
  |0,_,hg=>cases hg;exact wz
  |1,_,hg=>cases hg;exact wL
  |2,_,hg=>cases hg;exact abt (agh p l)
  |3,_,hg=>cases hg;exact xk
 ·cases hg;exact ab4 hp hb zE h
end
end Go.Proofs.YtjnhnbgpifohjaaGreatDoor
set_option linter.unusedSectionVars false
namespace Go.Proofs.YtjnhnbgpifohjaaGreatDoor
open Go.RowKit QM SX LA
attribute [local irreducible] IntKind.wrap Go1 Reg WP aO aR bM bK aN aD aj ak aX Sat
attribute [local irreducible] bO bX bV cK bW qv dH mf PrP qOk zOk vP dP lz vF cq rqv dX aS bU aV fB jn sq aY qS zS tS tbS plS mdS zmd qN pE zEv aH fDs fEv xgG xgS xgT qR
theorem aoD{K:Nat}{zs:List Int}(hz:∀z∈zs,z.natAbs < WB ^ K)(h1:1<=K)(hK:K<=100000)(hl:zs.length<=10000):ah prog 165 [.r (aA 15 vlE (zs.map vI))] (.tup [.one (.c (.sat (aA 2 z2C ((aS zs).map z2v)))),.one (.c (.val (.bool true)))]):=by
 have e0:(zs.map vI).length=zs.length:=zq5 _;have e1:(zs.map z2v).length=zs.length:=zq5 _;have cN:=jr (MZ.made hz) zE zE
 refine ah.fq func165 results165 ntmps165 fun _ _ _ _ hB=>?_
 refine zg ?_;refine W.loop (fun k=>k<=zs.length) (fun k=>[(4,.own 100),(9,.r (aA 15 vlE (zs.map vI))),(10,.v (.int .i64 (zs.length:Int))),(11,.v (.int .i64 (k:Int)))]) (fun k=>[(100,.row 31 2 k (((zs.take k).map z2v).flatMap z2C))]) (fun k=>zs.length - k) 0 (zq8 _) (fun k hk=>?_)
  (by
   refine St.aW [(100,none)] zt ?_ ?_ rfl
   ·exact ye
   ·exact⟨ay.dO rfl,trivial⟩)
 by_cases h:k < zs.length
 ·obtain⟨z,hzk⟩:∃z,zs[k]? =some z:=⟨_,zyh h⟩
  have hv:(zs.map vI)[k]? =some (vI z):=by rw[zqa,hzk];rfl
  have h':k < (zs.map vI).length:=zE
  have cw:=kH (hz z (zq4 hzk)) h1 hK;have e2:=wB (enc:=z2C) (f:=z2v) hzk;refine zg ?_;refine W.next (k+1) h zE (by
   refine St.aW [(100,some 25)] zt ?_ ?_ rfl
   ·exact yb
   ·exact⟨ay.row rfl rfl rfl e2,trivial⟩)
 ·obtain rfl:k=zs.length:=zE
  rw[zy8];rw[<-e1];refine WP.freeze 100 hB rfl ?_;refine zg ?_;exact .ok (aD.mk2 (aj.tmp rfl) (aj.tmp rfl))
theorem ab3{K:Nat}{zs:List Int}(hz:∀z∈zs,z.natAbs < WB ^ K)(h1:1<=K)(hK:K<=100000)(hl:zs.length<=10000):ah prog 85 [.agg (bB vo (zs.map vI))] (.agg (gW (bQ (aS zs)) 0 true)):=by
 have cm:=aoD hz h1 hK hl;have cp:=lq (zs:=aS zs);have h2:decide (vo=vo)=true:=decide_eq_true rfl;refine ah.fq func85 results85 ntmps85 fun _ _ _ _ _=>?_
 refine zg ?_;refine gu aj.dJ ?_;exact zv _
theorem aoa{K:Nat}{zs:List Int}(hz:∀z∈zs,z.natAbs < WB ^ K)(h1:1<=K)(hK:K<=100000)(hl:zs.length<=10000):ah prog 28 [.v (str vo),.r (aA 15 vlE (zs.map vI))] (.tup [.agg (vlA (bQ (aS zs))),eNo 0]):=by
 refine oQ (n0:=5) zc zc (by rw[zq5];omega) (fun v hv=>?_) auj avB (fun k f hk hf=>?_) (fun f hf=>?_)
 ·obtain⟨z,hz',rfl⟩:=zqg.1 hv;exact oZ (hz z hz') h1 hK
 ·match k,hk,hf with
  |0,_,hf=>cases hf;exact acR (.inl rfl)
  |1,_,hf=>cases hf;exact adL (.inl rfl)
  |2,_,hf=>cases hf;exact xH (.inl rfl)
  |3,_,hf=>cases hf;exact rZ (.inl rfl)
  |4,_,hf=>
   cases hf;by_cases h:(zs.map vI).length=1
   ·match zs,h with
    |[z],_=>exact adT ⟨fun h=>by have h':(1:Int)=4:=h;omega,fun h=>by have h':(1:Int)=5:=h;omega⟩
   ·exact aan h (by rw[zq5];omega)
 ·cases hf;exact ab3 hz h1 hK hl
theorem akC{x:Nat}(hx:x < 18446744073709551616)(h:¬PrP x):ah prog 61 [.v (.int .u64 (x:Int))] (.tup [.agg (gfA 0),.one (.c (.val (.bool false)))]):=by
 have c:=xM x hx;rw[decide_eq_false h]at c;refine ah.fq func61 results61 ntmps61 fun _ _ _ _ _=>?_
 refine zg ?_;exact .ok (aD.mk2 aj.apK (aj.tmp rfl))
theorem atH:¬PrP 4:=PrP.not (d:=2) zc zc zc
section
variable{zs:List Int}{K:Nat}(hz:∀z∈zs,z.natAbs < WB ^ K)(hK:K<=10000)(hn:pN zs)(hl:zs.length<=1000)
include hz hK hn hl
theorem anJ:ah prog 167 [.agg (bB jT [bQ zs,vI 4])] (.agg (gW v0 3 true)):=by
 have hv:[bQ zs,vI 4][1]? =some (vI 4):=rfl;have hb1:(4:Int).natAbs < WB ^ 1:=by rw[zxh,bJ];decide
 have w2:=kH hb1 (zq6 1) zc
 obtain⟨z,w1⟩:=sM zs;have a1:ah prog 125 [.agg (bB jT [bQ zs,vI 4]),.v (str jT),.v (str [110,110])] (.v (.bool false)):=
  jE (fun i=>i != 0) rfl (zqc rfl) fun i v hv=>by
   match i,hv with
   |0,hv=>cases hv;exact gJ w1
   |1,hv=>cases hv;exact gJ w2
 have a2:ah prog 125 [.agg (bB jT [bQ zs,vI 4]),.v (str jT),.v (str [109,110])] (.v (.bool false)):=
  jE (fun i=>i != 0) rfl (zqc rfl) fun i v hv=>by
   match i,hv with
   |0,hv=>cases hv;exact abk (abn fun h=>by have h':(3:Int)=2:=h;omega)
   |1,hv=>cases hv;exact gJ w2
 have a3:=apM (t:=jT) zs hb1 (zq6 1) zc
 have n1:ah prog 127 [.agg (bB jT [bQ zs,vI 4]),.v (.int .i64 1)] (.agg (zN 4)):=aaO (i:=1) hv zc w2
 have cW:ah prog 114 [.it (.one (.c (.sat (bN (4:Int).natAbs))))] (.tup [.one (.c (.val (.int .u64 4))),.one (.c (.val (.bool true)))]):=by
  have ha:NI (.sat (bN (4:Int).natAbs)) (4:Int).natAbs 1:=NI.abB hb1;have h:=ahG (a:= .sat (bN (4:Int).natAbs)) (x:=(4:Int).natAbs) (k:=1) zE
  rw[if_pos (by rw[bJ];decide),decide_eq_true (by rw[bJ];decide)]at h
  exact h
 have cN:ah prog 61 [.v (.int .u64 4)] (.tup [.agg (gfA 0),.one (.c (.val (.bool false)))]):=akC (x:=4) zc atH
 have cd:=anW (e:=3) zc
 refine ah.fq func167 results167 ntmps167 fun _ _ _ _ _=>?_
 refine zg ?_;refine arb (o1:=1) (ft:=29) z6 rfl rfl rfl ?_
 refine zg ?_;refine gu aj.dJ ?_;exact zv _
theorem acO:ah prog 85 [.agg (bB jT [bQ zs,vI 4])] (.agg (gW v0 3 true)):=by
 obtain⟨z,w⟩:=sM zs;have cm:=iE (vs:=[vI 4]) w (zqc rfl);have cM:=anJ hz hK hn hl;refine ah.fq func85 results85 ntmps85 fun _ _ _ _ _=>?_
 refine zg ?_;refine SX.Go1.qh (n:=17) (l:=gW v0 3 true) rfl rfl rfl rfl rfl ?_;refine zg ?_;refine gu aj.dJ ?_;exact zv _
theorem an6:ah prog 28 [.v (str jT),.r (aA 15 vlE [bQ zs,vI 4])] (.tup [.agg (vlA v0),eNo 3]):=by
 have hb1:(4:Int).natAbs < WB ^ 1:=by rw[zxh,bJ];decide
 refine aaB (n0:=5) zc zc (zqc rfl) (F2 (Fp hz hK hn hl) (oZ hb1 (zq6 1) zc)) apP ar1 (fun k f hk hg=>?_) (fun f hg=>?_)
 ·match k,hk,hg with
  |0,_,hg=>cases hg;exact acR (.inr rfl)
  |1,_,hg=>cases hg;exact adL (.inr rfl)
  |2,_,hg=>cases hg;exact xH (.inr rfl)
  |3,_,hg=>cases hg;exact rZ (.inr rfl)
  |4,_,hg=>cases hg;exact aeV
 ·cases hg;exact acO hz hK hn hl
end
end Go.Proofs.YtjnhnbgpifohjaaGreatDoor
set_option linter.unusedSectionVars false
namespace Go.Proofs.YtjnhnbgpifohjaaGreatDoor
open Go.RowKit QM SX LA
theorem weakC{P:Program}{f:FuncId}{args args':List AV}{pre:List (Nat×Ent)}{out:Out}(h:ak P f args' pre out)(hi:∀E S w vs,aK (AV.has E S w) args vs->aK (AV.has E S w) args' vs):ak P f args pre out:=
 ⟨h.1,fun E S w vs a b hv=>h.2 E S w vs a b (hi E S w vs hv)⟩
theorem ahs{P:Program}{C:Ctx}{ops:List Oper}{rest:List Oper}{st:St}{acc:_}{K:_}{d:Tmp}{ty:TypeId}{f:FuncId}{xs:Array Operand}{tys:Array TypeId}{args:List AV}{r:AV}{b:Nat}{t:TypeId}{size n:Nat}{cells:List CA}(hc:ak P f args [] ⟨r,[(b,.ent (.row t size n cells))]⟩)(hr:r.ids.all (Nat.beq b)=true)(ha:evs st xs.toList=some args)(hd:aG (some d) C.nt=true)(hf:st.hp b= .free)
  (next:Reg P C ops rest (st.app (some d) ⟨r,[(b,.ent (.row t size n cells))]⟩) (([b],[b])::acc) K):Go1 P C ops (some d) (.call ⟨.value (.func f),xs,tys⟩) ty rest st acc K:=
 Go1.ad2 (cap:=[]) (pre:=[]) (out:=⟨r,[(b,.ent (.row t size n cells))]⟩) (fp:=[b]) hd rfl ha (by simpa using hc) (fun b e hb=>by cases hb) (fun b s hb=>by simp at hb;rw[hb.1];exact .inr hf) (fun b s hb=>by simp at hb;rw[hb.2];rfl) (fun b s hb=>by simp at hb;simp[hb.1])
  (fun i hi=>by
   left
   rcases hi with hi|⟨b',e,hb,hi⟩
   ·have:b=i:=by simpa using zqh.1 hr i hi
    subst this;exact⟨_,by simp;rfl⟩
   ·simp at hb;obtain⟨rfl,rfl⟩:=hb;cases hi) next
attribute [local irreducible] IntKind.wrap Go1 Reg WP aO aR bM bK aN aD aj ak aX Sat
attribute [local irreducible] bO bX bV cK bW qv dH mf
def mtO(r c b:Nat):List Atom:=[.c (.val (.int .i64 (r:Int))),.c (.val (.int .i64 (c:Int))),.own b]
theorem akd(r c:Nat)(x:CA)(L:Nat->Nat->Z2)(val:Nat->Nat->Int)(K:Nat)(hr:r<=100)(hc:c<=100)(hK:K<=1000000)
  (hx:∀i k,i < r->k < c->FnV prog x [.v (.int .i64 (i:Int)),.v (.int .i64 (k:Int))] (.agg (z2A (L i k)))) (hL:∀i k,i < r->k < c->ZQ (L i k) (val i k) K) (hx1:x.eY=true):
  ak prog 121 [.v (.int .i64 (r:Int)),.v (.int .i64 (c:Int)),.it (.one (.c x))] [] ⟨.agg (mtO r c 81),[(81,.ent (.row 31 2 (r*c) ((jl c val r).flatMap zC)))]⟩:=by
 refine ak.fq func121 results121 ntmps121 fun _ _ _ _ _=>?_
 refine zg ?_;refine W.loop (fun i=>i<=r) (fun i=>[(1,.v (.int .i64 (c:Int))),(2,.it (.one (.c x))),(6,.ptr 6 0),(7,.ptr 7 0),(14,.v (.int .i64 (r:Int))),(15,.v (.int .i64 (i:Int)))]) (fun i=>[(6,.box 51 [.c (.val (.int .i64 0)),.c (.val (.int .i64 0)),.c (.val (.slice none 0 0))]),(7,.box 51 [.c (.val (.int .i64 (r:Int))),.c (.val (.int .i64 (c:Int))),.own 81]),(81,.row 31 2 (i*c) ((jl c val i).flatMap zC))]) (fun i=>r - i) 0 (zq8 _) (fun i hi=>?_)
  (by
   refine St.aW [(81,none)] zt ?_ ?_ rfl
   ·exact ya
   ·exact⟨ay.same rfl rfl,ay.jZ rfl rfl ⟨aC.same rfl,aC.same rfl,aC.nil rfl,trivial⟩,by rw[zw3];exact ay.dO rfl,trivial⟩)
 by_cases h:i < r
 ·refine zg ?_;refine W.loop (fun k=>k<=c) (fun k=>[(1,.v (.int .i64 (c:Int))),(2,.it (.one (.c x))),(6,.ptr 6 0),(7,.ptr 7 0),(8,.v (.int .i64 (i:Int))),(14,.v (.int .i64 (r:Int))),(15,.v (.int .i64 (i:Int))),(18,.v (.int .i64 (c:Int))),(19,.v (.int .i64 (k:Int)))]) (fun k=>[(6,.box 51 [.c (.val (.int .i64 0)),.c (.val (.int .i64 0)),.c (.val (.slice none 0 0))]),(7,.box 51 [.c (.val (.int .i64 (r:Int))),.c (.val (.int .i64 (c:Int))),.own 81]),(81,.row 31 2 (i*c+k) ((jl c val i++uL val i k).flatMap zC))]) (fun k=>c - k) 0 (zq8 _) (fun k hk=>?_)
   (by
    have e:Ent.row 31 2 (i*c) ((jl c val i).flatMap zC)=Ent.row 31 2 (i*c+0) ((jl c val i++uL val i 0).flatMap zC):=by simp[uL]
    refine St.aW [] zt ?_ ?_ rfl
    ·exact ya
    ·exact⟨ay.same rfl rfl,ay.same rfl rfl,ay.eq rfl e rfl,trivial⟩)
  by_cases h2:k < c
  ·have hf:=hx i k h h2;have cR:=agS (hL i k h h2) hK;have hlen:i*c+k<=20000:=by
    have:=zxd (show i<=100 by omega) hc
    omega
   refine zg ?_;refine W.next (k+1) h2 zE (by
    have e2:(jl c val i++uL val i k).flatMap zC++zC (val i k)=(jl c val i++uL val i (k+1)).flatMap zC:=by
     rw[afh,<-zqj,zvc (xs:=jl c val i++uL val i k)];simp
    refine St.aW [(81,some 34)] zt ?_ ?_ rfl
    ·exact ya
    ·exact⟨ay.same rfl rfl,ay.jZ rfl rfl ⟨aC.same rfl,aC.same rfl,aC.own rfl,trivial⟩,ay.row rfl rfl zE e2,trivial⟩)
  ·obtain rfl:k=c:=zE
   refine zg ?_;refine W.next (i+1) h zE (by
    have e2:Ent.row 31 2 (i*k+k) ((jl k val i++uL val i k).flatMap zC)=Ent.row 31 2 ((i+1)*k) ((jl k val (i+1)).flatMap zC):=by rw[zv8,vY];rfl
    refine St.aW [] zt ?_ ?_ rfl
    ·exact ya
    ·exact⟨ay.same rfl rfl,ay.same rfl rfl,ay.eq rfl e2 rfl,trivial⟩)
 ·obtain rfl:i=r:=zE
  refine zg ?_;exact jq (xs:=[.agg (mtO i c 81)]) ⟨aj.bG rfl rfl rfl,trivial⟩ ⟨rfl,trivial⟩
theorem anA{r c:Nat}(hr:r<=64)(hc:c<=64):ak prog 74 [.v (.int .i64 (r:Int)),.v (.int .i64 (c:Int))] [] ⟨.tup [.agg (mtO r c 81),eNo 0],[(81,.ent (.row 31 2 (r*c) ((jl c (fun _ _=>0) r).flatMap zC)))]⟩:=by
 have s1:=(oF (r:Int)).h trivial;have s2:=(oF (c:Int)).h trivial;rw[decide_eq_true (show 0<=(r:Int)/\(r:Int)<=64 by omega)]at s1
 rw[decide_eq_true (show 0<=(c:Int)/\(c:Int)<=64 by omega)]at s2
 have c0:∀i k:Nat,ah prog 122 [.v (.int .i64 (i:Int)),.v (.int .i64 (k:Int))] (.agg (z2A (false,eT []))):=fun i k=>by
  refine ah.fq func122 results122 ntmps122 fun w0 T B E0 hB=>?_
  refine zg ?_;refine oJ aj.gV ?_;exact iO ⟨aB.refl _,aB.lT,trivial⟩
 have cM:=akd r c (.sat (fJ 122 [] [])) (fun _ _=>(false,eT [])) (fun _ _=>0) 1 zE zE zc (fun i k _ _=>FnV.const (c0 i k)) (fun i k _ _=>ZQ.raw (b:=false) (l:=[]) Sm.nil zc) rfl
 have cM:=weakC (args:=[.v (.int .i64 (r:Int)),.v (.int .i64 (c:Int)),.it (.one (.clo 122 []))]) cM fun E S w vs hv=>by
  match vs,hv with
  |[u1,u2,u3],⟨h1,h2,h3,_⟩=>exact⟨h1,h2,ane h3,trivial⟩
 refine ak.fnA func74 results74 ntmps74 rfl rfl rfl rfl rfl rfl rfl rfl fun w0 T B E0 hB=>?_
 refine zg ?_;refine ahs cM rfl rfl rfl rfl ?_;refine zg ?_;exact jq (xs:=[.agg (mtO r c 81),eNo 0]) ⟨aj.bG rfl rfl rfl,aj.tmp rfl,trivial⟩ ⟨rfl,trivial⟩
theorem aj0{r c n:Nat}{cells:List CA}{e:Int}:ak prog 73 [.agg (mtO r c 81),.it (eNo e)] [(81,.row 31 2 n cells)] ⟨.agg (mtO r c 81),[(81,.ent (.row 31 2 n cells))]⟩:=by
 refine ak.fnA func73 results73 ntmps73 rfl rfl rfl rfl rfl rfl rfl rfl fun _ _ _ _ _=>?_
 refine zg ?_;exact jq (xs:=[.agg (mtO r c 81)]) ⟨aj.bG rfl rfl rfl,trivial⟩ ⟨rfl,trivial⟩
end Go.Proofs.YtjnhnbgpifohjaaGreatDoor
set_option linter.unusedSectionVars false
namespace Go.Proofs.YtjnhnbgpifohjaaGreatDoor
open Go.RowKit QM SX LA
def zqF(q:List Int)(n k m:Nat):Int:=if m / n < k then(if m % n+1=n then 0 - q.getD (m / n) 0 else if m % n+1=m / n then 1 else 0)else 0
def zqG(q:List Int)(n k m:Nat):Int:=if 0 < k/\m=k*n+k - 1 then 1 else zqF q n k m
theorem aqP{q:List Int}{n k:Nat}(hk:k < n)(m:Nat):(if m=k*n+n - 1 then 0 - q.getD k 0 else zqG q n k m)=zqF q n (k+1) m:=by
 have hn:0 < n:=zE
 have hm:=Nat.div_add_mod m n;have hml:=zyi m hn;by_cases h1:m / n=k
 ·rw[h1,zxj]at hm;unfold zqF;rw[h1,if_pos (show k < k+1 by omega)]
  by_cases h2:m % n+1=n
  ·rw[if_pos h2,if_pos zE]
  ·rw[if_neg h2,if_neg zE]
   unfold zqG;by_cases h3:m % n+1=k
   ·rw[if_pos h3,if_pos ⟨zE,zE⟩]
   ·rw[if_neg h3,if_neg zE]
    unfold zqF;rw[h1,if_neg (Nat.lt_irrefl k)]
 ·have h2:m≠k*n+n - 1:=fun e=>h1 (by rw[e,show k*n+n - 1=k*n+(n - 1)by omega];exact dv zE)
  rw[if_neg h2];have h3:¬(0 < k/\m=k*n+k - 1):=fun e=>h1 (by rw[e.2,show k*n+k - 1=k*n+(k - 1)by omega];exact dv zE)
  unfold zqG;rw[if_neg h3];unfold zqF;by_cases h4:m / n < k
  ·rw[if_pos h4,if_pos (show m / n < k+1 by omega)]
  ·rw[if_neg h4,if_neg (show¬m / n < k+1 by omega)]
theorem aqO{q:List Int}{n k:Nat}(hk:k < n):zqG q n k (k*n+n - 1)=0:=by
 unfold zqG;have h:¬(0 < k/\k*n+n - 1=k*n+k - 1):=zE
 rw[if_neg h];unfold zqF;rw[show k*n+n - 1=k*n+(n - 1)by omega,dv zE,if_neg (Nat.lt_irrefl k)]
theorem arj(q:List Int)(n m:Nat):zqF q n 0 m=0:=by unfold zqF;rw[if_neg (zvj _)]
theorem auE{q:List Int}{n k:Nat}(h:0 < k)(m:Nat):(if m=k*n+k - 1 then 1 else zqF q n k m)=zqG q n k m:=by
 unfold zqG;by_cases h1:m=k*n+k - 1
 ·rw[if_pos h1,if_pos ⟨h,h1⟩]
 ·rw[if_neg h1,if_neg (fun e=>h1 e.2)]
theorem zqG_0(q:List Int)(n:Nat):zqG q n 0=zqF q n 0:=by
 funext m;unfold zqG;rw[if_neg zE]
def aaJ(zs:List Int):List Int:=(List.range (((aS zs).length - 1)*((aS zs).length - 1))).map (zqF (aS zs) ((aS zs).length - 1) ((aS zs).length - 1))
abbrev zT(zs:List Int):Prop:=(aS zs).length=0\/(aS zs).getD ((aS zs).length - 1) 0≠1
theorem ari(c:Nat):∀r,jl c (fun _ _=>0) r=List.replicate (r*c) 0
 |0=>by rw[zw3];rfl
 |r+1=>by
  have e:(List.range c).map (fun _=>(0:Int))=List.replicate c 0:=by rw[List.map_const',zy1]
  rw[vY,ari c r,zv8,<-List.replicate_append_replicate];exact congrArg _ e
theorem avQ{c r:Nat}{f:Nat->Int}(h:∀m,f m=0):(jl c (fun _ _=>0) r).flatMap zC=(uo (r*c) f).flatMap z2C:=by
 rw[ari,<-aar h,List.flatMap,List.map_replicate]
attribute [local irreducible] IntKind.wrap Go1 Reg WP aO aR bM bK aN aD aj ak aX Sat
attribute [local irreducible] bO bX bV cK bW qv dH mf PrP qOk zOk vP dP lz vF cq rqv dX aS bU aV fB zqF zqG
theorem afd{l:List Z2}{zs:List Int}{K:Nat}(hM:MZ l zs K)(hz:∀z∈zs,z.natAbs < WB ^ K)(hK:K<=1000000)(hl:l.length<=60)(h:zT zs):ah prog 26 [.r (aA 2 z2C l)] (.tup [.agg aa1,eNo 3]):=by
 have c1:=jr hM hK zE
 have n1:=gU zs;have n2:=kF zs;have n3:=hM.len;have hq:∀z∈aS zs,z.natAbs < WB ^ K:=fun z hz'=>hz z (lU z hz')
 unfold zT at h;generalize aS zs=q at*;have m1:(q.map z2v).length=q.length:=zq5 _;refine ah.fq func26 results26 ntmps26 fun _ _ _ _ _=>?_
 by_cases h0:q.length=0
 ·refine zg ?_;exact .ok (aD.mk2 aj.bG (aj.tmp rfl))
 ·have h1:=h.resolve_left h0;obtain⟨x,hx⟩:∃x,q[q.length - 1]? =some x:=⟨_,zyh zE⟩
  have gx:q.getD (q.length - 1) 0=x:=by rw[zx7,hx];rfl
  have hx':(q.map z2v)[(q.map z2v).length - 1]? =some (z2v x):=by rw[m1,zqa,hx];rfl
  rw[gx]at h1;have qx:ZQ (z2v x) x K:=ZQ.made (hq x (zq4 hx));have q1:ZQ (z2v 1) 1 1:=ZQ.made (by rw[zxh,bJ];decide)
  have cO:ah prog 18 [.v (.int .i64 1)] (.agg (zN 1)):=kC.h ⟨zE,zE⟩
  have cS:ah prog 72 [.agg (z2A (z2v x)),.agg (zN 1)] (.v (.bool false)):=by
   have:=(aaQ (h:=qx.zi) (h':=q1.zi)).h zE
   rwa [decide_eq_false h1]at this
  refine zg ?_;exact .ok (aD.mk2 aj.bG (aj.tmp rfl))
theorem aiX{l:List Z2}{zs:List Int}{K:Nat}(hM:MZ l zs K)(hz:∀z∈zs,z.natAbs < WB ^ K)(hK:K<=100000)(hl:l.length<=60)(h:¬zT zs):ah prog 26 [.r (aA 2 z2C l)] (.tup [.agg (xL ((aS zs).length - 1) ((aS zs).length - 1) (aaJ zs)),eNo 0]):=by
 have c1:=jr hM zE zE
 have n1:=gU zs;have n2:=kF zs;have n3:=hM.len;have hq:∀z∈aS zs,z.natAbs < WB ^ K:=fun z hz'=>hz z (lU z hz')
 unfold aaJ;unfold zT at h;generalize aS zs=q at*;have m1:(q.map z2v).length=q.length:=zq5 _;have h0:q.length≠0:=fun e=>h (.inl e)
 have h1:q.getD (q.length - 1) 0=1:=Classical.not_not.1 fun e=>h (.inr e)
 clear h;obtain⟨n,hn⟩:∃n,n=q.length - 1:=⟨_,rfl⟩;have hx:q[q.length - 1]? =some 1:=by
  obtain⟨x,hx⟩:∃x,q[q.length - 1]? =some x:=⟨_,zyh zE⟩
  rw[zx7,hx]at h1
  rw[hx,show x=1 from h1]
 have hx':(q.map z2v)[(q.map z2v).length - 1]? =some (z2v 1):=by rw[m1,zqa,hx];rfl
 have q1:ZQ (z2v 1) 1 1:=ZQ.made (by rw[zxh,bJ];decide)
 have cO:ah prog 18 [.v (.int .i64 1)] (.agg (zN 1)):=kC.h ⟨zE,zE⟩
 have cS:ah prog 72 [.agg (z2A (z2v 1)),.agg (zN 1)] (.v (.bool true)):=(aaQ (h:=q1.zi) (h':=q1.zi)).h zE
 have hnn:n*n<=60*60:=zxd zE zE
 have cNw:=anA (r:=(q.map z2v).length - 1) (c:=(q.map z2v).length - 1) zE zE
 rw[avQ (arj q n)]at cNw;have hmat:xL (q.length - 1) (q.length - 1) ((List.range ((q.length - 1)*(q.length - 1))).map (zqF q (q.length - 1) (q.length - 1)))=[.c (.val (.int .i64 (n:Int))),.c (.val (.int .i64 (n:Int))),.c (.sat (aQ 2 (n*n) ((uo (n*n) (zqF q n n)).flatMap z2C)))]:=by
  rw[<-hn,akb,zv4];show [_,_,Atom.c (.sat (aQ 2 (uo (n*n) (zqF q n n)).length _))]=_;rw[uq];rfl
 rw[hmat];refine ah.fq func26 results26 ntmps26 fun _ _ _ _ hB=>?_
 refine zg ?_;refine ahs cNw rfl rfl rfl rfl ?_;refine zg ?_;have cMu:=aj0 (r:=(q.map z2v).length - 1) (c:=(q.map z2v).length - 1) (n:=((q.map z2v).length - 1)*((q.map z2v).length - 1)) (cells:=(uo (((q.map z2v).length - 1)*((q.map z2v).length - 1)) (zqF q n 0)).flatMap z2C) (e:=0);refine SX.G.arD (cap:=[]) (hc:=cMu) ?_;refine zg ?_;refine W.loop (fun k=>k<=n) (fun k=>[(0,.r (aA 2 z2C (q.map z2v))),(2,.ptr 2 0),(4,.v (.int .i64 (n:Int))),(5,.ptr 5 0),(35,.v (.int .i64 (n:Int))),(36,.v (.int .i64 (k:Int)))]) (fun k=>[(2,.box 51 aa1),(5,.box 51 (mtO n n 81)),(81,.row 31 2 (n*n) ((uo (n*n) (zqF q n k)).flatMap z2C))]) (fun k=>n - k) 0 (zq8 _) (fun k hk=>?_)
  (by
   rw[hn,<-m1];refine St.aW [] zt ?_ ?_ rfl
   ·exact yi
   ·exact⟨ay.same rfl rfl,ay.same rfl rfl,ay.same rfl rfl,trivial⟩)
 by_cases h:k < n
 ·have hkn:=zx1 n (show k+1<=n from h)
  rw[zy5,Nat.one_mul]at hkn;have hw1:IntKind.i64.wrap ((k:Int)*(n:Int))=((k*n:Nat):Int):=by rw[<-Int.natCast_mul];exact jL zE zE
  refine zg ?_;refine W.awo [(0,.r (aA 2 z2C (q.map z2v))),(2,.ptr 2 0),(4,.v (.int .i64 (n:Int))),(5,.ptr 5 0),(6,.v (.int .i64 (k:Int))),(35,.v (.int .i64 (n:Int))),(36,.v (.int .i64 (k:Int)))] [(2,.box 51 aa1),(5,.box 51 (mtO n n 81)),(81,.row 31 2 (n*n) ((uo (n*n) (zqG q n k)).flatMap z2C))] ?_ ?_
  ·by_cases h2:0 < k
   ·have hst1:=zJ (n:=n*n) (f:=zqF q n k) (g:=zqG q n k) (k:=k*n+k - 1) (x:=1) (fun m=>auE h2 m)
    have hln1:=uq (n*n) (zqF q n k);refine zg ?_;refine SX.G.nk (a:=z2v 1) ?_;rw[hst1];refine zg ?_;exact W.le
   ·obtain rfl:k=0:=zE
    rw[zqG_0];refine zg ?_;exact W.le
  ·obtain⟨x,hx2⟩:∃x,q[k]? =some x:=⟨_,zyh zE⟩
   have gx:q.getD k 0=x:=by rw[zx7,hx2];rfl
   have hx3:(q.map z2v)[k]? =some (z2v x):=by rw[zqa,hx2];rfl
   have qx:ZQ (z2v x) x K:=ZQ.made (hq x (zq4 hx2));have q0:ZQ (z2v 0) 0 1:=ZQ.made (by rw[zxh,bJ];decide)
   have hat:(uo (n*n) (zqG q n k))[k*n+n - 1]? =some (z2v 0):=by rw[zV zE,aqO h]
   have cSu:=(ajn (h:=q0.zi) (h':=qx.zi)).h zE
   have hst2:=zJ (n:=n*n) (f:=zqG q n k) (g:=zqF q n (k+1)) (k:=k*n+n - 1) (x:=0 - x) (fun m=>by
    have:=aqP (q:=q) h m;rw[gx]at this;exact this)
   have hln2:=uq (n*n) (zqG q n k);refine zg ?_;refine SX.G.nk (a:=z2v (0 - x)) ?_;rw[hst2];refine zg ?_;exact W.next (k+1) h zE
 ·obtain rfl:k=n:=zE
  refine WP.freeze 81 hB rfl ?_;refine zg ?_;exact .ok (aD.mk2 aj.bG (aj.tmp rfl))
end Go.Proofs.YtjnhnbgpifohjaaGreatDoor
set_option linter.unusedSectionVars false
namespace Go.Proofs.YtjnhnbgpifohjaaGreatDoor
open Go.RowKit QM SX LA
section
theorem axo{q:List Int}{n k m K:Nat}(hq:∀z∈q,z.natAbs < WB ^ K)(hK:1<=K):(zqF q n k m).natAbs < WB ^ K:=by
 have h1:2<=WB ^ K:=zxf (show 2<=WB ^ 1 by rw[zxh,bJ];decide) (zx2 aZ hK)
 unfold zqF
 split
 ·split
  ·rw[Int.zero_sub,Int.natAbs_neg];rw[zx7]
   cases hg:q[m / n]? with
   |none=>show (0:Int).natAbs < _;rw[Int.natAbs_zero];omega
   |some z=>exact hq z (zq4 hg)
  ·split
   ·rw[Int.natAbs_one];omega
   ·rw[Int.natAbs_zero];omega
 ·rw[Int.natAbs_zero];omega
theorem anh{zs:List Int}{K:Nat}(hz:∀z∈zs,z.natAbs < WB ^ K)(hK:1<=K):∀z∈aaJ zs,z.natAbs < WB ^ K:=fun z h=>by
 unfold aaJ at h;obtain⟨m,_,rfl⟩:=zqg.1 h;exact axo (fun z hz'=>hz z (lU z hz')) hK
theorem acK(zs:List Int):(aaJ zs).length=((aS zs).length - 1)*((aS zs).length - 1):=by unfold aaJ;rw[zq5,zy1]
attribute [local irreducible] IntKind.wrap Go1 Reg WP aO aR bM bK aN aD aj ak aX Sat
attribute [local irreducible] bO bX bV cK bW qv dH mf PrP qOk zOk vP dP lz vF cq rqv dX aS bU aV fB jn sq aY qS zS tS tbS plS mdS zmd qN pE zEv aH fDs fEv xgG xgS xgT qR aaJ zqF zqG
theorem aer:ah prog 128 [.agg aa1,.v (.int .i64 3)] (.agg (gW v0 3 true)):=by
 have cT:=aeF (r:=0) (c:=0) (K:=1) (zs:=[]) rfl zc zc (fun z h=>nomatch h) zc zc
 have cT':ah prog 136 [.agg aa1] (.agg (vlA (iC 0 0 []))):=weakArgs cT fun E S w vs hv=>by
  match vs,hv with
  |[u],⟨h1,_⟩=>exact⟨(show AV0.imp (.agg aa1) (.agg (xL 0 0 []))from iO ⟨aB.refl _,aB.refl _,aB.nil (α:=Int) (enc:=zC) (size:=2),trivial⟩) E S w u h1,trivial⟩
 have cD:=af3 (iC 0 0 []) (e:=3) zc
 clear cT;refine ah.fq func128 results128 ntmps128 fun _ _ _ _ _=>?_
 refine zg ?_;refine gu aj.dJ ?_;exact zv _
section
variable{zs:List Int}{K:Nat}(hz:∀z∈zs,z.natAbs < WB ^ K)(hK1:1<=K)(hK:K<=10000)(hl:zs.length<=60)
include hz hK1 hK hl
theorem aix(h:¬zT zs):ah prog 82 [.agg (bB pG [bQ zs])] (.agg (gW (iC ((aS zs).length - 1) ((aS zs).length - 1) ((aaJ zs).map fun z:Int=>(z:Rat))) 0 true)):=by
 have hv:[bQ zs][0]? =some (bQ zs):=rfl;have a1:=alU (t:=pG) zs;have n1:=gU zs;have n2:=kF zs;have cC:=aiX (MZ.ofz hz) hz zE (by rw[zq5,zq5];omega) h
 have cM:=y8 (K:=K) (acK zs) zE zE (anh hz hK1) hK hK1
 refine ah.fq func82 results82 ntmps82 fun _ _ _ _ _=>?_
 refine zg ?_;refine gu aj.dJ ?_;exact zv _
theorem afW(h:zT zs):ah prog 82 [.agg (bB pG [bQ zs])] (.agg (gW v0 3 true)):=by
 have hv:[bQ zs][0]? =some (bQ zs):=rfl;have a1:=alU (t:=pG) zs;have cC:=afd (MZ.ofz hz) hz zE (by rw[zq5,zq5];omega) h
 have cM:=aer;refine ah.fq func82 results82 ntmps82 fun _ _ _ _ _=>?_
 refine zg ?_;refine gu aj.dJ ?_;exact zv _
theorem anC(hn:pN zs)(h:¬zT zs):ah prog 28 [.v (str pG),.r (aA 15 vlE [bQ zs])] (.tup [.agg (vlA (iC ((aS zs).length - 1) ((aS zs).length - 1) ((aaJ zs).map fun z:Int=>(z:Rat)))),eNo 0]):=by
 refine oQ (n0:=2) zc zc (zqc rfl) (F1 (Fp hz hK hn zE)) agq afX (fun k f hk hg=>?_) (fun f hg=>?_)
 ·match k,hk,hg with
  |0,_,hg=>cases hg;exact wz
  |1,_,hg=>cases hg;exact wL
 ·cases hg;exact aix hz hK1 hK hl h
theorem akI(hn:pN zs)(h:zT zs):ah prog 28 [.v (str pG),.r (aA 15 vlE [bQ zs])] (.tup [.agg (vlA v0),eNo 3]):=by
 refine aaB (n0:=2) zc zc (zqc rfl) (F1 (Fp hz hK hn zE)) agq afX (fun k f hk hg=>?_) (fun f hg=>?_)
 ·match k,hk,hg with
  |0,_,hg=>cases hg;exact wz
  |1,_,hg=>cases hg;exact wL
 ·cases hg;exact afW hz hK1 hK hl h
end
end
section
noncomputable def ndI(p a n:Nat):Bool:=Nat.rec true (fun k ih=>cond (Nat.beq (Nat.mod p (Nat.add a k)) 0) false ih) n
noncomputable def ndO(p w n:Nat):Bool:=Nat.rec true (fun k ih=>cond (ndI p (Nat.add 2 (Nat.mul k w)) w) ih false) n
theorem aqV{p a:Nat}:∀n,ndI p a n=true->∀e,a<=e->e < a+n->p % e≠0
 |0,_,e,h1,h2=>zE
 |n+1,h,e,h1,h2=>by
  have h:cond (Nat.beq (p % (a+n)) 0) false (ndI p a n)=true:=h;cases hb:Nat.beq (p % (a+n)) 0 with
  |true=>rw[hb]at h;cases h
  |false=>
   rw[hb]at h;by_cases he:e=a+n
   ·subst he;intro h0;rw[h0]at hb;cases hb
   ·exact aqV n h e h1 zE
theorem at5{p w:Nat}(hw:0 < w):∀n,ndO p w n=true->∀e,2<=e->e < 2+n*w->p % e≠0
 |0,_,e,h1,h2=>zE
 |n+1,h,e,h1,h2=>by
  have h:cond (ndI p (2+n*w) w) (ndO p w n) false=true:=h;rw[zv8]at h2;cases hb:ndI p (2+n*w) w with
  |false=>rw[hb]at h;cases h
  |true=>
   rw[hb]at h;by_cases he:e < 2+n*w
   ·exact at5 hw n h e h1 he
   ·exact aqV w hb e zE zE
theorem PrP.by{p w n:Nat}(h:ndO p w n=true)(h1:2<=p)(h2:p < 2147483648)(hw:0 < w)(h3:p < (2+n*w)*(2+n*w)):PrP p:=PrP.intro h1 h2 h3 fun e h4 h5=>at5 hw n h e h4 h5
abbrev prT:List Nat:=[2,3,5,7,11,13,101,65537,1000003,1073741827,2147483629,2147483647]
theorem nO:∀p∈prT,PrP p:=fun p hp=>by
 have h:p=2\/p=3\/p=5\/p=7\/p=11\/p=13\/p=101\/p=65537\/p=1000003\/p=1073741827\/p=2147483629\/p=2147483647:=by simpa using hp
 rcases h with rfl|rfl|rfl|rfl|rfl|rfl|rfl|rfl|rfl|rfl|rfl|rfl
 ·exact PrP.by (w:=1) (n:=0) z6 zc zc zc zc
 ·exact PrP.by (w:=1) (n:=0) z6 zc zc zc zc
 ·exact PrP.by (w:=1) (n:=1) z6 zc zc zc zc
 ·exact PrP.by (w:=1) (n:=1) z6 zc zc zc zc
 ·exact PrP.by (w:=1) (n:=2) z6 zc zc zc zc
 ·exact PrP.by (w:=1) (n:=2) z6 zc zc zc zc
 ·exact PrP.by (w:=3) (n:=3) z6 zc zc zc zc
 ·exact PrP.by (w:=17) (n:=16) z6 zc zc zc zc
 ·exact PrP.by (w:=32) (n:=32) z6 zc zc zc zc
 ·exact PrP.by (w:=182) (n:=182) z6 zc zc zc zc
 ·exact PrP.by (w:=216) (n:=216) z6 zc zc zc zc
 ·exact PrP.by (w:=216) (n:=216) z6 zc zc zc zc
theorem fM_r(p x y:Nat):fM p x (y % p)=fM p x y:=by unfold fM;rw[Nat.mod_mod]
theorem awe(p:Nat)(a:List Nat)(x:Nat):∀k,fEv p a (x % p) k=fEv p a x k
 |0=>rfl
 |k+1=>by
  show fA p (fM p (fEv p a (x % p) k) (x % p)) _=fA p (fM p (fEv p a x k) x) _;rw[awe p a x k,fM_r]
theorem atZ(p x:Nat):zmd p (x:Int)=x % p:=by
 unfold zmd;rw[<-Int.natCast_emod,zw8]
theorem zmd_0(p:Nat):zmd p 0=0:=by unfold zmd;rw[Int.zero_emod];rfl
theorem amd(p:Nat)(zs:List Int)(j:Nat):(zs.map (zmd p)).getD j 0=zmd p (zs.getD j 0):=by
 rw[zx7,zx7,zqa]
 cases zs[j]? with
 |none=>exact(zmd_0 p).symm
 |some z=>rfl
theorem ahN(p:Nat)(zs:List Int):aH p ((aS zs).map (zmd p))=aH p (zs.map (zmd p)):=
 apU (jY _ _) (jY _ _) fun j=>by rw[ah8,ah8,amd,amd,uU]
theorem aqQ:∀(k:Nat) (a b:List Int),GcK a b->(∀z∈gcR k a b,z.natAbs < WB ^ 17106)/\(gcR k a b).length<=5
 |0,a,b,h=>⟨fun z hz=>abe (L:=17106) (h.a z hz) (gB_5 _ zE),h.la⟩
 |k+1,a,b,h=>by
  unfold gcR
  split
  ·exact⟨fun z hz=>abe (L:=17106) (h.a z hz) (gB_5 _ zE),h.la⟩
  ·rename_i h0;exact aqQ k b _ (h.step h0)
theorem auc{x y:List Int}(hx:pN x)(hy:pN y)(hxl:x.length<=5)(hyl:y.length<=5)(hxz:∀z∈x,z.natAbs < WB ^ 1)(hyz:∀z∈y,z.natAbs < WB ^ 1):pN (qN x y)/\(qN x y).length<=5/\∀z∈qN x y,z.natAbs < WB ^ 17107:=by
 have b1:(jS x).natAbs < WB ^ 1:=by unfold jS;rw[zxa];exact oL hxz _
 have b2:(jS y).natAbs < WB ^ 1:=by unfold jS;rw[zxa];exact oL hyz _
 have hgl:=agt b1 b2;have l1:=jd x;have l2:=jd y;have hst:GcK (gD x) (gD y):=⟨uO hx,uO hy,zE,zE,fun z hz=>abe (u7 hxz z hz) (wD 0 _ (zq8 _)),fun z hz=>abe (u7 hyz z hz) (wD 0 _ (zq8 _))⟩
 obtain⟨h1,h2⟩:=aqQ (gD y).length _ _ hst;unfold qN;refine⟨ao1 _ _,zxf (p8 _ _) h2,fun z hz=>?_⟩
 exact abe (L:=17107) (mR h1 (d:=((Int.gcd (jS x) (jS y):Nat):Int)) (L:=1) (by rw[zxa];exact hgl) z hz) (zq6 _)
theorem asr{n:Nat}{f:Nat->Nat}{B:Nat}(h:∀m,f m < B):∀z∈fZ n f,z < B:=fun z hz=>by
 unfold fZ at hz;obtain⟨m,_,rfl⟩:=zqg.1 hz;exact h m
theorem avK{p:Nat}(hp:PrP p)(l:List Nat):∀z∈qR p l,z < p:=by
 unfold qR;exact asr fun m=>cF_lt hp _ _ _ m
theorem ahV(p:Nat)(l:List Nat):(qR p l).length=((aH p l).length - 1)*((aH p l).length - 1):=by unfold qR;exact dn _ _
section
variable{p:Nat}(hp:PrP p){l l':List Nat}(hl:l.length<=50)(hl':l'.length<=50)
include hp hl hl'
theorem awt:(iw p l l').Ok p 50:=(Eu.akK hp (aH p l').length (alc hp hl hl') (zq6 _)).1
theorem ala:(xgG p l l').length<=50:=by
 have h:=(awt hp hl hl').a.2;unfold xgG;exact zxf (y9 _ _ _) h
theorem alW:(xgS p l l').length<=2501:=by
 have h:=(awt hp hl hl').s.2;have h2:=y9 p (iw p l l').s (fI p (kY p (iw p l l').a));have h0:(adq p l l').length<=2501:=by
  show (abx p (iw p l l').s (fI p (kY p (iw p l l').a))).length<=2501;omega
 unfold xgS
 split
 ·exact h0
 ·exact zxf (aeJ _ _ _) h0
theorem aun:(xgT p l l').length<=10000:=by
 have h1:=ala hp hl hl';have h2:=alW hp hl hl';have h3:=dA p l;have h4:=zM p (xgS p l l') (aH p l);have h5:=aaE p (fS p) (xgG p l l') (rG p (xgS p l l') (aH p l));unfold xgT
 split
 ·exact zq8 _
 ·refine zxf (yJ _ _ _) ?_;show (aaW p (fS p) (xgG p l l') (rG p (xgS p l l') (aH p l))).length<=10000;omega
end
theorem arX{p:Nat}(hp:PrP p)(l l':List Nat):∀z∈xgG p l l',z < p:=by unfold xgG;exact abV hp _ _
theorem arE(p:Nat)(l l':List Nat):gN (xgG p l l'):=by unfold xgG;exact alj _ _ _
theorem ayy{p:Nat}(hp:PrP p)(l l':List Nat):∀z∈xgS p l l',z < p:=by
 unfold xgS adq
 split
 ·exact abV hp _ _
 ·exact afQ hp _ _
theorem ay9(p:Nat)(l l':List Nat):gN (xgS p l l'):=by
 unfold xgS adq
 split
 ·exact alj _ _ _
 ·exact anm _ _ _
theorem axb{p:Nat}(hp:PrP p)(l l':List Nat):∀z∈xgT p l l',z < p:=by
 unfold xgT
 split
 ·intro z h;cases h
 ·exact agN hp _ _
theorem ayr(p:Nat)(l l':List Nat):gN (xgT p l l'):=by
 unfold xgT
 split
 ·exact .inl rfl
 ·exact auA _ _ _
end
end Go.Proofs.YtjnhnbgpifohjaaGreatDoor
set_option linter.unusedSectionVars false
namespace Go.Proofs.YtjnhnbgpifohjaaGreatDoor
open Go.RowKit QM SX LA
attribute [local irreducible] IntKind.wrap Go1 Reg WP aO aR bM bK aN aD aj ak aX Sat
attribute [local irreducible] bO bX bV cK bW qv dH mf PrP qOk zOk vP dP lz vF cq rqv dX aS bU aV fB jn sq aY qS zS tS tbS plS mdS zmd qN pE zEv aH fDs fEv xgG xgS xgT qR aaJ zqF zqG
theorem ae3(l:List nL)(goal:Bool)(hl:l.length<=5)(hg:goal=true↔∀x∈l,x.2.length<=1):
  ah prog 20 [.r (aA 2 z2C (l.map rz)),.v (.int .i64 5),.v (.int .i64 1)] (.v (.bool goal)):=by
 have hlen:(l.map rz).length=l.length:=zq5 _;refine ah.fq func20 results20 ntmps20 fun _ _ _ _ _=>?_
 refine zg ?_;refine W.loop (fun k=>k<=l.length/\∀(j:Nat) x,j < k->l[j]? =some x->x.2.length<=1) (fun k=>[(0,.r (aA 2 z2C (l.map rz))),(1,.v (.int .i64 5)),(2,.v (.int .i64 1)),(7,.v (.int .i64 (k:Int)))]) (fun _=>[]) (fun k=>l.length - k) 0 ⟨zq8 _,fun j x h=>absurd h (zvj _)⟩ (fun k ⟨hk,he⟩=>?_)
 by_cases h:k < l.length
 ·have h':k < (l.map rz).length:=zE
  obtain⟨x,hx⟩:∃x,l[k]? =some x:=⟨_,zyh h⟩
  have hq:(l.map rz)[k]? =some (rz x):=by rw[zqa,hx];rfl
  by_cases h3:x.2.length<=1
  ·refine zg ?_;refine W.next (k+1) ⟨h,fun j b hj hb=>?_⟩ zE
   by_cases hjk:j < k
   ·exact he j b hjk hb
   ·obtain rfl:j=k:=zE
    rw[hx]at hb;rw[<-zy7 hb];exact h3
  ·refine zg ?_;refine bg ?_;exact(Bool.eq_false_iff.2 fun ht=>h3 (hg.1 ht x (zq4 hx))).symm
 ·obtain rfl:k=l.length:=zE
  have h':¬l.length < (l.map rz).length:=zE
  have ht:goal=true:=hg.2 fun x hx=>by
   obtain⟨i,hi⟩:=List.mem_iff_getElem?.1 hx;exact he i x (xg hi) hi
  subst ht;refine zg ?_;refine bg ?_;exact decide_eq_true zE
theorem ajx(l:List nL)(hl:¬l.length<=5):ah prog 20 [.r (aA 2 z2C (l.map rz)),.v (.int .i64 5),.v (.int .i64 1)] (.v (.bool false)):=by
 have hlen:(l.map rz).length=l.length:=zq5 _;refine ah.fq func20 results20 ntmps20 fun _ _ _ _ _=>?_
 refine zg ?_;refine W.loop (fun k=>k<=l.length/\k<=100) (fun k=>[(0,.r (aA 2 z2C (l.map rz))),(1,.v (.int .i64 5)),(2,.v (.int .i64 1)),(7,.v (.int .i64 (k:Int)))]) (fun _=>[]) (fun k=>l.length - k) 0 ⟨zq8 _,zq8 _⟩ (fun k ⟨hk,hk2⟩=>?_)
 by_cases h:k < l.length
 ·have h':k < (l.map rz).length:=zE
  obtain⟨x,hx⟩:∃x,l[k]? =some x:=⟨_,zyh h⟩
  have hq:(l.map rz)[k]? =some (rz x):=by rw[zqa,hx];rfl
  by_cases h2:k < 100
  ·by_cases h3:x.2.length<=1
   ·refine zg ?_;exact W.next (k+1) ⟨h,h2⟩ zE
   ·refine zg ?_;exact bg rfl
  ·obtain rfl:k=100:=zE
   refine zg ?_;refine bg ?_;exact decide_eq_false zE
 ·obtain rfl:k=l.length:=zE
  have h':¬l.length < (l.map rz).length:=zE
  refine zg ?_;refine bg ?_;exact decide_eq_false zE
theorem pO(l:List nL):(l.length<=5/\(∀x∈l,x.2.length<=1)->ah prog 20 [.r (aA 2 z2C (l.map rz)),.v (.int .i64 5),.v (.int .i64 1)] (.v (.bool true)))/\
  (¬(l.length<=5/\∀x∈l,x.2.length<=1)->ah prog 20 [.r (aA 2 z2C (l.map rz)),.v (.int .i64 5),.v (.int .i64 1)] (.v (.bool false))):=by
 refine⟨fun h=>ae3 l true h.1 ⟨fun _=>h.2,fun _=>rfl⟩,fun h=>?_⟩
 by_cases hl:l.length<=5
 ·exact ae3 l false hl ⟨fun h'=>(by cases h'),fun h'=>absurd ⟨hl,h'⟩ h⟩
 ·exact ajx l hl
theorem axR{n:Int}(h:n.tmod 12=0):ah prog 22 [.v (.int .u8 n)] (.v (.int .u64 ((2:Nat):Int))):=by
 refine ah.fq func22 results22 ntmps22 fun _ _ _ _ _=>?_
 refine zg ?_;exact fC rfl
theorem axa{n:Int}(h:n.tmod 12=1):ah prog 22 [.v (.int .u8 n)] (.v (.int .u64 ((3:Nat):Int))):=by
 refine ah.fq func22 results22 ntmps22 fun _ _ _ _ _=>?_
 refine zg ?_;exact fC rfl
theorem ayu{n:Int}(h:n.tmod 12=2):ah prog 22 [.v (.int .u8 n)] (.v (.int .u64 ((5:Nat):Int))):=by
 refine ah.fq func22 results22 ntmps22 fun _ _ _ _ _=>?_
 refine zg ?_;exact fC rfl
theorem ayg{n:Int}(h:n.tmod 12=3):ah prog 22 [.v (.int .u8 n)] (.v (.int .u64 ((7:Nat):Int))):=by
 refine ah.fq func22 results22 ntmps22 fun _ _ _ _ _=>?_
 refine zg ?_;exact fC rfl
theorem ay8{n:Int}(h:n.tmod 12=4):ah prog 22 [.v (.int .u8 n)] (.v (.int .u64 ((11:Nat):Int))):=by
 refine ah.fq func22 results22 ntmps22 fun _ _ _ _ _=>?_
 refine zg ?_;exact fC rfl
theorem ayq{n:Int}(h:n.tmod 12=5):ah prog 22 [.v (.int .u8 n)] (.v (.int .u64 ((13:Nat):Int))):=by
 refine ah.fq func22 results22 ntmps22 fun _ _ _ _ _=>?_
 refine zg ?_;exact fC rfl
theorem awS{n:Int}(h:n.tmod 12=6):ah prog 22 [.v (.int .u8 n)] (.v (.int .u64 ((101:Nat):Int))):=by
 refine ah.fq func22 results22 ntmps22 fun _ _ _ _ _=>?_
 refine zg ?_;exact fC rfl
theorem axK{n:Int}(h:n.tmod 12=7):ah prog 22 [.v (.int .u8 n)] (.v (.int .u64 ((65537:Nat):Int))):=by
 refine ah.fq func22 results22 ntmps22 fun _ _ _ _ _=>?_
 refine zg ?_;exact fC rfl
theorem ax8{n:Int}(h:n.tmod 12=8):ah prog 22 [.v (.int .u8 n)] (.v (.int .u64 ((1000003:Nat):Int))):=by
 refine ah.fq func22 results22 ntmps22 fun _ _ _ _ _=>?_
 refine zg ?_;exact fC rfl
theorem axg{n:Int}(h:n.tmod 12=9):ah prog 22 [.v (.int .u8 n)] (.v (.int .u64 ((1073741827:Nat):Int))):=by
 refine ah.fq func22 results22 ntmps22 fun _ _ _ _ _=>?_
 refine zg ?_;exact fC rfl
theorem avL{n:Int}(h:n.tmod 12=10):ah prog 22 [.v (.int .u8 n)] (.v (.int .u64 ((2147483629:Nat):Int))):=by
 refine ah.fq func22 results22 ntmps22 fun _ _ _ _ _=>?_
 refine zg ?_;exact fC rfl
theorem avM{n:Int}(h:n.tmod 12=11):ah prog 22 [.v (.int .u8 n)] (.v (.int .u64 ((2147483647:Nat):Int))):=by
 refine ah.fq func22 results22 ntmps22 fun _ _ _ _ _=>?_
 refine zg ?_;exact fC rfl
theorem con_P{n:Int}(hn:0<=n/\n<=255):∃p:Nat,PrP p/\ah prog 22 [.v (.int .u8 n)] (.v (.int .u64 (p:Int))):=by
 have h1:0<=n.tmod 12/\n.tmod 12 < 12:=by
  obtain⟨m,rfl⟩:∃m:Nat,n=m:=⟨n.toNat,zE⟩
  rw[show (12:Int)=((12:Nat):Int)from rfl,nu]
  omega
 have h2:n.tmod 12=0\/n.tmod 12=1\/n.tmod 12=2\/n.tmod 12=3\/n.tmod 12=4\/n.tmod 12=5\/n.tmod 12=6\/n.tmod 12=7\/n.tmod 12=8\/n.tmod 12=9\/n.tmod 12=10\/n.tmod 12=11:=zE
 rcases h2 with h|h|h|h|h|h|h|h|h|h|h|h
 ·exact⟨2,nO _ zp,axR h⟩
 ·exact⟨3,nO _ zp,axa h⟩
 ·exact⟨5,nO _ zp,ayu h⟩
 ·exact⟨7,nO _ zp,ayg h⟩
 ·exact⟨11,nO _ zp,ay8 h⟩
 ·exact⟨13,nO _ zp,ayq h⟩
 ·exact⟨101,nO _ zp,awS h⟩
 ·exact⟨65537,nO _ zp,axK h⟩
 ·exact⟨1000003,nO _ zp,ax8 h⟩
 ·exact⟨1073741827,nO _ zp,axg h⟩
 ·exact⟨2147483629,nO _ zp,avL h⟩
 ·exact⟨2147483647,nO _ zp,avM h⟩
theorem avc{n:Int}{p:Nat}(hp:PrP p)(cP:ah prog 22 [.v (.int .u8 n)] (.v (.int .u64 (p:Int)))):ah prog 21 [.v (.int .u8 n)] (.agg (gfA p)):=by
 have c:=wo hp;refine ah.fq func21 results21 ntmps21 fun _ _ _ _ _=>?_
 refine zg ?_;exact nM aj.apK rfl
theorem aib(vs:List Vl):ah prog 34 [.r (aA 15 vlE vs)] (.agg (vlA (nN vs))):=by
 rw[<-vX];refine ah.fq func34 results34 ntmps34 fun _ _ _ _ _=>?_
 refine zg ?_;refine oJ aj.ig ?_;exact iO ⟨aB.refl _,aB.refl _,aB.lT,aB.refl _,aB.lT,aB.refl _,aB.refl _,aB.nil,aB.nil,aB.refl _,aB.refl _,aB.refl _,aB.nil,aB.nil,aB.refl _,trivial⟩
theorem aac{r c K:Nat}{zs:List Int}(hl:zs.length=r*c)(hr:r<=64)(hc:c<=64)(hz:∀z∈zs,z.natAbs < WB ^ K)(hK:K<=10000)(hK1:1<=K):ah prog 35 [.agg (xL r c zs)] (.agg (vlA (iC r c (zs.map fun z:Int=>(z:Rat))))):=by
 have cF:=ai5 (MZ.made hz) (by rw[zq5];exact hl) hr hc hK hK1
 rw[<-akb,ahq hl,aau]at cF;have hb:∀x∈zs.map (fun z:Int=>(z:Rat)),RB x K:=fun x hx=>by
  obtain⟨z,hz',rfl⟩:=zqg.1 hx;exact RB.ofI (hz z hz') hK1
 have cM:=xD (r:=r) (c:=c) (MV.made hb) (by rw[zq5,zq5];exact hl) hr hc zE
 refine ah.fq func35 results35 ntmps35 fun _ _ _ _ _=>?_
 refine zg ?_;refine oJ aj.ig ?_;exact zv _
abbrev awP(X:CA):List Atom:=[.c (.val (.int .i64 3)),.c (.val (.bool false)),.c (.val (.slice none 0 0)),.c (.val (.bool false)),.c (.val (.slice none 0 0)),.c (.val (.int .i64 0)),.c (.val (.int .i64 0)),.c (.val (.slice none 0 0)),.c X,.c (.val (.int .u64 0)),.c (.val (.int .i64 0)),.c (.val (.int .i64 0)),.c (.val (.slice none 0 0)),.c (.val (.slice none 0 0)),.c (.val (.slice none 0 0))]
abbrev awR(p:Nat)(X:CA):List Atom:=[.c (.val (.int .i64 5)),.c (.val (.bool false)),.c (.val (.slice none 0 0)),.c (.val (.bool false)),.c (.val (.slice none 0 0)),.c (.val (.int .i64 0)),.c (.val (.int .i64 0)),.c (.val (.slice none 0 0)),.c (.val (.slice none 0 0)),.c (.val (.int .u64 (p:Int))),.c (.val (.int .i64 0)),.c (.val (.int .i64 0)),.c (.val (.slice none 0 0)),.c X,.c (.val (.slice none 0 0))]
abbrev awF(p:Nat)(a b:Int)(X:CA):List Atom:=[.c (.val (.int .i64 4)),.c (.val (.bool false)),.c (.val (.slice none 0 0)),.c (.val (.bool false)),.c (.val (.slice none 0 0)),.c (.val (.int .i64 0)),.c (.val (.int .i64 0)),.c (.val (.slice none 0 0)),.c (.val (.slice none 0 0)),.c (.val (.int .u64 (p:Int))),.c (.val (.int .i64 a)),.c (.val (.int .i64 b)),.c X,.c (.val (.slice none 0 0)),.c (.val (.slice none 0 0))]
abbrev cwR(p:Nat)(X:CA):List CA:=[.val (.int .i64 5),.val (.bool false),.val (.slice none 0 0),.val (.bool false),.val (.slice none 0 0),.val (.int .i64 0),.val (.int .i64 0),.val (.slice none 0 0),.val (.slice none 0 0),.val (.int .u64 (p:Int)),.val (.int .i64 0),.val (.int .i64 0),.val (.slice none 0 0),X,.val (.slice none 0 0)]
theorem impP(zs:List Int):(AV0.agg (awP (.sat (aA 2 z2C (zs.map z2v))))).imp (.agg (vlA (bQ zs))):=
 iO ⟨aB.refl _,aB.refl _,aB.lT,aB.refl _,aB.lT,aB.refl _,aB.refl _,aB.nil,aB.ints zs,aB.refl _,aB.refl _,aB.refl _,aB.nil,aB.nil,aB.nil,trivial⟩
theorem impR(p:Nat)(l:List Nat):(AV0.agg (awR p (.sat (aA 1 wdC l)))).imp (.agg (vlA (aT p l))):=
 iO ⟨aB.refl _,aB.refl _,aB.lT,aB.refl _,aB.lT,aB.refl _,aB.refl _,aB.nil,aB.nil,aB.refl _,aB.refl _,aB.refl _,aB.nil,aB.refl _,aB.nil,trivial⟩
theorem impF(p r c:Nat)(l:List Nat):(AV0.agg (awF p (r:Int) (c:Int) (.sat (aA 1 wdC l)))).imp (.agg (vlA (pR p r c l))):=
 iO ⟨aB.refl _,aB.refl _,aB.lT,aB.refl _,aB.lT,aB.refl _,aB.refl _,aB.nil,aB.nil,aB.refl _,aB.refl _,aB.refl _,aB.refl _,aB.nil,aB.nil,trivial⟩
theorem ou{t:List UInt8}{R:Rep}{l l':List Atom}{e:Int}(h:ah prog 16 [.v (str t),.r R,.agg l',.v (.int .i64 e)] (.v (.bool true)))(hi:(AV0.agg l).imp (.agg l')):ah prog 16 [.v (str t),.r R,.agg l,.v (.int .i64 e)] (.v (.bool true)):=
 h.args fun E S w vs hv=>by
  match vs,hv with
  |[a,b,c,d],⟨h1,h2,h3,h4,_⟩=>exact⟨h1,h2,hi E S w c h3,h4,trivial⟩
theorem apd(p:Nat)(a b c:List Nat):ah prog 34 [.r (aQ 15 3 (cwR p (.sat (aA 1 wdC a))++cwR p (.sat (aA 1 wdC b))++cwR p (.sat (aA 1 wdC c))))] (.agg (vlA (nN [aT p a,aT p b,aT p c]))):=by
 have cN:∀{size:Nat} {α:Type} {enc:α->List CA},kQ (.val (.slice none 0 0)) (.sat (aA size enc [])):=fun {size α enc} S w u h=>by
  rw[show u= .slice none 0 0 from h];exact abO
 have cN0:kQ (.val (.slice none 0 0)) (.sat (eT [])):=fun S w u h=>by
  rw[show u= .slice none 0 0 from h]
  exact p9.2 ⟨Sm.nil,(abO (α:=Nat) (enc:=wdC) (size:=1):(aA 1 wdC []).has S w _)⟩
 have cE:∀l:List Nat,aK kQ (cwR p (.sat (aA 1 wdC l))) (vlE (aT p l)):=fun l=>
  ⟨kQ.refl _,kQ.refl _,cN0,kQ.refl _,cN0,kQ.refl _,kQ.refl _,cN,cN,kQ.refl _,kQ.refl _,kQ.refl _,cN,kQ.refl _,cN,trivial⟩
 have hA:aK kQ (cwR p (.sat (aA 1 wdC a))++cwR p (.sat (aA 1 wdC b))++cwR p (.sat (aA 1 wdC c))) ([aT p a,aT p b,aT p c].flatMap vlE):=by
  have h:=aK.app (aK.app (cE a) (cE b)) (cE c);exact h
 refine(aib [aT p a,aT p b,aT p c]).args fun E S w vs hv=>?_
 match vs,hv with
 |[u],⟨h1,_⟩=>
  refine⟨?_,trivial⟩;exact aeU (cells:=cwR p (.sat (aA 1 wdC a))++cwR p (.sat (aA 1 wdC b))++cwR p (.sat (aA 1 wdC c))) (aK.len hA) (fun i c1 c2 e1 e2 u' hu=>aK.at hA i c1 c2 e1 e2 S w u' hu) h1
end Go.Proofs.YtjnhnbgpifohjaaGreatDoor
set_option linter.unusedSectionVars false
namespace Go.Proofs.YtjnhnbgpifohjaaGreatDoor
open Go.RowKit QM SX LA
attribute [local irreducible] IntKind.wrap Go1 Reg WP aO aR bM bK aN aD aj ak aX Sat
attribute [local irreducible] bO bX bV cK bW qv dH mf PrP qOk zOk vP dP lz vF cq rqv dX aS bU aV fB jn sq aY qS zS tS tbS plS mdS zmd qN pE zEv aH fDs fEv xgG xgS xgT qR aaJ zqF zqG
theorem anN{n:Int}{A B:Rep}(F:ah prog 20 [.r A,.v (.int .i64 5),.v (.int .i64 1)] (.v (.bool false))):ah prog 4 [.v (.int .u8 n),.r A,.r B] (.v (.bool true)):=by
 have aw:=xE;refine ah.fq func4 results4 ntmps4 fun _ _ B _ _=>?_
 refine zg ?_;exact bg rfl
theorem an8{n:Int}{A B:Rep}(F:ah prog 20 [.r A,.v (.int .i64 5),.v (.int .i64 1)] (.v (.bool true)))(F2:ah prog 20 [.r B,.v (.int .i64 5),.v (.int .i64 1)] (.v (.bool false))):ah prog 4 [.v (.int .u8 n),.r A,.r B] (.v (.bool true)):=by
 have aw:=xE;refine ah.fq func4 results4 ntmps4 fun _ _ B _ _=>?_
 refine zg ?_;exact bg rfl
section
variable{n:Int}{A B:List Z2}{p:Nat}{zs zx zy dx gx zu:List Int}{r s dr g o t:List Nat}{ev:Int}{ee:Nat}{mC mH:Int×Int×Rep}{eC eH:Int}{wT:Vl}
theorem af6
  (F1:ah prog 20 [.r (aA 2 z2C A),.v (.int .i64 5),.v (.int .i64 1)] (.v (.bool true)))
  (F2:ah prog 20 [.r (aA 2 z2C B),.v (.int .i64 5),.v (.int .i64 1)] (.v (.bool true)))
  (hA:MZ A zs 1) (hAl:A.length<=5) (hxl:zx.length<=5) (hrl:r.length<=5) (hp:p < 2147483648) (hev:ev.natAbs < WB ^ 100) (hee:ee < 2147483648)
  (cP:ah prog 22 [.v (.int .u8 n)] (.v (.int .u64 (p:Int))))
  (cF:ah prog 21 [.v (.int .u8 n)] (.agg (gfA p)))
  (nx:ah prog 23 [.r (aA 2 z2C A)] (.r (aA 2 z2C (zx.map z2v))))
  (ny:ah prog 23 [.r (aA 2 z2C B)] (.r (aA 2 z2C (zy.map z2v))))
  (rx:ah prog 24 [.r (aA 2 z2C A),.agg (gfA p)] (.r (aA 1 wdC r)))
  (ry:ah prog 24 [.r (aA 2 z2C B),.agg (gfA p)] (.r (aA 1 wdC s)))
  (cX:ah prog 25 [.agg (gfA p),.r (aA 1 wdC r),.r (aA 1 wdC s)] (.tup [rwA g,rwA o,rwA t]))
  (cC:ah prog 26 [.r (aA 2 z2C (zx.map z2v))] (.tup [.agg [.c (.val (.int .i64 mC.1)),.c (.val (.int .i64 mC.2.1)),.c (.sat mC.2.2)],eNo eC]))
  (cH:ah prog 27 [.agg (gfA p),.r (aA 1 wdC r)] (.tup [.agg [.c (.val (.int .i64 mH.1)),.c (.val (.int .i64 mH.2.1)),.c (.sat mH.2.2)],eNo eH]))
  (cL:ah prog 28 [.v (str afU),.r (aA 15 vlE [aT p r])] (.tup [.agg (vlA (bQ zu)),eNo 0]))
  (cD:ah prog 29 [.r (aA 2 z2C (zx.map z2v))] (.r (aA 2 z2C (dx.map z2v))))
  (cD2:ah prog 30 [.agg (gfA p),.r (aA 1 wdC r)] (.r (aA 1 wdC dr)))
  (cE:ah prog 31 [.r (aA 2 z2C (zx.map z2v)),.agg (zN (p:Int))] (.agg (zN ev)))
  (cE2:ah prog 32 [.agg (gfA p),.r (aA 1 wdC r),.v (.int .u64 3)] (.v (.int .u64 (ee:Int))))
  (cG:ah prog 33 [.r (aA 2 z2C (zx.map z2v)),.r (aA 2 z2C (zy.map z2v))] (.r (aA 2 z2C (gx.map z2v))))
  (cT:ah prog 35 [.agg [.c (.val (.int .i64 mC.1)),.c (.val (.int .i64 mC.2.1)),.c (.sat mC.2.2)]] (.agg (vlA wT)))
  (k0:ah prog 16 [.v (str jT),.r (aA 15 vlE [bQ zu,vI (p:Int)]),.agg (vlA (aT p r)),.v (.int .i64 0)] (.v (.bool true)))
  (k1:ah prog 16 [.v (str vo),.r (aA 15 vlE (zs.map vI)),.agg (vlA (bQ zx)),.v (.int .i64 0)] (.v (.bool true)))
  (k2:ah prog 16 [.v (str jT),.r (aA 15 vlE [bQ zx,vI (p:Int)]),.agg (vlA (aT p r)),.v (.int .i64 0)] (.v (.bool true)))
  (k3:ah prog 16 [.v (str jT),.r (aA 15 vlE [bQ zx,vI 4]),.agg (vlA (bQ zx)),.v (.int .i64 3)] (.v (.bool true)))
  (k4:ah prog 16 [.v (str aeu),.r (aA 15 vlE [bQ zx]),.agg (vlA (vI ((zx.length:Int) - 1))),.v (.int .i64 0)] (.v (.bool true)))
  (k5:ah prog 16 [.v (str aeu),.r (aA 15 vlE [aT p r]),.agg (vlA (vI ((r.length:Int) - 1))),.v (.int .i64 0)] (.v (.bool true)))
  (k6:ah prog 16 [.v (str aeo),.r (aA 15 vlE [bQ zx]),.agg (awP (.sat (aA 2 z2C (dx.map z2v)))),.v (.int .i64 0)] (.v (.bool true)))
  (k7:ah prog 16 [.v (str aeo),.r (aA 15 vlE [aT p r]),.agg (awR p (.sat (aA 1 wdC dr))),.v (.int .i64 0)] (.v (.bool true)))
  (k8:ah prog 16 [.v (str abC),.r (aA 15 vlE [bQ zx,vI (p:Int)]),.agg (vlA (vI ev)),.v (.int .i64 0)] (.v (.bool true)))
  (k9:ah prog 16 [.v (str abC),.r (aA 15 vlE [aT p r,vI 3]),.agg (vlA (vI (ee:Int))),.v (.int .i64 0)] (.v (.bool true)))
  (k10:ah prog 16 [.v (str aao),.r (aA 15 vlE [bQ zx,bQ zy]),.agg (awP (.sat (aA 2 z2C (gx.map z2v)))),.v (.int .i64 0)] (.v (.bool true)))
  (k11:ah prog 16 [.v (str aao),.r (aA 15 vlE [aT p r,aT p s]),.agg (awR p (.sat (aA 1 wdC g))),.v (.int .i64 0)] (.v (.bool true)))
  (k12:ah prog 16 [.v (str ahp),.r (aA 15 vlE [aT p r,aT p s]),.agg (vlA (nN [aT p g,aT p o,aT p t])),.v (.int .i64 0)] (.v (.bool true)))
  (k13:ah prog 16 [.v (str pG),.r (aA 15 vlE [bQ zx]),.agg (vlA wT),.v (.int .i64 eC)] (.v (.bool true)))
  (k14:ah prog 16 [.v (str pG),.r (aA 15 vlE [aT p r]),.agg (awF p mH.1 mH.2.1 (.sat mH.2.2)),.v (.int .i64 eH)] (.v (.bool true))):
  ah prog 4 [.v (.int .u8 n),.r (aA 2 z2C A),.r (aA 2 z2C B)] (.v (.bool true)):=by
 have aw:=xE;have hlen:=hA.len;have m1:(zx.map z2v).length=zx.length:=zq5 _;have e1:(zs.map vI).length=zs.length:=zq5 _;have hpb:((p:Nat):Int).natAbs < WB ^ 1:=by rw[zxh,bJ];omega
 have heb:((ee:Nat):Int).natAbs < WB ^ 1:=by rw[zxh,bJ];omega
 have hdb:((zx.length:Int) - 1).natAbs < WB ^ 1:=by rw[zxh,bJ];omega
 have hrb:((r.length:Int) - 1).natAbs < WB ^ 1:=by rw[zxh,bJ];omega
 have wP:IntKind.i64.wrap (p:Int)=(p:Int):=jL zE zE
 have wE:IntKind.i64.wrap (ee:Int)=(ee:Int):=jL zE zE
 have oP:ah prog 18 [.v (.int .i64 (p:Int))] (.agg (zN (p:Int))):=kC.h ⟨zE,zE⟩
 have oE:ah prog 18 [.v (.int .i64 (ee:Int))] (.agg (zN (ee:Int))):=kC.h ⟨zE,zE⟩
 have o4:ah prog 18 [.v (.int .i64 4)] (.agg (zN 4)):=kC.h ⟨zE,zE⟩
 have o3:ah prog 18 [.v (.int .i64 3)] (.agg (zN 3)):=kC.h ⟨zE,zE⟩
 have oD:ah prog 18 [.v (.int .i64 ((zx.length:Int) - 1))] (.agg (zN ((zx.length:Int) - 1))):=kC.h ⟨zE,zE⟩
 have oD':ah prog 18 [.v (.int .i64 (((zx.map z2v).length:Int) - 1))] (.agg (zN ((zx.length:Int) - 1))):=by rw[m1];exact oD
 have oR:ah prog 18 [.v (.int .i64 ((r.length:Int) - 1))] (.agg (zN ((r.length:Int) - 1))):=kC.h ⟨zE,zE⟩
 have vP':ah prog 17 [.agg (zN (p:Int))] (.agg (vlA (vI (p:Int)))):=iJ (q:=z2v (p:Int)) (ZQ.made hpb) (zq6 1) zc
 have vE:ah prog 17 [.agg (zN (ee:Int))] (.agg (vlA (vI (ee:Int)))):=iJ (q:=z2v (ee:Int)) (ZQ.made heb) (zq6 1) zc
 have v4:ah prog 17 [.agg (zN 4)] (.agg (vlA (vI 4))):=iJ (q:=z2v 4) (K:=1) (ZQ.made (by rw[zxh,bJ];decide)) (zq6 1) zc
 have v3:ah prog 17 [.agg (zN 3)] (.agg (vlA (vI 3))):=iJ (q:=z2v 3) (K:=1) (ZQ.made (by rw[zxh,bJ];decide)) (zq6 1) zc
 have vD:ah prog 17 [.agg (zN ((zx.length:Int) - 1))] (.agg (vlA (vI ((zx.length:Int) - 1)))):=iJ (q:=z2v ((zx.length:Int) - 1)) (ZQ.made hdb) (zq6 1) zc
 have vR:ah prog 17 [.agg (zN ((r.length:Int) - 1))] (.agg (vlA (vI ((r.length:Int) - 1)))):=iJ (q:=z2v ((r.length:Int) - 1)) (ZQ.made hrb) (zq6 1) zc
 have vV:ah prog 17 [.agg (zN ev)] (.agg (vlA (vI ev))):=iJ (q:=z2v ev) (ZQ.made hev) zc zc
 have cLi:=apd p g o t;refine ah.fq func4 results4 ntmps4 fun _ _ B _ hB=>?_
 refine zg ?_;refine W.loop (fun k=>k<=zs.length) (fun k=>[(1,.r (aA 2 z2C A)),(7,.ptr 7 0),(8,.v (.int .u64 (p:Int))),(9,.r (aA 2 z2C (zx.map z2v))),(10,.r (aA 2 z2C (zy.map z2v))),(11,.ptr 11 0),(12,.ptr 12 0),(13,.r (aA 1 wdC r)),(14,.r (aA 1 wdC s)),(15,.ptr 15 0),(16,.ptr 16 0),(17,.ptr 17 0),(18,.own 100),(19,.v (.int .i64 (k:Int)))])
  (fun k=>[(7,.box 65 (gfA p)),(11,.box 42 (vlA (bQ zx))),(12,.box 42 (vlA (bQ zy))),(15,.box 42 (vlA (aT p r))),(16,.box 42 (vlA (aT p s))),(17,.box 42 (vlA (vI (p:Int)))),(100,.row 42 15 k (((zs.take k).map vI).flatMap vlE))]) (fun k=>zs.length - k) 0 (zq8 _) (fun k hk=>?_)
  (by
   refine St.aW [(100,none)] zt ?_ ?_ rfl
   ·exact ye
   ·exact⟨ay.same rfl rfl,ay.box rfl (impP zx) rfl,ay.box rfl (impP zy) rfl,ay.box rfl (impR p r) rfl,ay.box rfl (impR p s) rfl,ay.same rfl rfl,ay.dO rfl,trivial⟩)
 by_cases h:k < zs.length
 ·have h':k < A.length:=zE
  obtain⟨z,hzk⟩:∃z,zs[k]? =some z:=⟨_,zyh h⟩
  obtain⟨q,hqk⟩:∃q,A[k]? =some q:=⟨_,zyh h'⟩
  have cW:=iJ (hA.z k q z hqk hzk) (zq6 1) zc
  have e2:=wB (enc:=vlE) (f:=vI) hzk;refine zg ?_;refine W.next (k+1) h zE (by
   refine St.aW [(100,some 84)] zt ?_ ?_ rfl
   ·exact yb
   ·exact⟨ay.same rfl rfl,ay.same rfl rfl,ay.same rfl rfl,ay.same rfl rfl,ay.same rfl rfl,ay.same rfl rfl,ay.row rfl rfl rfl e2,trivial⟩)
 ·obtain rfl:k=zs.length:=zE
  have h':¬zs.length < A.length:=zE
  rw[zy8];rw[<-e1];refine WP.freeze 100 hB rfl ?_;refine zg ?_;exact bg rfl
end
