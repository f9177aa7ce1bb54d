import Derived.Test.YtjnhnbgpifohjaaGreatDoorL21
set_option linter.unusedVariables false
set_option linter.unusedSimpArgs false
set_option linter.unusedSectionVars false
open Go.Proofs.Tryz
namespace Go.Proofs.YtjnhnbgpifohjaaGreatDoor
open Go.RowKit QM SX LA
theorem MZ.bd{l:List Z2}{zs:List Int}{K:Nat}(h:MZ l zs K):∀z∈zs,z.natAbs < WB ^ K:=fun z hz=>by
 obtain⟨i,hi⟩:=List.mem_iff_getElem?.1 hz;obtain⟨q,hq⟩:∃q,l[i]? =some q:=⟨_,zyh (by rw[h.len];exact xg hi)⟩
 exact(h.z i q z hq hi).b
attribute [local irreducible] IntKind.wrap Go1 Reg WP aO aR bM bK aN aD aj ak aX Sat
attribute [local irreducible] bO bX bV cK bW qv dH mf PrP qOk zOk vP dP lz vF cq rqv dX aS bU aV fB jn sq aY qS zS tS tbS plS mdS zmd qN pE zEv aH fDs fEv xgG xgS xgT qR aaJ zqF zqG
theorem PoF{zs:List Int}{K:Nat}(hz:∀z∈zs,z.natAbs < WB ^ K)(hK:K<=50000)(hn:pN zs)(hl:zs.length<=10000):ah prog 59 [.agg (vlA (bQ zs)),.agg (vlA (bQ zs))] (.v (.bool true)):=aeM (n:=0) (.one (.pol zs hl hn hz)) hK zc
theorem RnF{p:Nat}(hp:PrP p){l:List Nat}(hb:∀x∈l,x < p)(hn:gN l)(hl:l.length<=10000):ah prog 59 [.agg (vlA (aT p l)),.agg (vlA (aT p l))] (.v (.bool true)):=aeM (K:=1) (n:=0) (.one (.rng p l hp hl hn hb)) zc zc
theorem NuF{z:Int}{K:Nat}(h:z.natAbs < WB ^ K)(h1:1<=K)(hK:K<=50000):ah prog 59 [.agg (vlA (vI z)),.agg (vlA (vI z))] (.v (.bool true)):=aeM (n:=0) (.one (.num _ (RB.ofI h h1))) hK zc
section
variable{n:Int}{A B:List Z2}{p:Nat}(hp:PrP p){zs bs:List Int}(MA:MZ A zs 1)(MB:MZ B bs 1)(hA:A.length<=5)(hB:B.length<=5)
  (F1:ah prog 20 [.r (aA 2 z2C A),.v (.int .i64 5),.v (.int .i64 1)] (.v (.bool true)))
  (F2:ah prog 20 [.r (aA 2 z2C B),.v (.int .i64 5),.v (.int .i64 1)] (.v (.bool true)))
  (cP:ah prog 22 [.v (.int .u8 n)] (.v (.int .u64 (p:Int))))
include hp MA MB hA hB F1 F2 cP
theorem avn:ah prog 4 [.v (.int .u8 n),.r (aA 2 z2C A),.r (aA 2 z2C B)] (.v (.bool true)):=by
 have hpl:=hp.lt;have cF:=avc hp cP;have la:=MA.len;have lb:=MB.len;have ba:=MA.bd;have bb:=MB.bd;have nx:=jr MA zc zE
 have ny:=jr MB zc zE
 have rx:=vB hp MA zc zE
 have ry:=vB hp MB zc zE
 have k1:=gH (aoa ba (zq6 1) zc zE) (PoF (fun z hz=>ba z (lU z hz)) zc (pQ zs) (by have h1:=gU zs;have h2:=kF zs;omega))
 have er:=ahN p zs;have hx:∀z∈aS zs,z.natAbs < WB ^ 1:=fun z hz=>ba z (lU z hz)
 have hy:∀z∈aS bs,z.natAbs < WB ^ 1:=fun z hz=>bb z (lU z hz)
 have nX:=pQ zs;have nY:=pQ bs;have lX:(aS zs).length<=5:=by have h1:=gU zs;have h2:=kF zs;omega
 have lY:(aS bs).length<=5:=by have h1:=gU bs;have h2:=kF bs;omega
 have br:=fD hp (zs.map (zmd p));have bs':=fD hp (bs.map (zmd p));have nr:=jY p (zs.map (zmd p));have ns:=jY p (bs.map (zmd p));have lr:(aH p (zs.map (zmd p))).length<=5:=by have h:=dA p (zs.map (zmd p));rw[zq5]at h;omega
 have ls:(aH p (bs.map (zmd p))).length<=5:=by have h:=dA p (bs.map (zmd p));rw[zq5]at h;omega
 generalize aS zs=zx at*;generalize aS bs=zy at*;generalize aH p (zs.map (zmd p))=r at*;generalize aH p (bs.map (zmd p))=s at*;have hpb:((p:Nat):Int).natAbs < WB ^ 1:=by rw[zxh,bJ];omega
 have h3b:((3:Int)).natAbs < WB ^ 1:=by rw[zxh,bJ];decide
 have wr:∀x∈r,x < 18446744073709551616:=fun x h=>by have:=br x h;omega
 have ws:∀x∈s,x < 18446744073709551616:=fun x h=>by have:=bs' x h;omega
 have cX:=aa5 hp (l:=r) (l':=s) zE zE wr ws
 have cL:=anz hp br nr zE
 have k0:=gH (aeh hp zE nr br) (RnF hp br nr zE)
 obtain⟨z,w1⟩:=sM zx;have cm:=aeE hp hx zc zE
 rw[er]at cm;have k2:=gH (aai (Fp hx zc nX zE) (oZ hpb (zq6 1) zc) w1 cm) (RnF hp br nr zE)
 have k3:=xC (w:=bQ zx) (e:=3) zc (an6 hx zc nX zE)
 have k4:=gH (anx hx (zq6 1) zc nX zE) (NuF (K:=1) (by rw[zxh,bJ];omega) (zq6 1) zc)
 have k5:=gH (an9 hp br nr zE) (NuF (K:=1) (by rw[zxh,bJ];omega) (zq6 1) zc)
 have MX:=MZ.made hx;have MY:=MZ.made hy;have mX:(zx.map z2v).length=zx.length:=zq5 _;have mY:(zy.map z2v).length=zy.length:=zq5 _;have cD:=abl MX hx zE zc
 have dN:pN (pE zx):=by unfold pE;exact pQ _
 have dB:∀z∈pE zx,z.natAbs < WB ^ 2:=by
  unfold pE;exact fun z hz=>atJ hx _ zE z (lU z hz)
 have dL:(pE zx).length<=5:=by
  unfold pE;have h1:=gU (zDs zx (zx.length - 1));have h2:=kF (zDs zx (zx.length - 1));rw[agD]at h2;omega
 have k6:=ou (gH (anw hx (zq6 1) zc nX zE) (PoF dB zc dN zE)) (impP _)
 have cD2:=abr hp (l:=r) zE wr
 have dl2:(aH p (fDs p r (r.length - 1))).length<=5:=by have h:=dA p (fDs p r (r.length - 1));rw[amA]at h;omega
 have k7:=ou (gH (apb hp br nr zE) (RnF hp (fD hp _) (jY p _) zE)) (impR p _)
 have cE:=af5 MX hx hpb zE (by have:=zx1 (1+1) lX;omega)
 have eB:=agi hx hpb zx.length;have eB2:(zEv zx (p:Int) zx.length).natAbs < WB ^ 100:=zqf eB (zx2 aZ zE)
 have k8:=gH (ao6 hx (zq6 1) zc nX zE hpb (zq6 1) zc) (NuF eB2 zc zc)
 have e3:fEv p r (zmd p 3) r.length=fEv p r 3 r.length:=by
  rw[show (3:Int)=((3:Nat):Int)from rfl,atZ,awe]
 have c9:=anM hp br nr zE h3b (zq6 1) zc
 rw[e3]at c9;have hee:=ak9 hp r 3 r.length;have k9:=gH c9 (NuF (K:=1) (by rw[zxh,bJ];omega) (zq6 1) zc)
 have cE2:=aeI hp (l:=r) zE wr 3 zc
 have cG:=ahP MX MY nX nY lX lY hx hy;obtain⟨gN',gL,gB'⟩:=auc nX nY lX lY hx hy;have k10:=ou (gH (an7 nX nY lX lY hx hy) (PoF gB' zc gN' zE)) (impP _)
 have g1:=ala hp (l:=r) (l':=s) zE zE
 have g2:=alW hp (l:=r) (l':=s) zE zE
 have g3:=aun hp (l:=r) (l':=s) zE zE
 have k11:=ou (gH (aov hp br nr zE bs' ns zE) (RnF hp (arX hp r s) (arE p r s) zE)) (impR p _)
 have k12:=gH (ajK hp br nr zE bs' ns zE) (aeM (K:=1) (n:=1) (.lst _ (zqc rfl) fun v hv=>by
  rcases zy3.1 hv with rfl|hv
  ·exact .one (.rng p _ hp zE (arE p r s) (arX hp r s))
  rcases zy3.1 hv with rfl|hv
  ·exact .one (.rng p _ hp zE (ay9 p r s) (ayy hp r s))
  rw[zxi]at hv;subst hv;exact .one (.rng p _ hp zE (ayr p r s) (axb hp r s))) zc zc)
 have hcl:=ahV p r;have fl:=dA p r;have key:∀(mC:Int×Int×Rep) (eC:Int) (wT:Vl),ah prog 26 [.r (aA 2 z2C (zx.map z2v))] (.tup [.agg [.c (.val (.int .i64 mC.1)),.c (.val (.int .i64 mC.2.1)),.c (.sat mC.2.2)],eNo eC])->ah prog 35 [.agg [.c (.val (.int .i64 mC.1)),.c (.val (.int .i64 mC.2.1)),.c (.sat mC.2.2)]] (.agg (vlA wT))->
   ah prog 16 [.v (str pG),.r (aA 15 vlE [bQ zx]),.agg (vlA wT),.v (.int .i64 eC)] (.v (.bool true))->ah prog 4 [.v (.int .u8 n),.r (aA 2 z2C A),.r (aA 2 z2C B)] (.v (.bool true)):=fun mC eC wT cC cT k13=>by
  by_cases hc:zG p r
  ·have cH:=adh hp (l:=r) zE wr hc
   have k14:=ou (xC (w:=pR p 0 0 []) (e:=3) zc (akj hp br nr zE hc)) (impF p 0 0 [])
   exact af6 F1 F2 MA hA lX lr hpl.2 eB2 zE cP cF nx ny rx ry cX cC (mH:=(0,0,aA 1 wdC [])) (ah.resI cH (amY alX)) cL cD cD2 cE cE2 cG cT k0 k1 k2 k3 k4 k5 k6 k7 k8 k9 k10 k11 k12 k13 k14
  ·have cH:=ae0 hp (l:=r) zE wr hc
   have k14:=ou (gH (aoN hp br nr zE hc) (aeM (K:=1) (n:=0) (.one (.fld p _ _ _ hp (ahV p r) zE zE (avK hp r))) zc zc)) (impF p _ _ _)
   exact af6 F1 F2 MA hA lX lr hpl.2 eB2 zE cP cF nx ny rx ry cX cC (mH:=((((aH p r).length - 1:Nat):Int),(((aH p r).length - 1:Nat):Int),aA 1 wdC (qR p r))) cH cL cD cD2 cE cE2 cG cT k0 k1 k2 k3 k4 k5 k6 k7 k8 k9 k10 k11 k12 k13 k14
 have pl:=gU zx;have pl2:=kF zx;by_cases hc:zT zx
 ·have cC:=afd MX hx zc zE hc
  have k13:=xC (w:=iC 0 0 []) (e:=3) zc (akI hx (zq6 1) zc zE nX hc)
  exact key (0,0,aA 2 zC []) 3 _ (ah.resI cC (amY alX)) (aac (r:=0) (c:=0) (K:=1) (zs:=[]) rfl zc zc (fun z h=>nomatch h) zc zc) k13
 ·have cC:=aiX MX hx zc zE hc
  have zB:=anh hx (zq6 1);have cT:=aac (acK zx) zE zE zB zc (zq6 1)
  have k13:=gH (anC hx (zq6 1) zc zE nX hc) (aeM (K:=1) (n:=0) (.one (.mat _ _ _ (by rw[zq5];exact acK zx) zE zE fun v hv=>by
   obtain⟨z,hz,rfl⟩:=zqg.1 hv;exact RB.ofI (zB z hz) (zq6 1))) zc zc)
  exact key ((((aS zx).length - 1:Nat):Int),(((aS zx).length - 1:Nat):Int),aA 2 zC (aaJ zx)) 0 _ cC cT k13
end
theorem aw1(n:Int)(hn:0<=n/\n<=255)(a:List nL)(ha:∀x∈a,Sm WB x.2)(b:List nL)(hb:∀x∈b,Sm WB x.2):ah prog 4 [.v (.int .u8 n),.r (aA 2 z2C (a.map rz)),.r (aA 2 z2C (b.map rz))] (.v (.bool true)):=by
 by_cases h1:a.length<=5/\∀x∈a,x.2.length<=1
 ·by_cases h2:b.length<=5/\∀x∈b,x.2.length<=1
  ·obtain⟨p,hp,cP⟩:=con_P hn;exact avn hp (MZ.raw ha h1.2) (MZ.raw hb h2.2) (by rw[zq5];exact h1.1) (by rw[zq5];exact h2.1) ((pO a).1 h1) ((pO b).1 h2) cP
  ·exact an8 ((pO a).1 h1) ((pO b).2 h2)
 ·exact anN ((pO a).2 h1)
