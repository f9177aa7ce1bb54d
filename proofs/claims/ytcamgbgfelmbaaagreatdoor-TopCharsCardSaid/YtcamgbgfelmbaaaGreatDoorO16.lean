import Derived.Test.YtcamgbgfelmbaaaGreatDoorO15
import Derived.Test.YtcamgbgfelmbaaaGreatDoorO12
import Derived.Test.YtcamgbgfelmbaaaGreatDoorO6
set_option linter.all false
open Go.Proofs.Tryz
namespace Go.Proofs.YtcamgbgfelmbaaaGreatDoor
open Go.RowKit QM SX LA
attribute [local irreducible] IntKind.wrap Go1 Reg WP aK aN bD aZ aJ aA aj ak aT Sat
attribute [local irreducible] PrP lz aQ qS zS tS tbS
variable{n:Int}{s:List UInt8}
abbrev plenty:List Atom:=acX 1000000 1000000 200
def acC:ah prog 12 [] (.agg plenty):=by
 refine ah.fq func12 ?_;intros
 refine zg ?_;exact jG aj.aW rfl
def abW{t:List UInt8}(h:ah prog 11 [.v (str s),.agg plenty] (.tup [.one (.c (.val (str t))),eNo 0])):ah prog 10 [.v (str s),.v (str t)] (.v (.bool true)):=by
 have c:=acC;have h2:decide (t=t)=true:=decide_eq_true rfl;refine ah.fq func10 ?_;intros
 refine zg ?_;exact aU h2
def asU{v:Vl}{e:Int}(h:ah prog 27 [.agg (vlA v)] (.tup [.one (.c (.val (str s))),eNo e])):ah prog 16 [.agg (vlA v)] (.v (str s)):=by
 refine ah.fq func16 ?_;intros
 refine zg ?_;exact mX rfl
def aw1:ah prog 11 [.v (str tSum),.agg plenty] (.tup [.one (.c (.val (str [53,10]))),eNo 0]):=by
 have b2:2 < WB ^ 1:=by rw[zxh,bf];decide
 have b3:3 < WB ^ 1:=by rw[zxh,bf];decide
 have b5:(5:Int).natAbs < WB ^ 1:=by rw[zxh,bf];decide
 obtain⟨k2,hk2,hE2⟩:=tT (B:=1000000) (K:=1) zc zc zc zc b2
 obtain⟨k3,hk3,hE3⟩:=tT (B:=1000000) (K:=1) zc zc zc zc b3
 rw[akC]at hk2 hE2;rw[akg]at hk3 hE3;have l2:([50]:List UInt8).length=1:=rfl;have l3:([51]:List UInt8).length=1:=rfl;have e5:qS ((5:Int):Rat)=[53]:=by
  rw[wH,if_pos (Rat.den_intCast _),Rat.num_intCast];exact(qg 5).trans ayB
 obtain⟨y,hy1,hy2⟩:=VI.num (B:=1000000) (K:=1) zc (zq6 1) zc (RB.ofI (z:=5) b5 (zq6 1))
 rw[e5]at hy1;have l5:([53]:List UInt8).length=1:=rfl;have cP:=abO (RB.ofI (z:=5) b5 (zq6 1)) zc
 rw[e5]at cP;have hr2:RB ((2:Int):Rat) 1:=RB.ofI (z:=2) b2 (zq6 1);have hr3:RB ((3:Int):Rat) 1:=RB.ofI (z:=3) b3 (zq6 1);have cB:=apx hr2 hr3 zc
 rw[show ((2:Int):Rat)+((3:Int):Rat)=((5:Int):Rat)by decide+kernel]at cB
 have hE:=EX.opr (B:=1000000) zc (nm:=[]) (n:= .mk 4 [] [nmN [50],nmN [51]]) ⟨fun h=>by have h':(4:Int)=1:=h;omega,fun h=>by have h':(4:Int)=2:=h;omega,fun h=>by have h':(4:Int)=14:=h;omega⟩ (AL.two (hE2 []) (hE3 [])) (ad8 (n:= .mk 4 [] [nmN [50],nmN [51]]) ⟨show (4:Int)<=4 by decide,show (4:Int)<=12 by decide⟩ cB) hy2
 have hst:=ST.show (nm:=[]) (la:=v0) (tx:=[]) (n:= .mk 19 [] [.mk 4 [] [nmN [50],nmN [51]]]) rfl rfl hE cP zc
 have hbl:=BL.one hst;have hd:dep (.mk 4 [] [nmN [50],nmN [51]])<=1:=lu (d:=0) fun n hn=>by
  rcases zy3.1 hn with rfl|hn
  ·rw[wP];exact zq6 0
  ·rw[zxi]at hn;subst hn;rw[wP];exact zq6 0
 have hd1:dep (.mk 19 [] [.mk 4 [] [nmN [50],nmN [51]]])<=2:=lu (d:=1) fun n hn=>by
  have e:=zxi.1 hn;subst e;exact hd
 have hSW:=SW.show (PW.plus [50] [51]) zE (FW.num _ _).2.2
 obtain⟨ts,e1,e2,e3⟩:=aci (s:=tSum) (ks:=[([(1,[50]),sg [43],(1,[51])]++[sg [59]],.mk 19 [] [.mk 4 [] [nmN [50],nmN [51]]])]) awP zc (fun k hk=>by
  rw[zxi]at hk;subst hk;exact⟨hSW,zc⟩) (zxf (xU (d:=2) fun n hn=>by
   have e:=zxi.1 hn;subst e;exact hd1) zc)
 obtain⟨F,hF⟩:∃F,1000000=F+(y+(k2+k3)+1+1):=⟨1000000 - (y+(k2+k3)+1+1),zE⟩
 have cp:=adn (F:=F+(y+(k2+k3)+1+1)) (B:=1000000) (D:=200) (zq6 _) zc e1 e2 e3
 have h:=al5 cp hbl zE zc
 rw[<-hF]at h;exact h
def xH:ah prog 4 [] (.v (.bool true)):=by
 have c:=acC;have h:=aw1;refine ah.fq func4 ?_;intros
 refine zg ?_;exact aU rfl
def azg(h:n.tmod 12=0):ah prog 9 [.v (.int .u8 n)] (.v (.int .u64 ((2:Nat):Int))):=by
 refine ah.fq func9 ?_;intros
 refine zg ?_;exact dZ rfl
def ayz(h:n.tmod 12=1):ah prog 9 [.v (.int .u8 n)] (.v (.int .u64 ((3:Nat):Int))):=by
 refine ah.fq func9 ?_;intros
 refine zg ?_;exact dZ rfl
def az0(h:n.tmod 12=2):ah prog 9 [.v (.int .u8 n)] (.v (.int .u64 ((5:Nat):Int))):=by
 refine ah.fq func9 ?_;intros
 refine zg ?_;exact dZ rfl
def a0b(h:n.tmod 12=3):ah prog 9 [.v (.int .u8 n)] (.v (.int .u64 ((7:Nat):Int))):=by
 refine ah.fq func9 ?_;intros
 refine zg ?_;exact dZ rfl
def ayj(h:n.tmod 12=4):ah prog 9 [.v (.int .u8 n)] (.v (.int .u64 ((11:Nat):Int))):=by
 refine ah.fq func9 ?_;intros
 refine zg ?_;exact dZ rfl
def ayR(h:n.tmod 12=5):ah prog 9 [.v (.int .u8 n)] (.v (.int .u64 ((13:Nat):Int))):=by
 refine ah.fq func9 ?_;intros
 refine zg ?_;exact dZ rfl
def azq(h:n.tmod 12=6):ah prog 9 [.v (.int .u8 n)] (.v (.int .u64 ((101:Nat):Int))):=by
 refine ah.fq func9 ?_;intros
 refine zg ?_;exact dZ rfl
def azW(h:n.tmod 12=7):ah prog 9 [.v (.int .u8 n)] (.v (.int .u64 ((65537:Nat):Int))):=by
 refine ah.fq func9 ?_;intros
 refine zg ?_;exact dZ rfl
def azI(h:n.tmod 12=8):ah prog 9 [.v (.int .u8 n)] (.v (.int .u64 ((1000003:Nat):Int))):=by
 refine ah.fq func9 ?_;intros
 refine zg ?_;exact dZ rfl
def az2(h:n.tmod 12=9):ah prog 9 [.v (.int .u8 n)] (.v (.int .u64 ((1073741827:Nat):Int))):=by
 refine ah.fq func9 ?_;intros
 refine zg ?_;exact dZ rfl
def awi(h:n.tmod 12=10):ah prog 9 [.v (.int .u8 n)] (.v (.int .u64 ((2147483629:Nat):Int))):=by
 refine ah.fq func9 ?_;intros
 refine zg ?_;exact dZ rfl
def avY(h:n.tmod 12=11):ah prog 9 [.v (.int .u8 n)] (.v (.int .u64 ((2147483647:Nat):Int))):=by
 refine ah.fq func9 ?_;intros
 refine zg ?_;exact dZ rfl
def con_P(hn:0<=n/\n<=255):∃p:Nat,PrP p/\ah prog 9 [.v (.int .u8 n)] (.v (.int .u64 (p:Int))):=by
 have h1:0<=n.tmod 12/\n.tmod 12 < 12:=by
  obtain⟨m,rfl⟩:∃m:Nat,n=m:=⟨n.toNat,zE⟩
  rw[show (12:Int)=((12:Nat):Int)from rfl,mH]
  omega
 have h2:n.tmod 12=0\/n.tmod 12=1\/n.tmod 12=2\/n.tmod 12=3\/n.tmod 12=4\/n.tmod 12=5\/n.tmod 12=6\/n.tmod 12=7\/n.tmod 12=8\/n.tmod 12=9\/n.tmod 12=10\/n.tmod 12=11:=zE
 rcases h2 with h|h|h|h|h|h|h|h|h|h|h|h
 ·exact⟨2,ni _ zp,azg h⟩
 ·exact⟨3,ni _ zp,ayz h⟩
 ·exact⟨5,ni _ zp,az0 h⟩
 ·exact⟨7,ni _ zp,a0b h⟩
 ·exact⟨11,ni _ zp,ayj h⟩
 ·exact⟨13,ni _ zp,ayR h⟩
 ·exact⟨101,ni _ zp,azq h⟩
 ·exact⟨65537,ni _ zp,azW h⟩
 ·exact⟨1000003,ni _ zp,azI h⟩
 ·exact⟨1073741827,ni _ zp,az2 h⟩
 ·exact⟨2147483629,ni _ zp,awi h⟩
 ·exact⟨2147483647,ni _ zp,avY h⟩
def ac5(r c:Int)(l:List mM)(goal:Bool)(hg:goal=true↔FewZ r c l 4 1/\gX r c l.length):ah prog 5 [.agg (matW r c (l.map rz)),.v (.int .i64 4)] (.v (.bool goal)):=by
 by_cases h1:FewZ r c l 4 1
 ·have cF:=acR r c l 4 1 true ⟨fun _=>h1,fun _=>rfl⟩
  have cG:=aej r c (n:=(l.map rz).length) (ag:=(l.map rz).flatMap z2C) goal (by rw[zq5];exact⟨fun h=>(hg.1 h).2,fun h=>hg.2 ⟨h1,h⟩⟩)
  refine ah.fq func5 fun w0 T B E0 hB=>?_
  refine zg ?_;exact aU rfl
 ·have cF:=acR r c l 4 1 false ⟨fun h=>(by cases h),fun h=>absurd h h1⟩
  refine ah.fq func5 fun w0 T B E0 hB=>?_
  refine zg ?_;refine aU ?_;exact(Bool.eq_false_iff.2 fun ht=>h1 (hg.1 ht).1).symm
def avE{r c:Nat}{l:List Z2}{zs:List Int}(hM:MZ l zs 1)(hl:l.length=r*c)(hr:r<=4)(hc:c<=4)(hz:∀z∈zs,z.natAbs < WB ^ 1):ah prog 6 [.agg (og r c l)] (.v (str (tbS r c ((gI zs).map qS)))):=by
 have hzl:zs.length=r*c:=by rw[<-hM.len];exact hl
 have cF:=aiN hM hl zE zE zc (zq6 1)
 rw[ajk hzl,nT]at cF;have hb:∀x∈gI zs,RB x 1:=nQ hz (zq6 1);have cM:=xD (r:=r) (c:=c) (MV.made hb) (by rw[zq5,zq5];exact hzl) zE zE zc
 have C1:Cv 1 0 (iJ r c zs):= .one (.mat r c _ (by rw[zq5];exact hzl) zE zE hb)
 have ht:(tS (iJ r c zs)).length<=10000000000:=by
  have h1:=agN (r:=r) (c:=c) (m:=22) (l:=(gI zs).map qS) zE zE (fun x hx=>by
   obtain⟨q,hq,rfl⟩:=zqg.1 hx;obtain⟨z,hz1,rfl⟩:=zqg.1 hq;rw[abE];exact rF (hz z hz1))
  have h2:=zxd hr (Nat.add_le_add_right (zx1 (22+2) hc) 2);rw[sH];show (tbS r c ((gI zs).map qS)).length<=_;omega
 have cT:=asU (ajB (C1.F zc zc) (aqv 0 C1 zc ht))
 rw[sH]at cT;refine ah.fq func6 ?_;intros
 refine zg ?_;exact mX rfl
section
variable{r c kk n:Int}{R:Rep}
def aua(sm:ah prog 5 [.agg [.c (.val (.int .i64 r)),.c (.val (.int .i64 c)),.c (.sat R)],.v (.int .i64 4)] (.v (.bool false))):ah prog 3 [.agg [.c (.val (.int .i64 r)),.c (.val (.int .i64 c)),.c (.sat R)],.v (.int .i16 kk),.v (.int .u8 n)] (.v (.bool true)):=by
 have a:=xH;refine ah.fq func3 ?_;intros
 refine zg ?_;exact aU rfl
def avZ(sm:ah prog 5 [.agg [.c (.val (.int .i64 r)),.c (.val (.int .i64 c)),.c (.sat R)],.v (.int .i64 4)] (.v (.bool true)))(h:¬r=c):ah prog 3 [.agg [.c (.val (.int .i64 r)),.c (.val (.int .i64 c)),.c (.sat R)],.v (.int .i16 kk),.v (.int .u8 n)] (.v (.bool true)):=by
 have a:=xH;refine ah.fq func3 ?_;intros
 refine zg ?_;exact aU rfl
abbrev tcX(T K:List UInt8):List UInt8:=((([120,32,61,32]++T)++[59,32,107,32,61,32])++K)++[59,32]
def Tc_ok{T K P S:List UInt8}{p:Nat}(lT:T.length<=1000000)(lK:K.length<=1000000)(lP:P.length<=1000000)(lS:S.length<=1000000)(sm:ah prog 5 [.agg [.c (.val (.int .i64 r)),.c (.val (.int .i64 r)),.c (.sat R)],.v (.int .i64 4)] (.v (.bool true)))(hk:IntKind.i64.wrap kk=kk)(hp:IntKind.i64.wrap (p:Int)=(p:Int))
  (tb:ah prog 6 [.agg [.c (.val (.int .i64 r)),.c (.val (.int .i64 r)),.c (.sat R)]] (.v (str T))) (cP:ah prog 9 [.v (.int .u8 n)] (.v (.int .u64 (p:Int))))
  (o1:ah prog 8 [.v (.int .i64 kk)] (.agg (zN kk))) (p1:ah prog 7 [.agg (zN kk)] (.v (str K)))
  (o2:ah prog 8 [.v (.int .i64 (p:Int))] (.agg (zN (p:Int)))) (p2:ah prog 7 [.agg (zN (p:Int))] (.v (str P)))
  (o3:ah prog 8 [.v (.int .i64 r)] (.agg (zN r))) (p3:ah prog 7 [.agg (zN r)] (.v (str S)))
  (s1:ah prog 10 [.v (str (((tcX T K++[101,118,97,108,40,99,104,97,114,40,120,41,44,32,107,41,32,61,61,32,100,101,116,40,107,32,42,32,105,100,40])++S)++[41,32,45,32,120,41,59])),.v (str [49,10])] (.v (.bool true)))
  (s2:ah prog 10 [.v (str (((((tcX T K++[109,111,100,40,99,104,97,114,40,120,41,44,32])++P)++[41,32,61,61,32,99,104,97,114,40,109,111,100,40,120,44,32])++P)++[41,41,59])),.v (str [49,10])] (.v (.bool true)))
  (s3:ah prog 10 [.v (str (((((((tcX T K++[109,111,100,40,108,105,102,116,40,109,111,100,40,120,44,32])++P)++[41,41,44,32])++P)++[41,32,61,61,32,109,111,100,40,120,44,32])++P)++[41,59])),.v (str [49,10])] (.v (.bool true))):
  ah prog 3 [.agg [.c (.val (.int .i64 r)),.c (.val (.int .i64 r)),.c (.sat R)],.v (.int .i16 kk),.v (.int .u8 n)] (.v (.bool true)):=by
 have a:=xH;refine ah.fq func3 fun _ T _ _ _=>?_
 refine zg ?_;exact aU rfl
end
def ax8(m:RawW)(hs:∀a∈m.2.2,Sm WB a.2)(kk:Int)(hk: -32768<=kk/\kk<=32767)(n:Int)(hn:0<=n/\n<=255):
  ah prog 3 [.agg (matW m.1 m.2.1 (m.2.2.map rz)),.v (.int .i16 kk),.v (.int .u8 n)] (.v (.bool true)):=by
 obtain⟨r0,c0,l⟩:=m;by_cases h1:FewZ r0 c0 l 4 1/\gX r0 c0 l.length
 ·have sm:=ac5 r0 c0 l true ⟨fun _=>h1,fun _=>rfl⟩
  by_cases h2:r0=c0
  ·subst h2;obtain⟨⟨hw,hr,_⟩,hF⟩:=h1;obtain⟨r,rfl⟩:∃r:Nat,r0=r:=⟨r0.toNat,by have:=hF.1;omega⟩
   have hl:l.length=r*r:=by have:=hF.2.2.2.2;rw[<-Int.natCast_mul]at this;omega
   have hr4:r<=4:=zE
   have hM:MZ (l.map rz) (l.map rzv) 1:=MZ.raw hs fun a ha=>by
    obtain⟨k,hk⟩:=List.mem_iff_getElem?.1 ha;have:=hw.1 k a (by have:=sj hk;have:=hw.2;omega) hk
    omega
   have bA:∀z∈l.map rzv,z.natAbs < WB ^ 1:=fun z hz=>by
    obtain⟨i,hi⟩:=List.mem_iff_getElem?.1 hz;obtain⟨q,hq⟩:∃q,(l.map rz)[i]? =some q:=⟨_,zyh (by have:=sj hi;rw[zq5]at this ⊢;exact this)⟩
    exact(hM.z i q z hq hi).b
   have hA:(l.map rzv).length=r*r:=by rw[zq5];exact hl
   obtain⟨p,hp,cP⟩:=con_P hn;have hpl:=hp.lt;have hb:kk.natAbs < WB ^ 1:=by rw[zxh,bf];omega
   have tb:=avE (r:=r) (c:=r) hM (by rw[zq5];exact hl) hr4 hr4 bA
   have w1:=abW (a0l (x:=kk) hA bA hr4 zE)
   have w2:=abW (azS (x:=kk) hp hA bA hr4 zE)
   have w3:=abW (ayo (x:=kk) hp hA bA hr4 zE)
   have e1:qw (abj (l.map rzv) r) (zS kk) (tEq tE1 (tE2 (aQ r)))=((tcX (abj (l.map rzv) r) (zS kk)++[101,118,97,108,40,99,104,97,114,40,120,41,44,32,107,41,32,61,61,32,100,101,116,40,107,32,42,32,105,100,40])++aQ r)++[41,32,45,32,120,41,59]:=by simp[qw,tEq,tE1,tE2,aoz,ad9,jU,pU,tcX]
   have e2:qw (abj (l.map rzv) r) (zS kk) (tEq (tMx (aQ p) aoz) (tCx (tMx (aQ p) [120])))=((((tcX (abj (l.map rzv) r) (zS kk)++[109,111,100,40,99,104,97,114,40,120,41,44,32])++aQ p)++[41,32,61,61,32,99,104,97,114,40,109,111,100,40,120,44,32])++aQ p)++[41,41,59]:=by simp[qw,tEq,tMx,tCx,aoz,jU,tcX]
   have e3:qw (abj (l.map rzv) r) (zS kk) (tEq (tMx (aQ p) (tLf (tMx (aQ p) [120]))) (tMx (aQ p) [120]))=((((((tcX (abj (l.map rzv) r) (zS kk)++[109,111,100,40,108,105,102,116,40,109,111,100,40,120,44,32])++aQ p)++[41,41,44,32])++aQ p)++[41,32,61,61,32,109,111,100,40,120,44,32])++aQ p)++[41,59]:=by simp[qw,tEq,tMx,tLf,zV,tcX]
   rw[e1]at w1;rw[e2]at w2;rw[e3]at w3;have hbp:(p:Int).natAbs < WB ^ 1:=ah1 hp;have hbr:(r:Int).natAbs < WB ^ 1:=yg zE
   haveI b1:Bd kk 1:=⟨hb⟩
   haveI b2:Bd (p:Int) 1:=⟨hbp⟩
   haveI b3:Bd (r:Int) 1:=⟨hbr⟩
   have o1:ah prog 8 [.v (.int .i64 kk)] (.agg (zN kk)):=pq.h ⟨zE,zE⟩
   have o2:ah prog 8 [.v (.int .i64 (p:Int))] (.agg (zN (p:Int))):=pq.h ⟨zE,zE⟩
   have o3:ah prog 8 [.v (.int .i64 (r:Int))] (.agg (zN (r:Int))):=pq.h ⟨zE,zE⟩
   have p1:ah prog 7 [.agg (zN kk)] (.v (str (zS kk))):=(rX (k:=1)).h zc
   have p2:ah prog 7 [.agg (zN (p:Int))] (.v (str (zS (p:Int)))):=(rX (k:=1)).h zc
   have p3:ah prog 7 [.agg (zN (r:Int))] (.v (str (zS (r:Int)))):=(rX (k:=1)).h zc
   rw[qg]at p2 p3;have lz:∀{z:Int},z.natAbs < WB ^ 1->(zS z).length<=1000000:=fun hz=>by have:=rF hz;omega
   have lT:(abj (l.map rzv) r).length<=1000000:=by
    have h1:=agN (r:=r) (c:=r) (m:=22) (l:=(gI (l.map rzv)).map qS) zE zE (fun x hx=>by
     obtain⟨q,hq,rfl⟩:=zqg.1 hx;obtain⟨z,hz1,rfl⟩:=zqg.1 hq;rw[abE];exact rF (bA z hz1))
    have h2:=zxd hr4 (Nat.add_le_add_right (zx1 (22+2) hr4) 2);show (tbS r r ((gI (l.map rzv)).map qS)).length<=_;omega
   exact Tc_ok lT (lz hb) (by rw[<-qg];exact lz hbp) (by rw[<-qg];exact lz hbr) sm (jO zE zE) (jO zE zE) tb cP o1 p1 o2 p2 o3 p3 w1 w2 w3
  ·exact avZ sm h2
 ·exact aua (ac5 r0 c0 l false ⟨fun h=>(by cases h),fun h=>absurd h h1⟩)
