import Derived.Test.YthnkfhfcgjoieaaGreatDoorO21
import Derived.Test.YthnkfhfcgjoieaaGreatDoorO7
import Derived.Test.YthnkfhfcgjoieaaGreatDoorO11
set_option maxRecDepth 20000
set_option maxHeartbeats 4000000
set_option linter.unusedVariables false
set_option linter.unusedSimpArgs false
set_option linter.unusedSectionVars false
open Go.Proofs.Tryz
namespace Go.Proofs.YthnkfhfcgjoieaaGreatDoor
open Go.RowKit QM SX LA
def pw5(a m:Int):Nat->Int
 |0=>1 % m
 |1=>(pw5 a m 0*pw5 a m 0 % m)*a % m
 |2=>pw5 a m 1*pw5 a m 1 % m
 |_+3=>(pw5 a m 2*pw5 a m 2 % m)*a % m
theorem qm{x m:Int}{K:Nat}(hm:0 < m)(h:m.natAbs < WB ^ K):(x % m).natAbs < WB ^ K:=by
 have h1:=Int.emod_nonneg x (show m≠0 by omega)
 have h2:=Int.emod_lt_of_pos x hm;omega
theorem ahy{a m:Int}{K:Nat}(hm:0 < m)(h:m.natAbs < WB ^ K)(k:Nat):(pw5 a m k).natAbs < WB ^ K:=by
 match k with
 |0=>unfold pw5;exact qm hm h
 |1=>unfold pw5;exact qm hm h
 |2=>unfold pw5;exact qm hm h
 |_+3=>unfold pw5;exact qm hm h
attribute [local irreducible] IntKind.wrap Go1 Reg WP aJ aN bF bD aM aA ak aj aT Sat
attribute [local irreducible] bK bO bM bS bN qv bZ mf
theorem ahR:ah prog 36 [.r (aB 1 wdC [5]),.v (.int .i64 0)] (.v (.int .i64 1)):=by
 have h:[5][0]? =some 5:=rfl;refine ah.fq func36 results36 ntmps36 fun _ _ _ _ _=>?_
 refine zg ?_;exact iw (h:=rfl) z6
theorem ahX:ah prog 36 [.r (aB 1 wdC [5]),.v (.int .i64 1)] (.v (.int .i64 0)):=by
 have h:[5][0]? =some 5:=rfl;refine ah.fq func36 results36 ntmps36 fun _ _ _ _ _=>?_
 refine zg ?_;exact iw (h:=rfl) z6
theorem aiu:ah prog 36 [.r (aB 1 wdC [5]),.v (.int .i64 2)] (.v (.int .i64 1)):=by
 have h:[5][0]? =some 5:=rfl;refine ah.fq func36 results36 ntmps36 fun _ _ _ _ _=>?_
 refine zg ?_;exact iw (h:=rfl) z6
theorem mU{l l':List Atom}{x y:Int}{k m:Nat}[h:ZI l x k][h':ZI l' y m](hy:0 < y)(hk:k+m<=1000000):ah prog 34 [.agg l,.agg l'] (.agg (zN (x % y))):=by
 refine z2 ⟨_,func34,rfl,rfl⟩ fun neg n neg2 n2 hz hz2 hn hn2=>?_
 have cM:=yV (l:=zR neg n k) (l':=zR neg2 n2 m) (x:=sgn neg n) (y:=sgn neg2 n2) (k:=k) (m:=m) zE zE
 rw[<-hz,<-hz2]at cM;refine ah.fq func34 results34 ntmps34 fun _ _ _ _ _=>?_
 refine zg ?_;exact nP ak.dP rfl
theorem amy{n:Nat}{S:Nat->Prop}{w:World}{v:Value}(h:(bU n).has S w v):(bL (wds n)).has S w v:=by
 obtain⟨l,h1,h2,_,h4⟩:=aaH.1 h;have:=qX (bL.rn h4).sm h1;rw[h2]at this;rw[<-this];exact h4
theorem xJ{i:Nat}{z:Int}(hz:(i=0/\z=1)\/(i=1/\z=0)\/(i=2/\z=1)):ah prog 36 [.r (bU (5:Int).natAbs),.v (.int .i64 (i:Int))] (.v (.int .i64 z)):=by
 have hw:wds 5=[5]:=by kernel_rfl
 have key:ah prog 36 [.r (aB 1 wdC [5]),.v (.int .i64 (i:Int))] (.v (.int .i64 z)):=by
  rcases hz with⟨rfl,rfl⟩|⟨rfl,rfl⟩|⟨rfl,rfl⟩
  ·exact ahR
  ·exact ahX
  ·exact aiu
 refine weakArgs key fun E S w vs hv=>?_
 match vs,hv with
 |[u1,u2],⟨h1,h2,_⟩=>
  have h3:=amy (n:=5) h1;rw[hw]at h3;exact⟨aF.auo E S w u1 h3,h2,trivial⟩
theorem ahi:ah prog 35 [.r (bU (5:Int).natAbs)] (.v (.int .i64 3)):=by
 haveI:BdN 5 1:=⟨by rw[dn];decide⟩
 have h:=(tT (a:= .sat (bU 5)) (x:=5) (k:=1)).h zc
 have e:bitLen 5=3:=by kernel_rfl
 rwa [e]at h
theorem aeK{b b':Bool}{R R':Rep}{n n' k m:Nat}(h:NI (.sat R) n k)(h':NI (.sat R') n' m)(hy:0 < sgn b' n')(hk:k+m<=1000)(hm1:1<=m)(hx:(sgn b n).natAbs < WB ^ k)(hb:(sgn b' n').natAbs < WB ^ m):
  ah prog 10 [.agg [.c (.val (.bool b)),.c (.sat R)],.agg (zN 5),.agg [.c (.val (.bool b')),.c (.sat R')]] (.tup [.agg (zN (pw5 (sgn b n) (sgn b' n') 3)),.one (.c (.val (.bool true)))]):=by
 haveI i1:=ZI.mk' (neg:=b) h
 haveI i2:=ZI.mk' (neg:=b') h'
 generalize hX:sgn b n=X at*;generalize hY:sgn b' n'=Y at*;have cS:=jQ (l:=[.c (.val (.bool b')),.c (.sat R')]) (z:=Y) (k:=m) zE
 have hs:¬aS Y<=0:=by unfold aS;rw[if_neg zE,if_neg zE];omega
 haveI j5:Bd 5 1:=⟨by rw[zxh,dn];decide⟩
 haveI j1:Bd 1 1:=⟨by rw[zxh,dn];decide⟩
 have cS5:=jQ (l:=zN 5) (z:=5) (k:=1) zE
 have hs5:¬aS 5 < 0:=zc
 have cO:ah prog 11 [.v (.int .i64 1)] (.agg (zN 1)):=wL.h ⟨zE,zE⟩
 have cR0:=mU (l:=zN 1) (l':=[.c (.val (.bool b')),.c (.sat R')]) (x:=1) (y:=Y) (k:=1) (m:=m) hy zE
 have cB:=ahi;refine ah.fq func10 results10 ntmps10 fun _ _ _ _ _=>?_
 refine zg ?_;refine W.loop (fun j:Nat=>j<=3) (fun j=>[(3,.ptr 3 0),(4,.ptr 4 0),(5,.ptr 5 0),(6,.ptr 6 0),(10,.ptr 10 0),(11,.v (.int .i64 (2 - (j:Int))))]) (fun j=>[(3,.box 25 [.c (.val (.bool b)),.c (.sat R)]),(4,.box 25 (zN 5)),(5,.box 25 [.c (.val (.bool b')),.c (.sat R')]),(6,.box 25 [.c (.val (.bool false)),.c (.val (.slice none 0 0))]),(10,.box 25 (zN (pw5 X Y j)))]) (fun j=>3 - j) 0 (zq8 _) (fun j hj=>?_)
  (by
   refine St.bV [] zt ?_ ?_ rfl
   ·exact yi
   ·have e0:pw5 X Y ((0:Nat))=1 % Y:=by unfold pw5;rfl
    exact⟨ay.same rfl rfl,ay.same rfl rfl,ay.same rfl rfl,ay.same rfl rfl,by rw[e0];exact ay.same rfl rfl,trivial⟩)
 by_cases h3:j < 3
 ·have hP:=ahy (a:=X) hy hb j;have st1:j=1->pw5 X Y (j+1)=pw5 X Y j*pw5 X Y j % Y:=fun e=>by subst e;conv=>lhs;unfold pw5
  have st2:j≠1->pw5 X Y (j+1)=(pw5 X Y j*pw5 X Y j % Y)*X % Y:=fun e=>by
   match j,h3,e with
   |0,_,_=>conv=>lhs;unfold pw5
   |1,_,e=>exact absurd rfl e
   |2,_,_=>conv=>lhs;unfold pw5
  generalize pw5 X Y j=P at*
  haveI iP:Bd P m:=⟨hP⟩
  have cM1:=(rG (l:=zN P) (l':=zN P) (x:=P) (y:=P) (k:=m) (m:=m)).h zE
  haveI iPP:Bd (P*P) (m+m):=⟨by rw[zve];exact gV hP hP⟩
  have cR1:=mU (l:=zN (P*P)) (l':=[.c (.val (.bool b')),.c (.sat R')]) (x:=P*P) (y:=Y) (k:=m+m) (m:=m) hy zE
  by_cases h1:j=1
  ·have cBt:ah prog 36 [.r (bU (5:Int).natAbs),.v (.int .i64 (2 - (j:Int)))] (.v (.int .i64 0)):=by
    rw[show (2 - (j:Int))=((1:Nat):Int)by omega];exact xJ (.inr (.inl ⟨rfl,rfl⟩))
   have e:=st1 h1;refine zg ?_;refine W.next (j+1) h3 zE (by
    refine St.bV [] zt ?_ ?_ rfl
    ·exact yi
    ·rw[e];exact⟨ay.same rfl rfl,ay.same rfl rfl,ay.same rfl rfl,ay.same rfl rfl,ay.same rfl rfl,trivial⟩)
  ·have cBt:ah prog 36 [.r (bU (5:Int).natAbs),.v (.int .i64 (2 - (j:Int)))] (.v (.int .i64 1)):=by
    rcases(show j=0\/j=2 by omega)with rfl|rfl
    ·exact xJ (i:=2) (.inr (.inr ⟨rfl,rfl⟩))
    ·exact xJ (i:=0) (.inl ⟨rfl,rfl⟩)
   have e:=st2 h1;have hQ:=qm (x:=P*P) hy hb;generalize P*P % Y=Q at*
   haveI iQ:Bd Q m:=⟨hQ⟩
   have cM2:=(rG (l:=zN Q) (l':=[.c (.val (.bool b)),.c (.sat R)]) (x:=Q) (y:=X) (k:=m) (m:=k)).h zE
   haveI iQX:Bd (Q*X) (m+k):=⟨by rw[zve];exact gV hQ hx⟩
   have cR2:=mU (l:=zN (Q*X)) (l':=[.c (.val (.bool b')),.c (.sat R')]) (x:=Q*X) (y:=Y) (k:=m+k) (m:=m) hy zE
   refine zg ?_;refine W.next (j+1) h3 zE (by
    refine St.bV [] zt ?_ ?_ rfl
    ·exact yi
    ·rw[e];exact⟨ay.same rfl rfl,ay.same rfl rfl,ay.same rfl rfl,ay.same rfl rfl,ay.same rfl rfl,trivial⟩)
 ·obtain rfl:j=3:=zE
  refine zg ?_;exact .ok (aA.mk2 ak.dP (ak.tmp rfl))
end Go.Proofs.YthnkfhfcgjoieaaGreatDoor
set_option linter.unusedSectionVars false
namespace Go.Proofs.YthnkfhfcgjoieaaGreatDoor
open Go.RowKit QM SX LA
abbrev oW:List UInt8:=[112,111,119,109,111,100]
theorem nL(x:Int):sgn (decide (x < 0)) x.natAbs=x:=by
 unfold sgn;by_cases h:x < 0 <;> simp[h] <;> omega
abbrev z0A:List Atom:=[.c (.val (.bool false)),.c (.val (.slice none 0 0))]
attribute [local irreducible] IntKind.wrap Go1 Reg WP aJ aN bF bD aM aA ak aj aT Sat
attribute [local irreducible] bK bO bM bS bN qv bZ mf PrP qOk zOk vP dx lz vF cq rqv dI aX bG aV dN jn sq aW qS zS tS tbS plS mdS zmd
theorem amx{x y:Int}{k m:Nat}(hy:0 < y)(hk:k+m<=1000)(hm1:1<=m)(hx:x.natAbs < WB ^ k)(hb:y.natAbs < WB ^ m):
  ah prog 10 [.agg (zN x),.agg (zN 5),.agg (zN y)] (.tup [.agg (zN (pw5 x y 3)),.one (.c (.val (.bool true)))]):=by
 haveI j1:BdN x.natAbs k:=⟨hx⟩
 haveI j2:BdN y.natAbs m:=⟨hb⟩
 have h:=aeK (b:=decide (x < 0)) (b':=decide (y < 0)) (R:=bU x.natAbs) (R':=bU y.natAbs) (n:=x.natAbs) (n':=y.natAbs) (k:=k) (m:=m) inferInstance inferInstance (by rw[nL];exact hy) hk hm1 (by rw[nL];exact hx) (by rw[nL];exact hb)
 rwa [nL,nL]at h
theorem acC{l:List Atom}{b':Bool}{R':Rep}{n' m:Nat}{x0 x1:Atom}(h':NI (.sat R') n' m)(hy:¬0 < sgn b' n')(hm:m<=1000){b:Bool}{R:Rep}:
  ah prog 10 [.agg [.c (.val (.bool b)),.c (.sat R)],.agg (zN 5),.agg [.c (.val (.bool b')),.c (.sat R')]] (.tup [.agg z0A,.one (.c (.val (.bool false)))]):=by
 haveI i2:=ZI.mk' (neg:=b') h'
 generalize hY:sgn b' n'=Y at*;have cS:=jQ (l:=[.c (.val (.bool b')),.c (.sat R')]) (z:=Y) (k:=m) zE
 have hs:aS Y<=0:=by unfold aS;split <;> first|omega|(split <;> omega)
 refine ah.fq func10 results10 ntmps10 fun _ _ _ _ _=>?_
 refine zg ?_;exact .ok (aA.mk2 ak.dP (ak.tmp rfl))
theorem ahS{x y:Int}{m:Nat}(hy:¬0 < y)(hm:m<=1000)(hb:y.natAbs < WB ^ m):
  ah prog 10 [.agg (zN x),.agg (zN 5),.agg (zN y)] (.tup [.agg z0A,.one (.c (.val (.bool false)))]):=by
 haveI j2:BdN y.natAbs m:=⟨hb⟩
 exact acC (l:=[]) (x0:= .c (.val (.bool false))) (x1:= .c (.val (.bool false))) (b':=decide (y < 0)) (R':=bU y.natAbs) (n':=y.natAbs) (m:=m) inferInstance (by rw[nL];exact hy) hm
section
variable{x y:Int}{K:Nat}(hx:x.natAbs < WB ^ K)(hy:y.natAbs < WB ^ K)(h1:1<=K)(hK:K<=50)
include hx hy h1 hK
theorem aky:ah prog 94 [.agg (bR oW [vI x,vI 5,vI y]),.v (str oW),.v (str [110,110,110])] (.v (.bool true)):=oz (fun _=>true) rfl (zqc rfl) (fun i v hv=>by
 have h5:(5:Int).natAbs < WB ^ 1:=by rw[zxh,dn];decide
 match i,hv with
 |0,hv=>cases hv;exact jk (dG hx h1 zE)
 |1,hv=>cases hv;exact jk (dG h5 (zq6 1) zc)
 |2,hv=>cases hv;exact jk (dG hy h1 zE))
theorem af5(hp:0 < y):ah prog 73 [.agg (bR oW [vI x,vI 5,vI y])] (.agg (iW (vI (pw5 x y 3)) 0 true)):=by
 have h5:(5:Int).natAbs < WB ^ 1:=by rw[zxh,dn];decide
 have a:=aky hx hy h1 hK;have n0:ah prog 97 [.agg (bR oW [vI x,vI 5,vI y]),.v (.int .i64 0)] (.agg (zN x)):=lC (i:=0) rfl zc (dG hx h1 zE)
 have n1:ah prog 97 [.agg (bR oW [vI x,vI 5,vI y]),.v (.int .i64 1)] (.agg (zN 5)):=lC (i:=1) rfl zc (dG h5 (zq6 1) zc)
 have n2:ah prog 97 [.agg (bR oW [vI x,vI 5,vI y]),.v (.int .i64 2)] (.agg (zN y)):=lC (i:=2) rfl zc (dG hy h1 zE)
 have cP:=amx (x:=x) (y:=y) (k:=K) (m:=K) hp zE h1 hx hy
 have cN:=og (ahy (a:=x) hp hy 3) zE zE
 refine ah.fq func73 results73 ntmps73 fun _ _ _ _ _=>?_
 refine zg ?_;refine fK ak.dW ?_;exact zv _
theorem ad2(hp:¬0 < y):ah prog 73 [.agg (bR oW [vI x,vI 5,vI y])] (.agg (iW v0 3 true)):=by
 have h5:(5:Int).natAbs < WB ^ 1:=by rw[zxh,dn];decide
 have a:=aky hx hy h1 hK;have n0:ah prog 97 [.agg (bR oW [vI x,vI 5,vI y]),.v (.int .i64 0)] (.agg (zN x)):=lC (i:=0) rfl zc (dG hx h1 zE)
 have n1:ah prog 97 [.agg (bR oW [vI x,vI 5,vI y]),.v (.int .i64 1)] (.agg (zN 5)):=lC (i:=1) rfl zc (dG h5 (zq6 1) zc)
 have n2:ah prog 97 [.agg (bR oW [vI x,vI 5,vI y]),.v (.int .i64 2)] (.agg (zN y)):=lC (i:=2) rfl zc (dG hy h1 zE)
 have cP:=ahS (x:=x) (y:=y) (m:=K) hp zE hy
 have cD:=al7 (e:=3) zc
 refine ah.fq func73 results73 ntmps73 fun _ _ _ _ _=>?_
 refine zg ?_;refine fK ak.dW ?_;exact zv _
end
end Go.Proofs.YthnkfhfcgjoieaaGreatDoor
set_option linter.unusedSectionVars false
namespace Go.Proofs.YthnkfhfcgjoieaaGreatDoor
open Go.RowKit QM SX LA
abbrev aik:List UInt8:=[102,108,111,111,114]
abbrev ah3:List UInt8:=[114,111,117,110,100]
abbrev ag9:List UInt8:=[97,98,115]
abbrev ahp:List UInt8:=[110,117,109]
abbrev ahw:List UInt8:=[100,101,110]
abbrev adB:List UInt8:=[112,114,105,109,101]
abbrev wF:List UInt8:=[99,114,116]
abbrev aen:List UInt8:=[108,101,110]
abbrev yY(t:List UInt8):Prop:=t=aik\/t=ah3\/t=ag9\/t=ahp\/t=ahw\/t=oW\/t=adB\/t=wF\/t=aen
attribute [local irreducible] IntKind.wrap Go1 Reg WP aJ aN bF bD aM aA ak aj aT Sat
attribute [local irreducible] bK bO bM bS bN qv bZ mf PrP qOk zOk vP dx lz vF cq rqv dI aX bG aV dN jn sq aW qS zS tS tbS plS mdS zmd jT jU zEv bI fDs fEv xgG xgS xgT
section
variable{t:List UInt8}{vs:List Vl}(ht:yY t)
include ht
theorem kV:ah prog 67 [.agg (bR t vs)] (.agg nk):=by
 rcases ht with rfl|rfl|rfl|rfl|rfl|rfl|rfl|rfl|rfl <;> (
  refine ah.fq func67 results67 ntmps67 fun _ _ _ _ _=>?_
  refine zg ?_;exact mH ak.dW
 )
theorem lu:ah prog 68 [.agg (bR t vs)] (.agg nk):=by
 rcases ht with rfl|rfl|rfl|rfl|rfl|rfl|rfl|rfl|rfl <;> (
  refine ah.fq func68 results68 ntmps68 fun _ _ _ _ _=>?_
  refine zg ?_;exact mH ak.dW
 )
theorem je:ah prog 69 [.agg (bR t vs)] (.agg nk):=by
 rcases ht with rfl|rfl|rfl|rfl|rfl|rfl|rfl|rfl|rfl <;> (
  refine ah.fq func69 results69 ntmps69 fun _ _ _ _ _=>?_
  refine zg ?_;exact mH ak.dW
 )
theorem gQ:ah prog 70 [.agg (bR t vs)] (.agg nk):=by
 rcases ht with rfl|rfl|rfl|rfl|rfl|rfl|rfl|rfl|rfl <;> (
  refine ah.fq func70 results70 ntmps70 fun _ _ _ _ _=>?_
  refine zg ?_;exact mH ak.dW
 )
theorem arX:ah prog 149 [.agg (bR t vs)] (.agg nk):=by
 rcases ht with rfl|rfl|rfl|rfl|rfl|rfl|rfl|rfl|rfl <;> (
  refine ah.fq func149 results149 ntmps149 fun _ _ _ _ _=>?_
  refine zg ?_;exact mH ak.dW
 )
theorem agQ:ah prog 150 [.agg (bR t vs)] (.agg nk):=by
 rcases ht with rfl|rfl|rfl|rfl|rfl|rfl|rfl|rfl|rfl <;> (
  refine ah.fq func150 results150 ntmps150 fun _ _ _ _ _=>?_
  refine zg ?_;exact mH ak.dW
 )
end
end Go.Proofs.YthnkfhfcgjoieaaGreatDoor
set_option linter.unusedSectionVars false
namespace Go.Proofs.YthnkfhfcgjoieaaGreatDoor
open Go.RowKit QM SX LA
attribute [local irreducible] IntKind.wrap Go1 Reg WP aJ aN bF bD aM aA ak aj aT Sat
attribute [local irreducible] bK bO bM bS bN qv bZ mf PrP qOk zOk vP dx lz vF cq rqv dI aX bG aV dN jn sq aW qS zS tS tbS plS mdS zmd jT jU zEv bI fDs fEv xgG xgS xgT
theorem mY{t:List UInt8}{vs:List Vl}(ht:yY t)(hl:vs.length<=100000){x:CA}{w:Bool}(hx:x.eO=true)(cm:ah prog 141 [.r (aB 15 vlE vs)] (.tup [.one (.c x),.one (.c (.val (.bool w)))])):ah prog 72 [.agg (bR t vs)] (.agg nk):=by
 have cM:=arX (vs:=vs) ht;have cC:=agQ (vs:=vs) ht;rcases ht with rfl|rfl|rfl|rfl|rfl|rfl|rfl|rfl|rfl <;> cases w <;> (
  refine ah.fq func72 results72 ntmps72 fun _ _ _ _ _=>?_
  refine zg ?_;refine fK ak.dW ?_;exact zv _
 )
theorem amA:ah prog 66 [.v (str mD),.v (str (([32]++oW)++[32]))] (.v (.bool true)):=aO eU z6
theorem apO:ah prog 66 [.v (str oW),.v (str [32])] (.v (.bool false)):=aO zc z6
section
variable{x y:Int}{K:Nat}(hx:x.natAbs < WB ^ K)(hy:y.natAbs < WB ^ K)(h1:1<=K)(hK:K<=50)
include hx hy h1 hK
theorem acK:ah prog 72 [.agg (bR oW [vI x,vI 5,vI y])] (.agg nk):=by
 have h5:(5:Int).natAbs < WB ^ K:=zqf (show (5:Int).natAbs < WB ^ 1 by rw[zxh,dn];decide) (zx2 aZ h1)
 have cm:=tZ (K:=K) (zs:=[x,5,y]) (fun z hz=>by
  rcases zy3.1 hz with rfl|hz
  ·exact hx
  ·rcases zy3.1 hz with rfl|hz
   ·exact h5
   ·rw[zxi]at hz;subst hz;exact hy) h1 zE (zqc rfl)
 exact mY (.inr (.inr (.inr (.inr (.inr (.inl rfl)))))) (zqc rfl) rfl cm
theorem ajP:∀u∈[vI x,vI 5,vI y],ah prog 65 [.agg (vlA u)] (.v (.bool true)):=fun u hu=>by
 have h5:(5:Int).natAbs < WB ^ 1:=by rw[zxh,dn];decide
 rcases zy3.1 hu with rfl|hu
 ·exact kS hx h1 zE
 ·rcases zy3.1 hu with rfl|hu
  ·exact kS h5 (zq6 1) zc
  ·rw[zxi]at hu;subst hu;exact kS hy h1 zE
theorem an6(hp:0 < y):ah prog 46 [.v (str oW),.r (aB 15 vlE [vI x,vI 5,vI y])] (.tup [.agg (vlA (vI (pw5 x y 3))),eNo 0]):=by
 have ht:yY oW:= .inr (.inr (.inr (.inr (.inr (.inl rfl)))));refine lW (n0:=6) zc zc (zqc rfl) (ajP hx hy h1 hK) amA apO (fun k f hk hg=>?_) (fun f hg=>?_)
 ·match k,hk,hg with
  |0,_,hg=>cases hg;exact kV ht
  |1,_,hg=>cases hg;exact lu ht
  |2,_,hg=>cases hg;exact je ht
  |3,_,hg=>cases hg;exact gQ ht
  |4,_,hg=>cases hg;exact oU (fun h=>by have h':3=1:=h;omega) (zqc rfl)
  |5,_,hg=>cases hg;exact acK hx hy h1 hK
 ·cases hg;exact af5 hx hy h1 hK hp
theorem ak5(hp:¬0 < y):ah prog 46 [.v (str oW),.r (aB 15 vlE [vI x,vI 5,vI y])] (.tup [.agg (vlA v0),eNo 3]):=by
 have ht:yY oW:= .inr (.inr (.inr (.inr (.inr (.inl rfl)))));refine adf (n0:=6) zc zc (zqc rfl) (ajP hx hy h1 hK) amA apO (fun k f hk hg=>?_) (fun f hg=>?_)
 ·match k,hk,hg with
  |0,_,hg=>cases hg;exact kV ht
  |1,_,hg=>cases hg;exact lu ht
  |2,_,hg=>cases hg;exact je ht
  |3,_,hg=>cases hg;exact gQ ht
  |4,_,hg=>cases hg;exact oU (fun h=>by have h':3=1:=h;omega) (zqc rfl)
  |5,_,hg=>cases hg;exact acK hx hy h1 hK
 ·cases hg;exact ad2 hx hy h1 hK hp
end
end Go.Proofs.YthnkfhfcgjoieaaGreatDoor
set_option linter.unusedSectionVars false
namespace Go.Proofs.YthnkfhfcgjoieaaGreatDoor
open Go.RowKit QM SX LA
attribute [local irreducible] IntKind.wrap Go1 Reg WP aJ aN bF bD aM aA ak aj aT Sat
attribute [local irreducible] bK bO bM bS bN qv bZ mf PrP qOk zOk vP dx lz vF cq rqv dI aX bG aV dN jn sq aW qS zS tS tbS plS mdS zmd jT jU zEv bI fDs fEv xgG xgS xgT
theorem af3(t:List UInt8)(v:Rat):ah prog 94 [.agg (bR t [bW v]),.v (str t),.v (str [114])] (.v (.bool true)):=
 oz (fun _=>true) rfl (zqc rfl) fun i u hv=>by
  match i,hv with
  |0,hv=>
   cases hv;have h:=ahM (bW v);rw[decide_eq_true rfl]at h;exact h
theorem afx{v:Rat}{z:Int}{K:Nat}(hz:z.natAbs < WB ^ K)(h1:1<=K)(hK:K<=100000)(cF:ah prog 16 [.agg (q4A (rq (cq v)))] (.agg (zN z))):ah prog 73 [.agg (bR aik [bW v])] (.agg (iW (vI z) 0 true)):=by
 have hv:[bW v][0]? =some (bW v):=rfl;have a:=af3 aik v;have cN:=og hz h1 hK;refine ah.fq func73 results73 ntmps73 fun _ _ _ _ _=>?_
 refine zg ?_;refine fK ak.dW ?_;exact zv _
theorem agx{v:Rat}{z:Int}{K:Nat}(hz:z.natAbs < WB ^ K)(h1:1<=K)(hK:K<=100000)(cF:ah prog 17 [.agg (q4A (rq (cq v)))] (.agg (zN z))):ah prog 73 [.agg (bR ah3 [bW v])] (.agg (iW (vI z) 0 true)):=by
 have hv:[bW v][0]? =some (bW v):=rfl;have a:=af3 ah3 v;have cN:=og hz h1 hK;refine ah.fq func73 results73 ntmps73 fun _ _ _ _ _=>?_
 refine zg ?_;refine fK ak.dW ?_;exact zv _
theorem agz{vs:List Vl}(hl:vs.length<=1000000):ah prog 73 [.agg (bR aen [dz vs])] (.agg (iW (vI (vs.length:Int)) 0 true)):=by
 have hv:[dz vs][0]? =some (dz vs):=rfl;have a:ah prog 94 [.agg (bR aen [dz vs]),.v (str aen),.v (str [108])] (.v (.bool true)):=
  oz (fun _=>true) rfl (zqc rfl) fun i u hv=>by
   match i,hv with
   |0,hv=>
    cases hv;have h:=uV (dz vs);rw[decide_eq_true rfl]at h;exact h
 have cc:=ahu (n:=(vs.length:Int)) zE
 have cf:=mh (vI (vs.length:Int));have e:(dz vs).li.length<=1000000:=hl;refine ah.fq func73 results73 ntmps73 fun _ _ _ _ _=>?_
 refine zg ?_;refine fK ak.dW ?_;exact zv _
end Go.Proofs.YthnkfhfcgjoieaaGreatDoor
set_option linter.unusedSectionVars false
namespace Go.Proofs.YthnkfhfcgjoieaaGreatDoor
open Go.RowKit QM SX LA
theorem adJ{z:Int}{K:Nat}(h:z.natAbs < WB ^ K):ZQ (decide (z < 0),bL (wds z.natAbs)) z K:=by
 have hq:=ZQ.raw (b:=decide (z < 0)) (l:=wds z.natAbs) (K:=K) (abg _) (mJ h);rw[nU,nL]at hq;exact hq
attribute [local irreducible] IntKind.wrap Go1 Reg WP aJ aN bF bD aM aA ak aj aT Sat
attribute [local irreducible] bK bO bM bS bN qv bZ mf PrP qOk zOk vP dx lz vF rqv dI aX bG aV dN jn sq aW qS zS tS tbS plS mdS zmd jT jU zEv bI fDs fEv xgG xgS xgT
theorem yQ{q:Z2}{z:Int}{K:Nat}(hq:ZQ q z K)(h1:1<=K)(hK:K<=100000):ah prog 115 [.agg (z2A q),.v (.int .i64 0)] (.agg (iW (vI z) 0 true)):=by
 have cW:ah prog 6 [.agg (z2A q)] (.agg (vlA (vI z))):=dY hq h1 hK;have cd:=sP (vI z);refine ah.fq func115 results115 ntmps115 fun _ _ _ _ _=>?_
 refine zg ?_;refine fK ak.dW ?_;exact zv _
theorem agd{v:Rat}{K:Nat}(hz:v.num.natAbs < WB ^ K)(h1:1<=K)(hK:K<=100000):ah prog 73 [.agg (bR ahp [bW v])] (.agg (iW (vI v.num) 0 true)):=by
 have hv:[bW v][0]? =some (bW v):=rfl;have a:=af3 ahp v;have cN:=yQ (adJ hz) h1 hK;refine ah.fq func73 results73 ntmps73 fun _ _ _ _ _=>?_
 refine zg ?_;refine fK ak.dW ?_;exact zv _
theorem afc{v:Rat}{K:Nat}(hz:(v.den:Int).natAbs < WB ^ K)(h1:1<=K)(hK:K<=100000):ah prog 73 [.agg (bR ahw [bW v])] (.agg (iW (vI (v.den:Int)) 0 true)):=by
 have hv:[bW v][0]? =some (bW v):=rfl;have a:=af3 ahw v;have cN:=yQ (adJ hz) h1 hK;refine ah.fq func73 results73 ntmps73 fun _ _ _ _ _=>?_
 refine zg ?_;refine fK ak.dW ?_;exact zv _
end Go.Proofs.YthnkfhfcgjoieaaGreatDoor
set_option linter.unusedSectionVars false
namespace Go.Proofs.YthnkfhfcgjoieaaGreatDoor
open Go.RowKit QM SX LA
attribute [local irreducible] IntKind.wrap Go1 Reg WP aJ aN bF bD aM aA ak aj aT Sat
attribute [local irreducible] bK bO bM bS bN qv bZ mf PrP qOk zOk vP dx lz vF rqv dI aX bG aV dN jn sq aW qS zS tS tbS plS mdS zmd jT jU zEv bI fDs fEv xgG xgS xgT
section
variable{x y:Int}{K:Nat}(hx:x.natAbs < WB ^ K)(hy:y.natAbs < WB ^ K)(h1:1<=K)(hK:K<=50)
theorem aju(t:List UInt8)(x y:Int):ah prog 94 [.agg (bR t [vI x,vI y]),.v (str t),.v (str [101,101])] (.v (.bool false)):=
 oz (fun _=>false) rfl (zqc rfl) fun i u hv=>by
  match i,hv with
  |0,hv=>cases hv;have h:=u7 (vI x);rw[decide_eq_false (fun h=>by have h':(1:Int)=5:=h;omega)]at h;exact h
  |1,hv=>cases hv;have h:=u7 (vI y);rw[decide_eq_false (fun h=>by have h':(1:Int)=5:=h;omega)]at h;exact h
include hx hy h1 hK
theorem aiW(t:List UInt8):ah prog 94 [.agg (bR t [vI x,vI y]),.v (str t),.v (str [110,110])] (.v (.bool true)):=
 oz (fun _=>true) rfl (zqc rfl) fun i u hv=>by
  match i,hv with
  |0,hv=>cases hv;exact jk (dG hx h1 zE)
  |1,hv=>cases hv;exact jk (dG hy h1 zE)
theorem zP:ah prog 150 [.agg (bR zF [vI x,vI y])] (.agg (iW (vI (Int.gcd x y:Int)) 0 true)):=by
 have a0:=aju zF x y;have a:=aiW hx hy h1 hK zF;have n0:ah prog 97 [.agg (bR zF [vI x,vI y]),.v (.int .i64 0)] (.agg (zN x)):=lC (i:=0) rfl zc (dG hx h1 zE)
 have n1:ah prog 97 [.agg (bR zF [vI x,vI y]),.v (.int .i64 1)] (.agg (zN y)):=lC (i:=1) rfl zc (dG hy h1 zE)
 haveI i1:Bd x K:=⟨hx⟩
 haveI i2:Bd y K:=⟨hy⟩
 have cG:=zGcd (l:=zN x) (l':=zN y) (x:=x) (y:=y) (k:=K) (m:=K) zE
 have hg:(Int.gcd x y:Int).natAbs < WB ^ K:=by
  rw[zxa];by_cases h0:x=0
  ·subst h0;rw[Int.gcd_zero_left];exact hy
  ·exact zxb (Nat.le_of_dvd (Int.natAbs_pos.2 h0) (Int.ofNat_dvd_left.1 (Int.gcd_dvd_left ..))) hx
 have cN:=og hg h1 zE
 refine ah.fq func150 results150 ntmps150 fun _ _ _ _ _=>?_
 refine zg ?_;refine fK ak.dW ?_;exact zv _
end
end Go.Proofs.YthnkfhfcgjoieaaGreatDoor
set_option linter.unusedSectionVars false
namespace Go.Proofs.YthnkfhfcgjoieaaGreatDoor
open Go.RowKit QM SX LA
attribute [local irreducible] IntKind.wrap Go1 Reg WP aJ aN bF bD aM aA ak aj aT Sat
attribute [local irreducible] bK bO bM bS bN qv bZ mf PrP qOk zOk vP dx lz vF rqv dI aX bG aV dN jn sq aW qS zS tS tbS plS mdS zmd jT jU zEv bI fDs fEv xgG xgS xgT
section
variable{x y:Int}{K:Nat}(hx:x.natAbs < WB ^ K)(hy:y.natAbs < WB ^ K)(h1:1<=K)(hK:K<=50)
theorem ajN(t:List UInt8)(x y:Int):ah prog 94 [.agg (bR t [vI x,vI y]),.v (str t),.v (str [113,113])] (.v (.bool false)):=
 oz (fun _=>false) rfl (zqc rfl) fun i u hv=>by
  match i,hv with
  |0,hv=>cases hv;have h:=aa3 (vI x);rw[decide_eq_false (fun h=>by have h':(1:Int)=3:=h;omega)]at h;exact h
  |1,hv=>cases hv;have h:=aa3 (vI y);rw[decide_eq_false (fun h=>by have h':(1:Int)=3:=h;omega)]at h;exact h
include hx hy h1 hK
theorem ab6:ah prog 72 [.agg (bR zF [vI x,vI y])] (.agg (iW (vI (Int.gcd x y:Int)) 0 true)):=by
 have cm:=tZ (K:=K) (zs:=[x,y]) (fun z hz=>by
  rcases zy3.1 hz with rfl|hz
  ·exact hx
  ·rw[zxi]at hz;subst hz;exact hy) h1 zE (zqc rfl)
 have cm':ah prog 141 [.r (aB 15 vlE [vI x,vI y])] (.tup [.one (.c (.sat (aB 2 z2C ((aX [x,y]).map z2v)))),.one (.c (.val (.bool true)))]):=cm;have a0:=ajN zF x y;have cM:=aiD (t:=zF) (vs:=[vI x,vI y]) (.inl rfl);have cC:=zP hx hy h1 hK;clear cm;refine ah.fq func72 results72 ntmps72 fun _ _ _ _ _=>?_
 refine zg ?_;refine fK ak.dW ?_;exact zv _
theorem akE:ah prog 46 [.v (str zF),.r (aB 15 vlE [vI x,vI y])] (.tup [.agg (vlA (vI (Int.gcd x y:Int))),eNo 0]):=
 acU (.inr (.inr (.inr (.inl rfl)))) (zqc rfl) (F2 (kS hx h1 zE) (kS hy h1 zE)) asX (ab6 hx hy h1 hK)
end
end Go.Proofs.YthnkfhfcgjoieaaGreatDoor
set_option linter.unusedSectionVars false
namespace Go.Proofs.YthnkfhfcgjoieaaGreatDoor
open Go.RowKit QM SX LA
attribute [local irreducible] IntKind.wrap Go1 Reg WP aJ aN bF bD aM aA ak aj aT Sat
attribute [local irreducible] bK bO bM bS bN qv bZ mf PrP qOk zOk vP dx lz vF rqv dI aX bG aV dN jn sq aW qS zS tS tbS plS mdS zmd jT jU zEv bI fDs fEv xgG xgS xgT
theorem ahd{x:Rat}{K:Nat}(hx:RB x K)(hd:¬x.den=1)(hK:K<=100000):ah prog 192 [.agg (vlA (bW x))] (.tup [.agg (zN 0),.one (.c (.val (.bool false)))]):=by
 have cw:=ai0 hx hK;rw[if_neg hd,decide_eq_false hd]at cw;refine ah.fq func192 results192 ntmps192 fun _ _ _ _ _=>?_
 refine zg ?_;exact .ok (aA.mk2 ak.dP (ak.tmp rfl))
theorem ae9{x:Rat}{K:Nat}(hx:RB x K)(h1:1<=K)(hK:K<=100000):∃(c:CA) (w:Bool),c.eO=true/\ah prog 141 [.r (aB 15 vlE [bW x])] (.tup [.one (.c c),.one (.c (.val (.bool w)))]):=by
 by_cases hd:x.den=1
 ·have e:x=(x.num:Rat):=Rat.ext (Rat.num_intCast x.num).symm (by rw[hd];exact(Rat.den_intCast x.num).symm)
  have cm:=tZ (K:=K) (zs:=[x.num]) (fun z hz=>by rw[zxi]at hz;subst hz;exact hx.n) h1 hK (zqc rfl)
  have e2:[x.num].map vI=[bW x]:=by show [bW (x.num:Rat)]=_;rw[<-e]
  rw[e2]at cm;exact⟨_,_,rfl,cm⟩
 ·exact⟨_,_,rfl,tC (vs:=[]) (ahd hx hd hK) (zqc rfl)⟩
theorem auO{t:List UInt8}(ht:t=aik\/t=ah3\/t=ahp\/t=ahw):ah prog 66 [.v (str mD),.v (str (([32]++t)++[32]))] (.v (.bool true)):=by
 rcases ht with rfl|rfl|rfl|rfl
 ·exact aO eU z6
 ·exact aO eU z6
 ·exact aO eU z6
 ·exact aO eU z6
theorem auV{t:List UInt8}(ht:t=aik\/t=ah3\/t=ahp\/t=ahw):ah prog 66 [.v (str t),.v (str [32])] (.v (.bool false)):=by
 rcases ht with rfl|rfl|rfl|rfl
 ·exact aO zc z6
 ·exact aO zc z6
 ·exact aO zc z6
 ·exact aO zc z6
theorem vE{t:List UInt8}{x:Rat}{r:Vl}{K:Nat}(ht:t=aik\/t=ah3\/t=ahp\/t=ahw)(hx:RB x K)(h1:1<=K)(hK:K<=100000)(hF:ah prog 65 [.agg (vlA (bW x))] (.v (.bool true)))
  (hg:ah prog 73 [.agg (bR t [bW x])] (.agg (iW r 0 true))):ah prog 46 [.v (str t),.r (aB 15 vlE [bW x])] (.tup [.agg (vlA r),eNo 0]):=by
 have hN:yY t:=by
  rcases ht with rfl|rfl|rfl|rfl
  ·exact .inl rfl
  ·exact .inr (.inl rfl)
  ·exact .inr (.inr (.inr (.inl rfl)))
  ·exact .inr (.inr (.inr (.inr (.inl rfl))))
 have hl:t.length<=1000:=by rcases ht with rfl|rfl|rfl|rfl <;> decide
 obtain⟨c,w,hc,cm⟩:=ae9 hx h1 hK;refine lW (n0:=6) hl zc (zqc rfl) (F1 hF) (auO ht) (auV ht) (fun k f hk hg=>?_) (fun f hg'=>?_)
 ·match k,hk,hg with
  |0,_,hg=>cases hg;exact kV hN
  |1,_,hg=>cases hg;exact lu hN
  |2,_,hg=>cases hg;exact je hN
  |3,_,hg=>cases hg;exact gQ hN
  |4,_,hg=>cases hg;exact uJ ⟨fun h=>by have h':(1:Int)=4:=h;omega,fun h=>by have h':(1:Int)=5:=h;omega⟩
  |5,_,hg=>cases hg;exact mY hN (zqc rfl) hc cm
 ·cases hg';exact hg
end Go.Proofs.YthnkfhfcgjoieaaGreatDoor
set_option linter.unusedSectionVars false
namespace Go.Proofs.YthnkfhfcgjoieaaGreatDoor
open Go.RowKit QM SX LA
attribute [local irreducible] IntKind.wrap Go1 Reg WP aJ aN bF bD aM aA ak aj aT Sat
attribute [local irreducible] bK bO bM bS bN qv bZ mf PrP qOk zOk vP dx lz vF rqv dI aX bG aV dN jn sq aW qS zS tS tbS plS mdS zmd jT jU zEv bI fDs fEv xgG xgS xgT
theorem auh:ah prog 66 [.v (str mD),.v (str (([32]++aen)++[32]))] (.v (.bool true)):=aO eU z6
theorem auH:ah prog 66 [.v (str aen),.v (str [32])] (.v (.bool false)):=aO zc z6
theorem aob{vs:List Vl}(hl:vs.length<=1000000)(hF:ah prog 65 [.agg (vlA (dz vs))] (.v (.bool true))):ah prog 46 [.v (str aen),.r (aB 15 vlE [dz vs])] (.tup [.agg (vlA (vI (vs.length:Int))),eNo 0]):=by
 have hN:yY aen:= .inr (.inr (.inr (.inr (.inr (.inr (.inr (.inr rfl)))))));obtain⟨z,w⟩:∃z:Int,ah prog 192 [.agg (vlA (dz vs))] (.tup [.agg (zN z),.one (.c (.val (.bool false)))]):=uU xL.1 xL.2 (fun h=>by have h':(6:Int)=1:=h;omega)
 refine lW (n0:=6) zc zc (zqc rfl) (F1 hF) auh auH (fun k f hk hg=>?_) (fun f hg'=>?_)
 ·match k,hk,hg with
  |0,_,hg=>cases hg;exact kV hN
  |1,_,hg=>cases hg;exact lu hN
  |2,_,hg=>cases hg;exact je hN
  |3,_,hg=>cases hg;exact gQ hN
  |4,_,hg=>cases hg;exact uJ ⟨fun h=>by have h':(6:Int)=4:=h;omega,fun h=>by have h':(6:Int)=5:=h;omega⟩
  |5,_,hg=>cases hg;exact mY (x:= .val (.slice none 0 0)) (w:=false) hN (zqc rfl) rfl (tC (vs:=[]) w (zqc rfl))
 ·cases hg';exact agz hl
end Go.Proofs.YthnkfhfcgjoieaaGreatDoor
set_option linter.unusedSectionVars false
namespace Go.Proofs.YthnkfhfcgjoieaaGreatDoor
open Go.RowKit QM SX LA
attribute [local irreducible] IntKind.wrap Go1 Reg WP aJ aN bF bD aM aA ak aj aT Sat
attribute [local irreducible] bK bO bM bS bN qv bZ mf PrP qOk zOk vP dx lz vF cq rqv dI aX bG aV dN jn sq aW qS zS tS tbS plS mdS zmd jT jU zEv bI fDs fEv xgG xgS xgT
theorem aeV{v:Rat}{K:Nat}(hv:RB v K)(h1:1<=K)(hK:K<=10000):ah prog 73 [.agg (bR ag9 [bW v])] (.agg (iW (bW (if v < 0 then -v else v)) 0 true)):=by
 have hv0:[bW v][0]? =some (bW v):=rfl;have a:=af3 ag9 v
 haveI r:=Ra.cq hv
 obtain⟨z,cS,z0,zn⟩:=asU (q4A (rq (cq v))) (v:=v) (K:=K) zE
 by_cases h:v < 0
 ·rw[if_pos h];have hz:=zn.2 h;have cN:ah prog 8 [.agg (q4A (rq (cq v)))] (.agg (qA (-v))):=aeG.h zE
  have cW:=jJ (q:=q4v (-v)) hv.neg.ra zE
  have cf:=mh (bW (-v));refine ah.fq func73 results73 ntmps73 fun w0 T B E0 hB=>?_
  refine zg ?_;refine fK ak.dW ?_;exact zv _
 ·rw[if_neg h];have hz:¬z < 0:=fun e=>h (zn.1 e)
  have cW:=jJ (q:=rq (cq v)) (Ra.cq hv) zE
  have cf:=mh (bW v);refine ah.fq func73 results73 ntmps73 fun w0 T B E0 hB=>?_
  refine zg ?_;refine fK ak.dW ?_;exact zv _
end Go.Proofs.YthnkfhfcgjoieaaGreatDoor
set_option linter.unusedSectionVars false
namespace Go.Proofs.YthnkfhfcgjoieaaGreatDoor
open Go.RowKit QM SX LA
def clC(p:Int×Int):List CA:=z2C (z2v p.1)++z2C (z2v p.2)
instance:eY clC 4:=⟨fun _=>rfl⟩
def eT(l:List (Int×Int)):mF:=jL 81 (fun _:Unit=>True) 84 (fun _=>[.own 92]) (fun _=>[(92,.row 82 4 l.length (l.flatMap clC))])
instance tStru_cl:afY prog 82:=⟨z6⟩
instance av5:vH prog 80 "Len" 41 false:=⟨z6⟩
instance aua:vH prog 80 "Less" 593 false:=⟨z6⟩
instance atU:vH prog 80 "Swap" 596 false:=⟨z6⟩
instance auv:vH prog 80 "Push" 595 true:=⟨z6⟩
instance avz:vH prog 80 "Pop" 594 true:=⟨z6⟩
attribute [local irreducible] IntKind.wrap Go1 Reg WP aJ aN bF bD aM aA ak aj aT Sat
attribute [local irreducible] bK bO bM bS bN qv bZ mf PrP qOk zOk vP dx lz vF cq rqv dI aX bG aV dN jn sq aW qS zS tS tbS plS mdS zmd jT jU zEv bI fDs fEv xgG xgS xgT
theorem uW(l:List (Int×Int))(hl:l.length<=1000):ah prog 41 [.r (aB 4 clC l)] (.v (.int .i64 (l.length:Int))):=by
 refine ah.fq func41 results41 ntmps41 fun _ _ _ _ _=>?_
 refine zg ?_;exact iw rfl
theorem aeA{l:List (Int×Int)}{i k K:Nat}{p q:Int×Int}(hi:l[i]? =some p)(hk:l[k]? =some q)(h1:p.2.natAbs < WB ^ K)(h2:q.2.natAbs < WB ^ K)(hK:K<=10000)(hl:l.length<=1000):
  ah prog 593 [.r (aB 4 clC l),.v (.int .i64 (i:Int)),.v (.int .i64 (k:Int))] (.v (.bool (decide (oq p.2 q.2 < 0)))):=by
 have li:=qJ hi;have lk:=qJ hk;have cC:ah prog 89 [.agg (z2A (z2v p.2)),.agg (z2A (z2v q.2))] (.v (.int .i64 (oq p.2 q.2))):=(aoh (h:=(ZQ.made h1).zi) (h':=(ZQ.made h2).zi)).h zE
 refine ah.fq func593 results593 ntmps593 fun _ _ _ _ _=>?_
 refine zg ?_;exact bf rfl
theorem afd{l:List (Int×Int)}{i k:Nat}{a b:Int×Int}(hi:l[i]? =some a)(hk:l[k]? =some b)(hl:l.length<=1000):aj prog 596 [.own 92,.v (.int .i64 (i:Int)),.v (.int .i64 (k:Int))] [(92,.row 82 4 l.length (l.flatMap clC))] ⟨.tup [],[(92,.ent (.row 82 4 l.length (((l.set i b).set k a).flatMap clC)))]⟩:=by
 have li:=qJ hi;have lk:=qJ hk;have ll:(l.set i b).length=l.length:=zvf ..;refine aj.fnA func596 results596 ntmps596 rfl rfl rfl rfl rfl rfl rfl rfl fun _ _ _ _ _=>?_
 refine zg ?_;exact gG (xs:=[]) trivial ⟨rfl,trivial⟩
end Go.Proofs.YthnkfhfcgjoieaaGreatDoor
set_option linter.unusedSectionVars false
namespace Go.Proofs.YthnkfhfcgjoieaaGreatDoor
open Go.RowKit QM SX LA
theorem wu{P:Program}{C:Ctx}{st:St}{Q:Exit->St->Prop}{cd:Code}{l:List (Int×Int)}(hb:st.hp 81= .ent (.abs (eT l)))(h2:st.hp 92= .free)(f2:C.fix 92=false)
  (h:WP P C cd (uR st 81 84 [.own 92] [(92,.row 82 4 l.length (l.flatMap clC))]) Q):WP P C cd st Q:=
 WP.agn (ι:=Unit) (b:=81) [92] hb (fun p=>rfl) (by intro i hi;simp at hi;subst hi;exact h2) (by intro i hi;simp at hi;subst hi;exact f2) (by intro p i hi;exact .inl (by simpa[Atom.ids]using hi)) (by intro p i e he;simp at he;obtain⟨rfl,rfl⟩:=he;rfl) (fun p hp=>h)
theorem oF{C:Ctx}{st:St}{l:List (Int×Int)}{cells0:List Atom}(ρ:List (Nat×Option Nat))(os:List Nat)(hb:st.hp 81= .ent (.box 84 cells0))
  (hc:nT ρ cells0 [.own 92]) (hR:aaE st ρ [(92,.row 82 4 l.length (l.flatMap clC))])
  (hos:(([(92,.row 82 4 l.length (l.flatMap clC))]:List (Nat×Ent)).all fun q=>match SX.src ρ q.1 with|some o=>jv os o|none=>true)=true) (hbo:jv os 81=false) (hdi:(([(92,.row 82 4 l.length (l.flatMap clC))]:List (Nat×Ent)).all fun q=>([(92,.row 82 4 l.length (l.flatMap clC))]:List (Nat×Ent)).all fun q'=>Nat.beq q.1 q'.1||!(eqO (SX.src ρ q.1) (SX.src ρ q'.1)))=true) (hfb:lk ρ 81=none:=by rfl):
  St.le C st (qw st 81 (eT l) os):=
 St.aaD (ι:=Unit) (b:=81) () ρ os trivial hb hc hR hos hbo hdi hfb
theorem ql:∀l:List (Int×Int),(l.flatMap clC).length=l.length*4
 |[]=>rfl
 |x::l=>by rw[zq7,zqi,ql l,zx6];show 4+_=_;omega
attribute [local irreducible] IntKind.wrap Go1 Reg WP aJ aN bF bD aM aA ak aj aT Sat
attribute [local irreducible] bK bO bM bS bN qv bZ mf PrP qOk zOk vP dx lz vF cq rqv dI aX bG aV dN jn sq aW qS zS tS tbS plS mdS zmd jT jU zEv bI fDs fEv xgG xgS xgT
theorem ahz{l:List (Int×Int)}{a:Int×Int}(hl:l.length<=100):aj prog 594 [.ptr 81 0] [(81,.abs (eT (l++[a])))] ⟨.r (kE 82 (clC a)),[(81,.ent (.abs (eT l)))]⟩:=by
 have ll:(l++[a]).length=l.length+1:=by rw[zqi];rfl
 have ha:(l++[a])[(l++[a]).length - 1]? =some a:=by rw[ll,Nat.add_sub_cancel,zv6 (zq6 _),Nat.sub_self];rfl
 have e3:((l++[a]).flatMap clC).take (((((l++[a]).length - 1:Nat):Int).toNat)*4)=l.flatMap clC:=by
  rw[zw8,ll,Nat.add_sub_cancel,zvc,List.take_append_of_le_length (by rw[ql];exact zq6 _)]
  exact zxc (by rw[ql];exact zq6 _)
 have e1:(((l++[a]).length:Nat):Int) - 1=((l.length:Nat):Int):=zE
 refine aj.fnA func594 results594 ntmps594 rfl rfl rfl rfl rfl rfl rfl rfl fun _ _ _ _ _=>?_
 refine wu rfl rfl rfl ?_;refine zg ?_;refine SX.G.aoH ?_;refine zg ?_;refine SX.G.atc ?_;refine zg ?_;refine aM.le (oF (l:=l) [(92,some 21)] [21] rfl ⟨aD.own rfl,trivial⟩ ⟨ay.row rfl rfl zE e3,trivial⟩ rfl rfl rfl) ?_
 exact gG (xs:=[.one (.c (.sat (kE 82 (clC a))))]) ⟨ak.tmp rfl,trivial⟩ ⟨rfl,trivial⟩
theorem afE{l:List (Int×Int)}{a:Int×Int}(hl:l.length<=100):aj prog 595 [.ptr 81 0,.r (kE 82 (clC a))] [(81,.abs (eT l))] ⟨.tup [],[(81,.ent (.abs (eT (l++[a]))))]⟩:=by
 refine aj.fnA func595 results595 ntmps595 rfl rfl rfl rfl rfl rfl rfl rfl fun _ _ _ _ _=>?_
 refine wu rfl rfl rfl ?_;refine zg ?_;refine SX.G.aeg ?_;refine zg ?_;refine aM.le (oF (l:=l++[a]) [(92,some 18)] [18] rfl ⟨aD.own rfl,trivial⟩ ⟨ay.row rfl rfl (by rw[zqi];rfl) (by rw[zvc];rfl),trivial⟩ rfl rfl rfl) ?_
 exact gG (xs:=[]) trivial ⟨rfl,trivial⟩
end Go.Proofs.YthnkfhfcgjoieaaGreatDoor
set_option linter.unusedSectionVars false
namespace Go.Proofs.YthnkfhfcgjoieaaGreatDoor
open Go.RowKit QM SX LA
abbrev hpV:AV:= .it (.one (.rel 81 (ifpR 80)))
attribute [local irreducible] IntKind.wrap Go1 Reg WP aJ aN bF bD aM aA ak aj aT Sat
attribute [local irreducible] bK bO bM bS bN qv bZ mf PrP qOk zOk vP dx lz vF cq rqv dI aX bG aV dN jn sq aW qS zS tS tbS plS mdS zmd jT jU zEv bI fDs fEv xgG xgS xgT
theorem pE{T:TypeId}{size n:Nat}{cells:List CA}(S:Nat->Prop)(w:World)(v:Value)(vs:List Value)(h1:w.ownsRow 0 T size v n vs)(h2:aK (CA.has S w) cells vs):(aQ size n cells).has (fun k=>S k/\v.ownBlock≠some k) w v:=
 as0 h1 (h2.mono fun a u _ ha=>ha.step (Off.refl S w) (fun k hk=> .inl hk.1)) fun k hk hS=>hS.2 hk
theorem aao(l:List (Int×Int))(hl:l.length<=1000):jd prog "Len" [hpV] [(81,.abs (eT l))] ⟨.v (.int .i64 (l.length:Int)),[(81,.ent (.abs (eT l)))]⟩:=
 Does.bun (R:=[(92,.row 82 4 l.length (l.flatMap clC))]) (R':=[(92,.row 82 4 l.length (l.flatMap clC))]) ail.mono
  (jd.ofV (t:=80) (c:=92) (aj.bor (uW l hl) rfl pE) zc rfl) zd rfl (by intro e he;simp at he)
theorem aqr{l:List (Int×Int)}{i k K:Nat}{p q:Int×Int}(hi:l[i]? =some p)(hk:l[k]? =some q)(h1:p.2.natAbs < WB ^ K)(h2:q.2.natAbs < WB ^ K)(hK:K<=10000)(hl:l.length<=1000):
  jd prog "Less" [hpV,.v (.int .i64 (i:Int)),.v (.int .i64 (k:Int))] [(81,.abs (eT l))] ⟨.v (.bool (decide (oq p.2 q.2 < 0))),[(81,.ent (.abs (eT l)))]⟩:=
 Does.bun (R:=[(92,.row 82 4 l.length (l.flatMap clC))]) (R':=[(92,.row 82 4 l.length (l.flatMap clC))]) ail.mono
  (jd.ofV (t:=80) (c:=92) (aj.bor (aeA hi hk h1 h2 hK hl) rfl pE) zc rfl) zd rfl (by intro e he;simp at he)
theorem aeZ{l:List (Int×Int)}{i k:Nat}{a b:Int×Int}(hi:l[i]? =some a)(hk:l[k]? =some b)(hl:l.length<=1000):
  jd prog "Swap" [hpV,.v (.int .i64 (i:Int)),.v (.int .i64 (k:Int))] [(81,.abs (eT l))] ⟨.tup [],[(81,.ent (.abs (eT ((l.set i b).set k a))))]⟩:=by
 have ll:((l.set i b).set k a).length=l.length:=by rw[zvf,zvf]
 have h:=Does.bun (b:=81) (t:=84) (cells:=[.own 92]) (cells':=[.own 92]) (R:=[(92,.row 82 4 l.length (l.flatMap clC))]) (R':=[(92,.row 82 4 l.length (((l.set i b).set k a).flatMap clC))]) ail.mono
  (jd.ofV (name:= "Swap") (t:=80) (b:=81) (c:=92) (T:=84) (afd hi hk hl) zc rfl) zd rfl (by intro e he;simp at he)
 rw[eT,eT,ll];exact h
theorem ai4{l:List (Int×Int)}{a:Int×Int}(hl:l.length<=100):jd prog "Pop" [hpV] [(81,.abs (eT (l++[a])))] ⟨.r (kE 82 (clC a)),[(81,.ent (.abs (eT l)))]⟩:=
 jd.ofP (t:=80) (ahz hl)
theorem aog{l:List (Int×Int)}{a:Int×Int}(hl:l.length<=100):jd prog "Push" [hpV,.r (kE 82 (clC a))] [(81,.abs (eT l))] ⟨.tup [],[(81,.ent (.abs (eT (l++[a]))))]⟩:=
 jd.ofP (t:=80) (afE hl)
end Go.Proofs.YthnkfhfcgjoieaaGreatDoor
set_option linter.unusedSectionVars false
namespace Go.Proofs.YthnkfhfcgjoieaaGreatDoor
open Go.RowKit QM SX LA
theorem w1h:IntKind.i64.wrap (((0:Int) - 1).tdiv 2)=0:=zc
theorem w10:IntKind.i64.wrap (IntKind.i64.wrap 1 - 1)=0:=zc
attribute [local irreducible] IntKind.wrap Go1 Reg WP aJ aN bF bD aM aA ak aj aT Sat
attribute [local simp] w10
attribute [local irreducible] bK bO bM bS bN qv bZ mf PrP qOk zOk vP dx lz vF cq rqv dI aX bG aV dN jn sq aW qS zS tS tbS plS mdS zmd jT jU zEv bI fDs fEv xgG xgS xgT eT
theorem acQ{l:List (Int×Int)}{n:Nat}(hn:n<=1):aj prog 62 [hpV,.v (.int .i64 0),.v (.int .i64 (n:Int))] [(81,.abs (eT l))] ⟨.v (.bool false),[(81,.ent (.abs (eT l)))]⟩:=by
 refine aj.fnA func62 results62 ntmps62 rfl rfl rfl rfl rfl rfl rfl rfl fun _ _ _ _ _=>?_
 refine zg ?_;refine W.loop (fun(k:Nat)=>k=0) (fun k=>[(0,hpV),(1,.v (.int .i64 0)),(2,.v (.int .i64 (n:Int))),(7,.v (.int .i64 0))]) (fun k=>[(81,.abs (eT l))]) (fun k=>0) 0 rfl (fun k hk=>?_)
 refine zg ?_;exact gG (xs:=[.one (.c (.val (.bool false)))]) ⟨ak.tmp rfl,trivial⟩ ⟨rfl,trivial⟩
theorem ald{a b:Int×Int}{K:Nat}(h1:b.2.natAbs < WB ^ K)(h2:a.2.natAbs < WB ^ K)(hK:K<=10000)(hc:¬oq b.2 a.2 < 0):aj prog 62 [hpV,.v (.int .i64 0),.v (.int .i64 2)] [(81,.abs (eT [a,b]))] ⟨.v (.bool false),[(81,.ent (.abs (eT [a,b])))]⟩:=by
 have hc':decide (oq b.2 a.2 < 0)=false:=decide_eq_false hc;have iL:=aqr (l:=[a,b]) (i:=1) (k:=0) rfl rfl h1 h2 hK zp
 rw[hc']at iL;refine aj.fnA func62 results62 ntmps62 rfl rfl rfl rfl rfl rfl rfl rfl fun _ _ _ _ _=>?_
 refine zg ?_;refine W.loop (fun(k:Nat)=>k=0) (fun k=>[(0,hpV),(1,.v (.int .i64 0)),(2,.v (.int .i64 2)),(7,.v (.int .i64 0))]) (fun k=>[(81,.abs (eT [a,b]))]) (fun k=>0) 0 rfl (fun k hk=>?_)
 refine zg ?_;refine SX.G.inv1 iL ?_;refine zg ?_;exact gG (xs:=[.one (.c (.val (.bool false)))]) ⟨ak.tmp rfl,trivial⟩ ⟨rfl,trivial⟩
theorem as9{l:List (Int×Int)}:aj prog 64 [hpV,.v (.int .i64 0)] [(81,.abs (eT l))] ⟨.tup [],[(81,.ent (.abs (eT l)))]⟩:=by
 have hq:=w1h;refine aj.fnA func64 results64 ntmps64 rfl rfl rfl rfl rfl rfl rfl rfl fun _ _ _ _ _=>?_
 refine zg ?_;refine W.loop (fun(k:Nat)=>k=0) (fun k=>[(0,hpV),(1,.v (.int .i64 0))]) (fun k=>[(81,.abs (eT l))]) (fun k=>0) 0 rfl (fun k hk=>?_)
 refine zg ?_;exact gG (xs:=[]) trivial ⟨rfl,trivial⟩
theorem akG{a b:Int×Int}{K:Nat}(h1:b.2.natAbs < WB ^ K)(h2:a.2.natAbs < WB ^ K)(hK:K<=10000)(hc:¬oq b.2 a.2 < 0):aj prog 40 [hpV] [(81,.abs (eT [a,b]))] ⟨.tup [],[(81,.ent (.abs (eT [a,b])))]⟩:=by
 have iN:jd prog "Len" [hpV] [(81,.abs (eT [a,b]))] ⟨.v (.int .i64 2),[(81,.ent (.abs (eT [a,b])))]⟩:=aao [a,b] zp
 have cD:=ald h1 h2 hK hc;refine aj.fnA func40 results40 ntmps40 rfl rfl rfl rfl rfl rfl rfl rfl fun _ _ _ _ _=>?_
 refine zg ?_;refine SX.G.inv1 iN ?_;refine zg ?_;refine W.loop (fun(k:Nat)=>k<=1) (fun k=>[(0,hpV),(2,.v (.int .i64 2)),(3,.v (.int .i64 ((k:Int) - 1)))]) (fun k=>[(81,.abs (eT [a,b]))]) (fun k=>k) 1 (zq6 _) (fun k hk=>?_)
 by_cases hk1:k=1
 ·subst hk1;refine zg ?_;exact W.next 0 zE zE
 ·have hk0:k=0:=zE
  subst hk0;refine zg ?_;exact gG (xs:=[]) trivial ⟨rfl,trivial⟩
theorem alD{a:Int×Int}:aj prog 44 [hpV,.r (kE 82 (clC a))] [(81,.abs (eT []))] ⟨.tup [],[(81,.ent (.abs (eT [a])))]⟩:=by
 have iP:=aog (l:=[]) (a:=a) zp
 have iN:jd prog "Len" [hpV] [(81,.abs (eT [a]))] ⟨.v (.int .i64 1),[(81,.ent (.abs (eT [a])))]⟩:=aao [a] zp
 have cU:=as9 (l:=[a]);refine aj.fnA func44 results44 ntmps44 rfl rfl rfl rfl rfl rfl rfl rfl fun _ _ _ _ _=>?_
 refine zg ?_;refine SX.G.inv1 iP ?_;refine zg ?_;refine SX.G.inv1 iN ?_;refine zg ?_;exact gG (xs:=[]) trivial ⟨rfl,trivial⟩
theorem akV{a b:Int×Int}:aj prog 63 [hpV] [(81,.abs (eT [a,b]))] ⟨.r (kE 82 (clC a)),[(81,.ent (.abs (eT [b])))]⟩:=by
 have iN:jd prog "Len" [hpV] [(81,.abs (eT [a,b]))] ⟨.v (.int .i64 2),[(81,.ent (.abs (eT [a,b])))]⟩:=aao [a,b] zp
 have iS:jd prog "Swap" [hpV,.v (.int .i64 0),.v (.int .i64 1)] [(81,.abs (eT [a,b]))] ⟨.tup [],[(81,.ent (.abs (eT [b,a])))]⟩:=aeZ (l:=[a,b]) (i:=0) (k:=1) rfl rfl zp
 have cD:=acQ (l:=[b,a]) (n:=1) zE
 have iP:jd prog "Pop" [hpV] [(81,.abs (eT [b,a]))] ⟨.r (kE 82 (clC a)),[(81,.ent (.abs (eT [b])))]⟩:=ai4 (l:=[b]) (a:=a) zp
 refine aj.fnA func63 results63 ntmps63 rfl rfl rfl rfl rfl rfl rfl rfl fun _ _ _ _ _=>?_
 refine zg ?_;refine SX.G.inv1 iN ?_;refine zg ?_;refine SX.G.inv1 iS ?_;refine zg ?_;refine SX.G.inv1 iP ?_;refine zg ?_;exact gG (xs:=[.one (.c (.sat (kE 82 (clC a))))]) ⟨ak.tmp rfl,trivial⟩ ⟨rfl,trivial⟩
theorem amc{a:Int×Int}:aj prog 63 [hpV] [(81,.abs (eT [a]))] ⟨.r (kE 82 (clC a)),[(81,.ent (.abs (eT [])))]⟩:=by
 have iN:jd prog "Len" [hpV] [(81,.abs (eT [a]))] ⟨.v (.int .i64 1),[(81,.ent (.abs (eT [a])))]⟩:=aao [a] zp
 have iS:jd prog "Swap" [hpV,.v (.int .i64 0),.v (.int .i64 0)] [(81,.abs (eT [a]))] ⟨.tup [],[(81,.ent (.abs (eT [a])))]⟩:=aeZ (l:=[a]) (i:=0) (k:=0) rfl rfl zp
 have cD:=acQ (l:=[a]) (n:=0) zE
 have iP:jd prog "Pop" [hpV] [(81,.abs (eT [a]))] ⟨.r (kE 82 (clC a)),[(81,.ent (.abs (eT [])))]⟩:=ai4 (l:=[]) (a:=a) zp
 refine aj.fnA func63 results63 ntmps63 rfl rfl rfl rfl rfl rfl rfl rfl fun _ _ _ _ _=>?_
 refine zg ?_;refine SX.G.inv1 iN ?_;refine zg ?_;refine SX.G.inv1 iS ?_;refine zg ?_;refine SX.G.inv1 iP ?_;refine zg ?_;exact gG (xs:=[.one (.c (.sat (kE 82 (clC a))))]) ⟨ak.tmp rfl,trivial⟩ ⟨rfl,trivial⟩
end Go.Proofs.YthnkfhfcgjoieaaGreatDoor
set_option linter.unusedSectionVars false
namespace Go.Proofs.YthnkfhfcgjoieaaGreatDoor
open Go.RowKit QM SX LA
abbrev clA(p:Int×Int):List Atom:=z2A (z2v p.1)++z2A (z2v p.2)
theorem xg1{m:Int}(hm:1 < m):xgx 1 m=1:=by
 obtain⟨h1,h2,h3,h4⟩:=akn (x:=1) (y:=m) zE
 have g:(Int.gcd 1 m:Int)=1:=by rw[Int.gcd_one_left];rfl
 rw[g]at h3 h4;have e:eZ (m.natAbs:Int) 1=m:=by rw[sF zc (Int.one_dvd _),Int.tdiv_one];omega
 rw[e]at h3;have h5:xgx 1 m+m*xgy 1 m=1:=by rw[Int.mul_comm m];omega
 generalize xgx 1 m=x at*;generalize xgy 1 m=y at*;have hy0:¬1<=y:=fun h=>by have:=Int.mul_le_mul_of_nonneg_left h (show (0:Int)<=m by omega);omega
 have hy1:¬y<= -1:=fun h=>by have:=Int.mul_le_mul_of_nonneg_left h (show (0:Int)<=m by omega);omega
 have:y=0:=zE
 subst this;omega
theorem xg11:(xgx 1 1).natAbs < WB ^ 1:=by
 obtain⟨h1,h2,h3,h4⟩:=akn (x:=1) (y:=1) zE
 have e:eZ ((1:Int).natAbs:Int) (Int.gcd 1 1:Int)=1:=zc
 rw[e]at h3;rw[show xgx 1 1=0 by omega,zxh];exact aZ
attribute [local irreducible] IntKind.wrap Go1 Reg WP aJ aN bF bD aM aA ak aj aT Sat
attribute [local irreducible] bK bO bM bS bN qv bZ mf PrP qOk zOk vP dx lz vF cq rqv dI aX bG aV dN jn sq aW qS zS tS tbS plS mdS zmd jT jU zEv bI fDs fEv xgG xgS xgT eT
theorem ahl{a b:Int×Int}:aj prog 42 [.ptr 81 0] [(81,.abs (eT [a,b]))] ⟨.agg (clA a),[(81,.ent (.abs (eT [b])))]⟩:=by
 have cP:=akV (a:=a) (b:=b);refine aj.fnA func42 results42 ntmps42 rfl rfl rfl rfl rfl rfl rfl rfl fun _ _ _ _ _=>?_
 refine zg ?_;refine SX.G.akh ?_;refine zg ?_;refine SX.G.aeg ?_;refine zg ?_;exact gG (xs:=[.agg (clA a)]) ⟨ak.rV rfl rfl rfl,trivial⟩ ⟨rfl,trivial⟩
theorem agU{a:Int×Int}:aj prog 42 [.ptr 81 0] [(81,.abs (eT [a]))] ⟨.agg (clA a),[(81,.ent (.abs (eT [])))]⟩:=by
 have cP:=amc (a:=a);refine aj.fnA func42 results42 ntmps42 rfl rfl rfl rfl rfl rfl rfl rfl fun _ _ _ _ _=>?_
 refine zg ?_;refine SX.G.akh ?_;refine zg ?_;refine SX.G.aeg ?_;refine zg ?_;exact gG (xs:=[.agg (clA a)]) ⟨ak.rV rfl rfl rfl,trivial⟩ ⟨rfl,trivial⟩
theorem aqB{z o r m:Int}{K:Nat}(hz:z=0)(ho:o=1)(hr0:0<=r)(hrm:r < m)(hm:1<=m)(hb:m.natAbs < WB ^ K)(hK:K<=10000):
  ah prog 43 [.agg (clA (z,o)),.agg (clA (r,m))] (.tup [.agg (clA (r,m)),.one (.c (.val (.bool true)))]):=by
 have hb':r.natAbs < WB ^ K:=zE
 have hB1:(1:Int).natAbs < WB ^ 1:=by rw[zxh];exact oo
 have hB0:(0:Int).natAbs < WB ^ 1:=by rw[zxh];exact aZ
 have bo:o.natAbs < WB ^ 1:=by rw[ho];exact hB1
 have bz:z.natAbs < WB ^ 1:=by rw[hz];exact hB0
 have iz:=(ZQ.made bz).zi;have io:=(ZQ.made bo).zi;have ir:=(ZQ.made hb').zi;have im:=(ZQ.made hb).zi;have i1:=(ZQ.made hB1).zi;have g1:(Int.gcd o m:Int)=1:=by rw[ho,Int.gcd_one_left];rfl
 obtain⟨s,g2,hs1,hs2⟩:∃s,xgx o m=s/\r*s=r/\s.natAbs < WB ^ 1:=by
  by_cases h1:m=1
  ·exact⟨_,rfl,by rw[show r=0 by omega,Int.zero_mul],by rw[h1,ho];exact xg11⟩
  ·exact⟨1,by rw[ho];exact xg1 zE,Int.mul_one r,hB1⟩
 have is:=(ZQ.made hs2).zi;have cX:=amT (h:=io) (h':=im) zE
 rw[g1,g2]at cX;have cS:ah prog 31 [.agg (z2A (z2v r)),.agg (z2A (z2v z))] (.agg (zN r)):=by
  have h:=(afl (h:=ir) (h':=iz)).h zE
  have e:r - z=r:=zE
  rwa [e]at h
 have cE1:ah prog 29 [.agg (zN r),.agg (zN 1)] (.tup [.agg (zN r),.one (.c (.val (.bool true)))]):=by
  have h:=(ab4 (h:=ir) (h':=i1)).h zE
  rwa [xq zc (Int.one_dvd _),sF zc (Int.one_dvd _),Int.tdiv_one]at h
 have cE2:ah prog 29 [.agg (z2A (z2v m)),.agg (zN 1)] (.tup [.agg (zN m),.one (.c (.val (.bool true)))]):=by
  have h:=(ab4 (h:=im) (h':=i1)).h zE
  rwa [xq zc (Int.one_dvd _),sF zc (Int.one_dvd _),Int.tdiv_one]at h
 have cM1:ah prog 32 [.agg (zN r),.agg (zN s)] (.agg (zN r)):=by
  have h:=(rG (h:=ir) (h':=is)).h zE
  rwa [hs1]at h
 have cR1:ah prog 34 [.agg (zN r),.agg (zN m)] (.agg (zN r)):=by
  have h:=mU (h:=ir) (h':=im) zE zE
  rwa [Int.emod_eq_of_lt hr0 hrm]at h
 have cM2:ah prog 32 [.agg (z2A (z2v o)),.agg (zN m)] (.agg (zN m)):=by
  have h:=(rG (h:=io) (h':=im)).h zE
  have e:o*m=m:=by rw[ho,Int.one_mul]
  rwa [e]at h
 have cM3:ah prog 32 [.agg (z2A (z2v o)),.agg (zN r)] (.agg (zN r)):=by
  have h:=(rG (h:=io) (h':=ir)).h zE
  have e:o*r=r:=by rw[ho,Int.one_mul]
  rwa [e]at h
 have cA:ah prog 53 [.agg (z2A (z2v z)),.agg (zN r)] (.agg (zN r)):=by
  have h:=(aqk (h:=iz) (h':=ir)).h zE
  have e:z+r=r:=zE
  rwa [e]at h
 refine ah.fq func43 results43 ntmps43 fun _ _ _ _ _=>?_
 refine zg ?_;exact .ok (aA.mk2 ak.rV (ak.tmp rfl))
end Go.Proofs.YthnkfhfcgjoieaaGreatDoor
set_option linter.unusedSectionVars false
namespace Go.Proofs.YthnkfhfcgjoieaaGreatDoor
open Go.RowKit QM SX LA
theorem St.le_th{C:Ctx}{s t u:St}(h:St.le C s t)(h':St.le C t u):St.le C s u:=fun a w x=>h' a w (h a w x)
theorem ay.rowI{st:St}{ρ:List (Nat×Option Nat)}{o b:Nat}{t:TypeId}{size n n':Nat}{cells cells':List CA}(h:st.hp o= .ent (.row t size n cells))(hb:lk ρ b=some (some o))(hn:n=n')(hc:∀S w vs,aK (CA.has S w) cells vs->aK (CA.has S w) cells' vs):ay st ρ b (.row t size n' cells'):=by
 subst hn;refine .old o _ h (.inl hb) (fun E S w hh=>?_) (fun E=>?_)
 ·obtain⟨vs,h1,h2⟩:=hh;exact⟨vs,by simp only[eG,hb];exact h1,hc S w vs h2⟩
 ·funext k;simp only[Ent.at,eG,hb]
section
variable{P:Program}{C:Ctx}{st:St}
variable{ops rest:List Oper}{acc:List (List Nat×List Nat)}{K:List (List Nat×List Nat)->St->Prop}{dst:Option Tmp}{d:Tmp}{op:Op}{ty:TypeId}{x y:Operand}
theorem G.asW{fx:Operand}{f:FuncId}{b:Nat}{az:Array Operand}{tys:Array TypeId}{args:List AV}{e e':Ent}{r:AV}(hc:aj P f args [(b,e)] ⟨r,[(b,.ent e')]⟩)
  (next:Reg P C ops rest (st.app dst ⟨r,[(b,.ent e')]⟩) (([b],[b])::acc) K) (hd:aC dst C.nt=true:=by rfl) (hf:st.ev fx=some (.it (.one (.clo f []))):=by rfl) (ha:evs st az.toList=some args:=by rfl) (hb:st.hp b= .ent e:=by rfl) (hr:r.ids=[]:=by rfl) (he:e'.ids=[]:=by rfl):Go1 P C ops dst (.call ⟨.value fx,az,tys⟩) ty rest st acc K:=
 Go1.aau (fp:=[b]) (cap:=[]) hd hf ha (by simpa using hc) (fun i u hi=>by simp at hi;obtain⟨rfl,rfl⟩:=hi;exact⟨hb,_,zq9⟩) (fun i s hi=>by simp at hi;obtain⟨rfl,rfl⟩:=hi;exact .inl ⟨_,zq9⟩) (fun i s hi=>by simp at hi;rw[hi.2];rfl) (fun i s hi=>by simp at hi;simp[hi.1])
  (fun i hi=>by
   rcases hi with hi|⟨b',u,hb',hi⟩
   ·rw[hr]at hi;cases hi
   ·simp at hb';obtain⟨rfl,rfl⟩:=hb';rw[he]at hi;cases hi) next
end
theorem apa:aF (.c (.val (.slice none 0 0))) (.c (.sat (bU (0:Int).natAbs))):=fun E S w v h=>by
 rw[show v= .slice none 0 0 from h];exact bU.zero
theorem ak8(S:Nat->Prop)(w:World)(vs:List Value)(h:aK (CA.has S w) [.val (.bool false),.val (.slice none 0 0),.val (.bool false),.sat (bU 1)] vs):aK (CA.has S w) (clC (0,1)) vs:=by
 match vs,h with
 |[a,b,c,d],⟨h1,h2,h3,h4,_⟩=>
  refine⟨h1,?_,h3,h4,trivial⟩;show (bU 0).has S w b;rw[show b= .slice none 0 0 from h2];exact bU.zero
attribute [local irreducible] IntKind.wrap Go1 Reg WP aJ aN bF bD aM aA ak aj aT Sat
attribute [local irreducible] bK bO bM bS bN qv bZ mf PrP qOk zOk vP dx lz vF cq rqv dI aX bG aV dN jn sq aW qS zS tS tbS plS mdS zmd jT jU zEv bI fDs fEv xgG xgS xgT eT
theorem adU{l l':List Atom}{x y:Int}{k m:Nat}[h:ZI l x k][h':ZI l' y m](hy:y<=0)(hk:k+m<=1000000):ah prog 39 [.agg l,.agg l'] (.tup [.agg [.c (.val (.bool false)),.c (.val (.slice none 0 0))],.one (.c (.val (.bool false)))]):=by
 refine z2 ⟨_,func39,rfl,rfl⟩ fun neg n neg2 n2 hz hz2 hn hn2=>?_
 have cS:=jQ (l:=zR neg2 n2 m) (z:=sgn neg2 n2) (k:=m) zE
 rw[<-hz2]at cS;have hs:aS y<=0:=by unfold aS;split <;> (try split) <;> omega
 refine ah.fq func39 results39 ntmps39 fun _ _ _ _ _=>?_
 refine zg ?_;exact .ok (aA.mk2 ak.dP (ak.tmp rfl))
theorem afK{qa qb:Z2}{x m:Int}{K:Nat}(ha:ZQ qa x K)(hb:ZQ qb m K)(hm:1<=m)(hK:K<=10000)(h1K:1<=K)(hq:ZQ (false,qb.2) m K):
  ah prog 12 [.r (aB 2 z2C [qa]),.r (aB 2 z2C [qb])] (.tup [.agg (zN (x % m)),.agg (zN m),.one (.c (.val (.int .i64 0)))]):=by
 obtain⟨r,hr⟩:∃r,r=x % m:=⟨_,rfl⟩;have hr0:0<=r:=by rw[hr];exact Int.emod_nonneg _ zE
 have hrm:r < m:=by rw[hr];exact Int.emod_lt_of_pos _ zE
 have hbm:=hb.b;have h1b:(1:Int).natAbs < WB ^ K:=zqf (show (1:Int).natAbs < WB ^ 1 by rw[zxh];exact oo) (zx2 aZ h1K)
 have cM:=yV (h:=ha.zi) (h':=hb.zi) zE zE
 rw[<-hr]at cM ⊢;have cF:=adV hq zE
 have hic:¬oq m 1 < 0:=by unfold oq;split <;> (try split) <;> omega
 have cI:=akG (a:=(0,1)) (b:=(r,m)) (K:=K) hbm h1b hK hic;have cL2:=ahl (a:=(0,1)) (b:=(r,m));have cL1:=agU (a:=(r,m));have cme:=aqB (z:=0) (o:=1) (r:=r) (m:=m) rfl rfl hr0 hrm hm hbm hK;have cP:=alD (a:=(r,m));have nm:Named 28 81:=⟨⟩;have mark:uY 27:=⟨⟩;have ea:[qa][0]? =some qa:=rfl;have eb:[qb][0]? =some qb:=rfl;refine ah.fq func12 results12 ntmps12 fun _ _ _ _ _=>?_
 refine zg ?_;refine W.loop (fun(k:Nat)=>k<=1) (fun k=>[(0,.r (aB 2 z2C [qa])),(4,.ptr 4 0),(5,.ptr 5 0),(7,.ptr 81 0),(29,.r (aB 2 z2C [qb])),(30,.v (.int .i64 1)),(31,.v (.int .i64 (k:Int)))]) (fun k=>(4,.box 25 [.c (.val (.bool false)),.c (.val (.slice none 0 0))])::(5,.box 25 [.c (.val (.bool false)),.c (.val (.slice none 0 0))])::(match k with|0=>[(81,.box 84 [.own 100]),(100,.row 82 4 1 (clC (0,1)))]|_+1=>[(81,.abs (eT [(0,1),(r,m)]))])) (fun k=>1 - k) 0 zE (fun k hk=>?_)
  (by
   refine St.bV [(100,some 27)] zt ?_ ?_ rfl
   ·exact yd
   ·exact⟨ay.same rfl rfl,ay.same rfl rfl,ay.nW rfl rfl ⟨aD.own rfl,trivial⟩,ay.rowI rfl rfl rfl ak8,trivial⟩)
 match k,hk with
 |0,_=>
  refine zg ?_;exact W.next 1 zE zE (by
   refine St.le_th (oF (l:=[(0,1),(r,m)]) [(92,some 59)] [59] rfl ⟨aD.own rfl,trivial⟩ ⟨ay.row rfl rfl rfl rfl,trivial⟩ rfl rfl rfl) ?_;exact W.le)
 |1,_=>
  refine zg ?_;refine SX.G.akh ?_;refine zg ?_;obtain⟨n2,hn2⟩:∃n:Int,Hide (n=2):=⟨2,⟨rfl⟩⟩;obtain⟨n1,hn1⟩:∃n:Int,Hide (n=1):=⟨1,⟨rfl⟩⟩;refine W.loop (fun(k:Nat)=>k<=1) (fun k=>[(4,.ptr 4 0),(5,.ptr 5 0),(7,.ptr 81 0)]) (fun k=>(4,.box 25 [.c (.val (.bool false)),.c (.val (.slice none 0 0))])::(5,.box 25 [.c (.val (.bool false)),.c (.val (.slice none 0 0))])::(match k with|0=>[(81,.abs (eT [(0,1),(r,m)]))]|_+1=>[(81,.abs (eT [(r,m)]))])) (fun k=>1 - k) 0 zE (fun k hk=>?_)
  match k,hk with
  |0,_=>
   have cN:aj prog 41 [.own 92] [(92,.row 82 4 [((0:Int),(1:Int)),(r,m)].length ([(0,1),(r,m)].flatMap clC))] ⟨.v (.int .i64 n2),[(92,.ent (.row 82 4 [((0:Int),(1:Int)),(r,m)].length ([(0,1),(r,m)].flatMap clC)))]⟩:=aj.bor (by rw[hn2.out];exact uW [(0,1),(r,m)] zp) rfl pE
   refine wu rfl rfl rfl ?_;refine zg ?_;refine G.asW cN ?_;refine zg ?_;refine WP.aoX rfl (decide_eq_true (show n2 > 1 by rw[hn2.out];decide)) ?_
   refine WP.weaken (oF (l:=[(0,1),(r,m)]) [(92,some 92)] [92] rfl ⟨aD.own rfl,trivial⟩ ⟨ay.row rfl rfl rfl rfl,trivial⟩ rfl rfl rfl) ?_;refine zg ?_;refine SX.G.akh ?_;refine zg ?_;refine SX.G.atc ?_;refine zg ?_;exact W.next 1 zE zE
  |1,_=>
   have cN:aj prog 41 [.own 92] [(92,.row 82 4 [(r,m)].length ([(r,m)].flatMap clC))] ⟨.v (.int .i64 n1),[(92,.ent (.row 82 4 [(r,m)].length ([(r,m)].flatMap clC)))]⟩:=aj.bor (by rw[hn1.out];exact uW [(r,m)] zp) rfl pE
   refine wu rfl rfl rfl ?_;refine zg ?_;refine G.asW cN ?_;refine zg ?_;refine WP.ap8 rfl (decide_eq_false (show¬n1 > 1 by rw[hn1.out];decide)) ?_
   refine WP.weaken (oF (l:=[(r,m)]) [(92,some 92)] [92] rfl ⟨aD.own rfl,trivial⟩ ⟨ay.row rfl rfl rfl rfl,trivial⟩ rfl rfl rfl) ?_;refine zg ?_;exact .ok (aA.mk3 ak.dP ak.dP (ak.tmp rfl))
theorem ace{qa qb:Z2}{x m:Int}{K:Nat}(ha:ZQ qa x K)(hb:ZQ qb m K)(hm:m<=0)(hK:K<=10000):
  ah prog 12 [.r (aB 2 z2C [qa]),.r (aB 2 z2C [qb])] (.tup [.agg (zN 0),.agg (zN 0),.one (.c (.val (.int .i64 1)))]):=by
 have cM:=adU (h:=ha.zi) (h':=hb.zi) zE zE
 have nm:Named 28 81:=⟨⟩;have mark:uY 27:=⟨⟩;have ea:[qa][0]? =some qa:=rfl;have eb:[qb][0]? =some qb:=rfl;refine ah.fq func12 results12 ntmps12 fun _ _ _ _ _=>?_
 refine zg ?_;refine W.loop (fun(k:Nat)=>k=0) (fun k=>[(0,.r (aB 2 z2C [qa])),(4,.ptr 4 0),(5,.ptr 5 0),(29,.r (aB 2 z2C [qb])),(30,.v (.int .i64 1)),(31,.v (.int .i64 (k:Int)))]) (fun k=>[(4,.box 25 [.c (.val (.bool false)),.c (.val (.slice none 0 0))]),(5,.box 25 [.c (.val (.bool false)),.c (.val (.slice none 0 0))])]) (fun k=>0) 0 rfl (fun k hk=>?_)
 subst hk;refine zg ?_;exact uz ak.dP ak.dP (ak.tmp rfl) (jA ⟨aF.refl _,apa,trivial⟩) (jA ⟨aF.refl _,apa,trivial⟩) (zv _)
end Go.Proofs.YthnkfhfcgjoieaaGreatDoor
set_option linter.unusedSectionVars false
namespace Go.Proofs.YthnkfhfcgjoieaaGreatDoor
open Go.RowKit QM SX LA
attribute [local irreducible] IntKind.wrap Go1 Reg WP aJ aN bF bD aM aA ak aj aT Sat
attribute [local irreducible] bK bO bM bS bN qv bZ mf PrP qOk zOk vP dx lz vF cq rqv dI aX bG aV dN jn sq aW qS zS tS tbS plS mdS zmd jT jU zEv bI fDs fEv xgG xgS xgT eT
theorem vO{x:Int}{K:Nat}(hx:x.natAbs < WB ^ K)(h1:1<=K)(hK:K<=100000):ah prog 269 [.agg (vlA (dz [vI x]))] (.tup [.one (.c (.sat (aB 2 z2C [z2v x]))),.one (.c (.val (.bool true)))]):=by
 have hv:[vI x][0]? =some (vI x):=rfl;have e:(dz [vI x]).li=[vI x]:=rfl;have cw:=wh_vI hx h1 hK;refine ah.fq func269 results269 ntmps269 fun _ _ _ _ hB=>?_
 refine zg ?_;refine W.loop (fun(k:Nat)=>k<=1) (fun k=>[(4,.own 100),(10,.r (aB 15 vlE [vI x])),(11,.v (.int .i64 1)),(12,.v (.int .i64 (k:Int)))]) (fun k=>[(100,.row 25 2 k (((([x]:List Int).take k).map z2v).flatMap z2C))]) (fun k=>1 - k) 0 (zq8 _) (fun k hk=>?_)
  (by
   refine St.bV [(100,none)] zt ?_ ?_ rfl
   ·exact ye
   ·exact⟨ay.dZ rfl,trivial⟩)
 match k,hk with
 |0,_=>
  refine zg ?_;refine W.next 1 zE zE (by
   refine St.bV [(100,some 26)] zt ?_ ?_ rfl
   ·exact yb
   ·exact⟨ay.row rfl rfl rfl rfl,trivial⟩)
 |1,_=>
  refine WP.freeze 100 hB rfl ?_;refine zg ?_;exact .ok (aA.mk2 (ak.tmp rfl) (ak.tmp rfl))
theorem acO(u v:Vl):ah prog 105 [.r (aQ 15 2 (vlE u++vlE v))] (.agg (vlA (dz [u,v]))):=by
 have e:aQ 15 2 (vlE u++vlE v)=aB 15 vlC [u,v]:=by
  show _=aQ 15 2 (vlC u++(vlC v++[]));rw[yH,yH,zqb]
 have eA:aF (.c (.sat (aQ 15 2 (vlE u++vlE v)))) (.c (.sat (aB 15 vlC [u,v]))):=by rw[e];exact aF.refl _
 refine ah.fq func105 results105 ntmps105 fun _ _ _ _ _=>?_
 refine zg ?_;refine fK ak.gL ?_;exact jA ⟨aF.refl _,aF.refl _,aF.qU,aF.refl _,aF.qU,aF.refl _,aF.refl _,aF.nil,aF.nil,aF.refl _,aF.refl _,aF.refl _,aF.nil,aF.nil,eA,trivial⟩
theorem alO{x y r:Int}{K:Nat}(hx:x.natAbs < WB ^ K)(hy:y.natAbs < WB ^ K)(h1:1<=K)(hK:K<=10000)(hp:1<=y)(hr:r=x % y):ah prog 151 [.agg (vlA (dz [vI x])),.agg (vlA (dz [vI y]))] (.agg (iW (dz [vI r,vI y]) 0 true)):=by
 have hq:ZQ (false,(z2v y).2) y K:=by have h:=ZQ.made hy;rwa [show z2v y=(false,(z2v y).2)by show (decide (y < 0),_)=_;rw[decide_eq_false zE]]at h
 have hrb:r.natAbs < WB ^ K:=by rw[hr];exact qm zE hy
 have cx:=vO hx h1 zE
 have cy:=vO hy h1 zE
 have cC:=afK (ZQ.made hx) (ZQ.made hy) hp hK h1 hq;rw[<-hr]at cC;have w1:ah prog 6 [.agg (zN r)] (.agg (vlA (vI r))):=dY (q:=z2v r) (ZQ.made hrb) h1 zE
 have w2:ah prog 6 [.agg (zN y)] (.agg (vlA (vI y))):=dY (q:=z2v y) (ZQ.made hy) h1 zE
 have cL:=acO (vI r) (vI y);have cD:=sP (dz [vI r,vI y]);refine ah.fq func151 results151 ntmps151 fun _ _ _ _ _=>?_
 refine zg ?_;refine fK ak.dW ?_;exact zv _
theorem aii{x y:Int}{K:Nat}(hx:x.natAbs < WB ^ K)(hy:y.natAbs < WB ^ K)(h1:1<=K)(hK:K<=10000)(hp:y<=0):ah prog 151 [.agg (vlA (dz [vI x])),.agg (vlA (dz [vI y]))] (.agg (iW v0 1 true)):=by
 have h0:(0:Int).natAbs < WB ^ 1:=by rw[zxh];exact aZ
 have cx:=vO hx h1 zE
 have cy:=vO hy h1 zE
 have cC:=ace (ZQ.made hx) (ZQ.made hy) hp hK;have w1:ah prog 6 [.agg (zN 0)] (.agg (vlA (vI 0))):=dY (q:=z2v 0) (ZQ.made h0) (zq6 1) zc
 have cL:=acO (vI 0) (vI 0);have cD:ah prog 104 [.agg (vlA (dz [vI 0,vI 0])),.v (.int .i64 1)] (.agg (iW v0 1 true)):=by
  have hne:(1:Int)≠0:=zc
  refine ah.fq func104 results104 ntmps104 fun w0 T B E0 hB=>?_
  refine zg ?_;refine fK ak.dW ?_;exact jA ⟨aF.refl _,aF.refl _,aF.qU,aF.refl _,aF.qU,aF.refl _,aF.refl _,aF.nil,aF.nil,aF.refl _,aF.refl _,aF.refl _,aF.nil,aF.nil,aF.nil,aF.refl _,aF.refl _,trivial⟩
 refine ah.fq func151 results151 ntmps151 fun w0 T B E0 hB=>?_
 refine zg ?_;refine fK ak.dW ?_;exact zv _
end Go.Proofs.YthnkfhfcgjoieaaGreatDoor
set_option linter.unusedSectionVars false
namespace Go.Proofs.YthnkfhfcgjoieaaGreatDoor
open Go.RowKit QM SX LA
attribute [local irreducible] IntKind.wrap Go1 Reg WP aJ aN bF bD aM aA ak aj aT Sat
attribute [local irreducible] bK bO bM bS bN qv bZ mf PrP qOk zOk vP dx lz vF cq rqv dI aX bG aV dN jn sq aW qS zS tS tbS plS mdS zmd jT jU zEv bI fDs fEv xgG xgS xgT eT
theorem anQ(x y:List Vl):ah prog 94 [.agg (bR wF [dz x,dz y]),.v (str wF),.v (str [108,108])] (.v (.bool true)):=
 oz (fun _=>true) rfl (zqc rfl) fun i u hv=>by
  match i,hv with
  |0,hv=>
   cases hv;have h:=uV (dz x);rw[decide_eq_true rfl]at h;exact h
  |1,hv=>
   cases hv;have h:=uV (dz y);rw[decide_eq_true rfl]at h;exact h
theorem afU{x y r:Int}{K:Nat}(hx:x.natAbs < WB ^ K)(hy:y.natAbs < WB ^ K)(h1:1<=K)(hK:K<=10000)(hp:1<=y)(hr:r=x % y):ah prog 73 [.agg (bR wF [dz [vI x],dz [vI y]])] (.agg (iW (dz [vI r,vI y]) 0 true)):=by
 have h0:[dz [vI x],dz [vI y]][0]? =some (dz [vI x]):=rfl;have h1':[dz [vI x],dz [vI y]][1]? =some (dz [vI y]):=rfl;have a:=anQ [vI x] [vI y];have cR:=alO hx hy h1 hK hp hr;refine ah.fq func73 results73 ntmps73 fun _ _ _ _ _=>?_
 refine zg ?_;refine fK ak.dW ?_;exact zv _
theorem adH{x y:Int}{K:Nat}(hx:x.natAbs < WB ^ K)(hy:y.natAbs < WB ^ K)(h1:1<=K)(hK:K<=10000)(hp:y<=0):ah prog 73 [.agg (bR wF [dz [vI x],dz [vI y]])] (.agg (iW v0 1 true)):=by
 have h0:[dz [vI x],dz [vI y]][0]? =some (dz [vI x]):=rfl;have h1':[dz [vI x],dz [vI y]][1]? =some (dz [vI y]):=rfl;have a:=anQ [vI x] [vI y];have cR:=aii hx hy h1 hK hp;refine ah.fq func73 results73 ntmps73 fun _ _ _ _ _=>?_
 refine zg ?_;refine fK ak.dW ?_;exact zv _
end Go.Proofs.YthnkfhfcgjoieaaGreatDoor
set_option linter.unusedSectionVars false
namespace Go.Proofs.YthnkfhfcgjoieaaGreatDoor
open Go.RowKit QM SX LA
attribute [local irreducible] IntKind.wrap Go1 Reg WP aJ aN bF bD aM aA ak aj aT Sat
attribute [local irreducible] bK bO bM bS bN qv bZ mf PrP qOk zOk vP dx lz vF rqv dI aX bG aV dN jn sq aW qS zS tS tbS plS mdS zmd jT jU zEv bI fDs fEv xgG xgS xgT
theorem ao3:ah prog 66 [.v (str mD),.v (str (([32]++wF)++[32]))] (.v (.bool true)):=aO eU z6
theorem aq5:ah prog 66 [.v (str wF),.v (str [32])] (.v (.bool false)):=aO zc z6
theorem iR:yY wF:= .inr (.inr (.inr (.inr (.inr (.inr (.inr (.inl rfl)))))))
theorem apE{x y:Int}{v:Vl}(hF:∀u∈[dz [vI x],dz [vI y]],ah prog 65 [.agg (vlA u)] (.v (.bool true)))
  (hg':ah prog 73 [.agg (bR wF [dz [vI x],dz [vI y]])] (.agg (iW v 0 true))):ah prog 46 [.v (str wF),.r (aB 15 vlE [dz [vI x],dz [vI y]])] (.tup [.agg (vlA v),eNo 0]):=by
 obtain⟨z,hz⟩:=uU (v:=dz [vI x]) xL.1 xL.2 (fun h=>by have h':(6:Int)=1:=h;omega)
 have cm:=tC (vs:=[dz [vI y]]) hz (zqc rfl);refine lW (n0:=6) zc zc (zqc rfl) hF ao3 aq5 (fun k f hk hg=>?_) (fun f hg=>?_)
 ·match k,hk,hg with
  |0,_,hg=>cases hg;exact kV iR
  |1,_,hg=>cases hg;exact lu iR
  |2,_,hg=>cases hg;exact je iR
  |3,_,hg=>cases hg;exact gQ iR
  |4,_,hg=>cases hg;exact oU zp (zqc rfl)
  |5,_,hg=>cases hg;exact mY iR (zqc rfl) rfl cm
 ·cases hg;exact hg'
theorem amf{x y:Int}(hF:∀u∈[dz [vI x],dz [vI y]],ah prog 65 [.agg (vlA u)] (.v (.bool true)))
  (hg':ah prog 73 [.agg (bR wF [dz [vI x],dz [vI y]])] (.agg (iW v0 1 true))):ah prog 46 [.v (str wF),.r (aB 15 vlE [dz [vI x],dz [vI y]])] (.tup [.agg (vlA v0),eNo 1]):=by
 obtain⟨z,hz⟩:=uU (v:=dz [vI x]) xL.1 xL.2 (fun h=>by have h':(6:Int)=1:=h;omega)
 have cm:=tC (vs:=[dz [vI y]]) hz (zqc rfl);refine adf (n0:=6) zc zc (zqc rfl) hF ao3 aq5 (fun k f hk hg=>?_) (fun f hg=>?_)
 ·match k,hk,hg with
  |0,_,hg=>cases hg;exact kV iR
  |1,_,hg=>cases hg;exact lu iR
  |2,_,hg=>cases hg;exact je iR
  |3,_,hg=>cases hg;exact gQ iR
  |4,_,hg=>cases hg;exact oU zp (zqc rfl)
  |5,_,hg=>cases hg;exact mY iR (zqc rfl) rfl cm
 ·cases hg;exact hg'
end Go.Proofs.YthnkfhfcgjoieaaGreatDoor
set_option linter.unusedSectionVars false
namespace Go.Proofs.YthnkfhfcgjoieaaGreatDoor
open Go.RowKit QM SX LA
attribute [local irreducible] IntKind.wrap Go1 Reg WP aJ aN bF bD aM aA ak aj aT Sat
attribute [local irreducible] bK bO bM bS bN qv bZ mf PrP qOk zOk vP dx lz vF rqv dI aX bG aV dN jn sq aW qS zS tS tbS plS mdS zmd jT jU zEv bI fDs fEv xgG xgS xgT
theorem ahO(u v w:Vl):ah prog 105 [.r (aQ 15 3 (vlE u++vlE v++vlE w))] (.agg (vlA (dz [u,v,w]))):=by
 have e:aQ 15 3 (vlE u++vlE v++vlE w)=aB 15 vlC [u,v,w]:=by
  show _=aQ 15 3 (vlC u++(vlC v++(vlC w++[])));rw[yH,yH,yH,zqb,zqj]
 have eA:aF (.c (.sat (aQ 15 3 (vlE u++vlE v++vlE w)))) (.c (.sat (aB 15 vlC [u,v,w]))):=by rw[e];exact aF.refl _
 refine ah.fq func105 results105 ntmps105 fun _ _ _ _ _=>?_
 refine zg ?_;refine fK ak.gL ?_;exact jA ⟨aF.refl _,aF.refl _,aF.qU,aF.refl _,aF.qU,aF.refl _,aF.refl _,aF.nil,aF.nil,aF.refl _,aF.refl _,aF.refl _,aF.nil,aF.nil,eA,trivial⟩
section
variable{x y:Int}{K:Nat}(hx:x.natAbs < WB ^ K)(hy:y.natAbs < WB ^ K)(h1:1<=K)(hK:K<=50)
include hx hy h1 hK
theorem ajv:(Int.gcd x y:Int).natAbs < WB ^ K:=by
 rw[zxa];by_cases h0:x=0
 ·subst h0;rw[Int.gcd_zero_left];exact hy
 ·exact zxb (Nat.le_of_dvd (Int.natAbs_pos.2 h0) (Int.ofNat_dvd_left.1 (Int.gcd_dvd_left ..))) hx
theorem yj:ah prog 150 [.agg (bR zK [vI x,vI y])] (.agg (iW (dz [vI (Int.gcd x y:Int),vI (xgx x y),vI (xgy x y)]) 0 true)):=by
 have a0:=aju zK x y;have a:=aiW hx hy h1 hK zK;have n0:ah prog 97 [.agg (bR zK [vI x,vI y]),.v (.int .i64 0)] (.agg (zN x)):=lC (i:=0) rfl zc (dG hx h1 zE)
 have n1:ah prog 97 [.agg (bR zK [vI x,vI y]),.v (.int .i64 1)] (.agg (zN y)):=lC (i:=1) rfl zc (dG hy h1 zE)
 haveI i1:Bd x K:=⟨hx⟩
 haveI i2:Bd y K:=⟨hy⟩
 have cG:=amT (l:=zN x) (l':=zN y) (x:=x) (y:=y) (k:=K) (m:=K) zE
 have bs:(xgx x y).natAbs < WB ^ (K+1):=(Bd.xgx x y K K).h;have bt:(xgy x y).natAbs < WB ^ (K+K+(K+1+K)+1):=(Bd.xgy x y K K).h;have w1:ah prog 6 [.agg (zN (Int.gcd x y:Int))] (.agg (vlA (vI (Int.gcd x y:Int)))):=dY (q:=z2v (Int.gcd x y:Int)) (ZQ.made (ajv hx hy h1 hK)) h1 zE
 have w2:ah prog 6 [.agg (zN (xgx x y))] (.agg (vlA (vI (xgx x y)))):=dY (q:=z2v (xgx x y)) (ZQ.made bs) zE zE
 have w3:ah prog 6 [.agg (zN (xgy x y))] (.agg (vlA (vI (xgy x y)))):=dY (q:=z2v (xgy x y)) (ZQ.made bt) zE zE
 have cL:=ahO (vI (Int.gcd x y:Int)) (vI (xgx x y)) (vI (xgy x y));have cF:=mh (dz [vI (Int.gcd x y:Int),vI (xgx x y),vI (xgy x y)]);refine ah.fq func150 results150 ntmps150 fun _ _ _ _ _=>?_
 refine zg ?_;refine fK ak.dW ?_;exact zv _
theorem zD:ah prog 72 [.agg (bR zK [vI x,vI y])] (.agg (iW (dz [vI (Int.gcd x y:Int),vI (xgx x y),vI (xgy x y)]) 0 true)):=by
 have cm:=tZ (K:=K) (zs:=[x,y]) (fun z hz=>by
  rcases zy3.1 hz with rfl|hz
  ·exact hx
  ·rw[zxi]at hz;subst hz;exact hy) h1 zE (zqc rfl)
 have cm':ah prog 141 [.r (aB 15 vlE [vI x,vI y])] (.tup [.one (.c (.sat (aB 2 z2C ((aX [x,y]).map z2v)))),.one (.c (.val (.bool true)))]):=cm;have a0:=ajN zK x y;have cM:=aiD (t:=zK) (vs:=[vI x,vI y]) (.inr rfl);have cC:=yj hx hy h1 hK;clear cm;refine ah.fq func72 results72 ntmps72 fun _ _ _ _ _=>?_
 refine zg ?_;refine fK ak.dW ?_;exact zv _
theorem aiv:ah prog 46 [.v (str zK),.r (aB 15 vlE [vI x,vI y])] (.tup [.agg (vlA (dz [vI (Int.gcd x y:Int),vI (xgx x y),vI (xgy x y)])),eNo 0]):=
 acU (.inr (.inr (.inr (.inr (.inl rfl))))) (zqc rfl) (F2 (kS hx h1 zE) (kS hy h1 zE)) asX (zD hx hy h1 hK)
end
end Go.Proofs.YthnkfhfcgjoieaaGreatDoor
set_option linter.unusedSectionVars false
namespace Go.Proofs.YthnkfhfcgjoieaaGreatDoor
open Go.RowKit QM SX LA
def prB(a:Int):Bool:=decide (0 < a)&&decide (PrP a.natAbs)
attribute [local irreducible] IntKind.wrap Go1 Reg WP aJ aN bF bD aM aA ak aj aT Sat
attribute [local irreducible] bK bO bM bS bN qv bZ mf PrP qOk zOk vP dx lz vF rqv dI aX bG aV dN jn sq aW qS zS tS tbS plS mdS zmd jT jU zEv bI fDs fEv xgG xgS xgT
theorem as1_n{a:Int}{K:Nat}(ha:a.natAbs < WB ^ K)(h1:1<=K)(hK:K<=50)(t:List UInt8):ah prog 94 [.agg (bR t [vI a]),.v (str t),.v (str [110])] (.v (.bool true)):=
 oz (fun _=>true) rfl (zqc rfl) fun i u hv=>by
  match i,hv with
  |0,hv=>cases hv;exact jk (dG ha h1 zE)
theorem agp{a:Int}{K:Nat}(ha:a.natAbs < WB ^ K)(h1:1<=K)(hK:K<=50):ah prog 73 [.agg (bR adB [vI a])] (.agg (iW (bW (if prB a then 1 else 0)) 0 true)):=by
 have az:=as1_n ha h1 hK adB;have n0:ah prog 97 [.agg (bR adB [vI a]),.v (.int .i64 0)] (.agg (zN a)):=lC (i:=0) rfl zc (dG ha h1 zE)
 haveI i1:Bd a K:=⟨ha⟩
 haveI i2:BdN a.natAbs K:=⟨ha⟩
 have cW:=aoZ (a:= .sat (bU a.natAbs)) (x:=a.natAbs) (k:=K) zE
 have cS:=jQ (l:=zN a) (z:=a) (k:=K) zE
 by_cases hs:a.natAbs < WB
 ·rw[if_pos hs,decide_eq_true hs]at cW;by_cases h0:0 < a
  ·have hi:aS a > 0:=by unfold aS;split <;> omega
   have e:prB a=decide (PrP a.natAbs):=by unfold prB;rw[decide_eq_true h0,Bool.true_and]
   have cP:=pK a.natAbs (by rw[dn]at hs;exact hs)
   rw[e];have cT:=tY (decide (PrP a.natAbs));have cf:=mh (bW (if decide (PrP a.natAbs)then 1 else 0))
   generalize decide (PrP a.natAbs)=pb at*;refine ah.fq func73 results73 ntmps73 fun w0 T B E0 hB=>?_
   refine zg ?_;refine agZ (o1:=1) (ft:=23) z6 rfl rfl rfl ?_
   refine zg ?_;refine fK ak.dW ?_;exact zv _
  ·have hi:¬aS a > 0:=by unfold aS;split <;> omega
   have e:prB a=false:=by unfold prB;rw[decide_eq_false h0,Bool.false_and]
   rw[e];have cT:=tY false;have cf:=mh (bW (if false then 1 else 0))
   refine ah.fq func73 results73 ntmps73 fun w0 T B E0 hB=>?_
   refine zg ?_;refine agZ (o1:=1) (ft:=23) z6 rfl rfl rfl ?_
   refine zg ?_;refine fK ak.dW ?_;exact zv _
 ·rw[if_neg hs,decide_eq_false hs]at cW;have e:prB a=false:=by
   unfold prB;have:¬PrP a.natAbs:=fun h=>by have:=h.lt;rw[dn]at hs;omega
   rw[decide_eq_false this,Bool.and_false]
  rw[e];have cT:=tY false;have cf:=mh (bW (if false then 1 else 0))
  refine ah.fq func73 results73 ntmps73 fun w0 T B E0 hB=>?_
  refine zg ?_;refine agZ (o1:=1) (ft:=23) z6 rfl rfl rfl ?_
  refine zg ?_;refine fK ak.dW ?_;exact zv _
theorem arH{t:List UInt8}(ht:t=ag9\/t=adB):ah prog 66 [.v (str mD),.v (str (([32]++t)++[32]))] (.v (.bool true)):=by
 rcases ht with rfl|rfl
 ·exact aO eU z6
 ·exact aO eU z6
theorem arD{t:List UInt8}(ht:t=ag9\/t=adB):ah prog 66 [.v (str t),.v (str [32])] (.v (.bool false)):=by
 rcases ht with rfl|rfl
 ·exact aO zc z6
 ·exact aO zc z6
theorem acs{t:List UInt8}{x:Rat}{r:Vl}{K:Nat}(ht:t=ag9\/t=adB)(hx:RB x K)(h1:1<=K)(hK:K<=100000)(hF:ah prog 65 [.agg (vlA (bW x))] (.v (.bool true)))
  (hg:ah prog 73 [.agg (bR t [bW x])] (.agg (iW r 0 true))):ah prog 46 [.v (str t),.r (aB 15 vlE [bW x])] (.tup [.agg (vlA r),eNo 0]):=by
 have hN:yY t:=by
  rcases ht with rfl|rfl
  ·exact .inr (.inr (.inl rfl))
  ·exact .inr (.inr (.inr (.inr (.inr (.inr (.inl rfl))))))
 have hl:t.length<=1000:=by rcases ht with rfl|rfl <;> decide
 obtain⟨c,w,hc,cm⟩:=ae9 hx h1 hK;refine lW (n0:=6) hl zc (zqc rfl) (F1 hF) (arH ht) (arD ht) (fun k f hk hg=>?_) (fun f hg'=>?_)
 ·match k,hk,hg with
  |0,_,hg=>cases hg;exact kV hN
  |1,_,hg=>cases hg;exact lu hN
  |2,_,hg=>cases hg;exact je hN
  |3,_,hg=>cases hg;exact gQ hN
  |4,_,hg=>cases hg;exact uJ ⟨fun h=>by have h':(1:Int)=4:=h;omega,fun h=>by have h':(1:Int)=5:=h;omega⟩
  |5,_,hg=>cases hg;exact mY hN (zqc rfl) hc cm
 ·cases hg';exact hg
end Go.Proofs.YthnkfhfcgjoieaaGreatDoor
set_option linter.unusedSectionVars false
namespace Go.Proofs.YthnkfhfcgjoieaaGreatDoor
open Go.RowKit QM SX LA
theorem W.meet3{P:Program}{C:Ctx}{st:St}{Q:Exit->St->Prop}{x y z r:Code}(I:List (Nat×AV))(H:List (Nat×Ent))(h:WP P C x st (aJ (fun s=>WP P C y s (aJ (fun s=>WP P C z s (aJ (fun s=>St.le C s (fP I H)) Q)) Q)) Q))(k:WP P C r (fP I H) Q):WP P C (.seq x (.seq y (.seq z r))) st Q:=by
 refine WP.seq (WP.mono h fun e s hq=>?_)
 cases e with
 |normal=>exact W.meet2 (I:=I) (H:=H) hq k
 |_=>exact hq
theorem nilZA:AV0.imp (.agg z0A) (.agg (zN 0)):=jA ⟨aF.refl _,apa,trivial⟩
theorem asY{v:Rat}{a b:Int}(h:(a:Rat)<=v)(h':v < (b:Rat)+1):a<=b:=by
 have e:(b:Rat)+1=((b+1:Int):Rat):=by rw[Rat.intCast_add];rfl
 rw[e]at h';exact Int.lt_add_one_iff.1 (Rat.intCast_lt_intCast.1 (by grind))
theorem aqp{v:Rat}{a b:Int}(h:2*((a:Rat) - v)<=1)(h': -1 < 2*((b:Rat) - v)):a<=b:=by
 have e:(b:Rat)+1=((b+1:Int):Rat):=by rw[Rat.intCast_add];rfl
 refine Int.lt_add_one_iff.1 (Rat.intCast_lt_intCast.1 ?_);rw[<-e];grind
attribute [local irreducible] IntKind.wrap Go1 Reg WP aJ aN bF bD aM aA ak aj aT Sat
attribute [local irreducible] bK bO bM bS bN qv bZ mf PrP qOk zOk vP dx lz vF cq rqv dI aX bG aV dN jn sq aW qS zS tS tbS plS mdS zmd jT jU zEv bI fDs fEv xgG xgS xgT
theorem ng(vs:List Vl):ah prog 18 [.r (aB 15 vlE vs)] (.agg (vlA (dz vs))):=by
 rw[<-vT];refine ah.fq func18 results18 ntmps18 fun _ _ _ _ _=>?_
 refine zg ?_;refine u6 ak.gL ?_;exact jA ⟨aF.refl _,aF.refl _,aF.qU,aF.refl _,aF.qU,aF.refl _,aF.refl _,aF.nil,aF.nil,aF.refl _,aF.refl _,aF.refl _,aF.nil,aF.nil,aF.refl _,trivial⟩
section
variable{b1 c1:Bool}{l1 m1:List Nat}{ba bb:Bool}{la lb:List Nat}
theorem Num_1(h:¬l1.length<=2):ah prog 3 [.agg (q4A (b1,bL l1,c1,bL m1)),.agg (z2A (ba,bL la)),.agg (z2A (bb,bL lb))] (.v (.bool true)):=by
 have aw:=nI;refine ah.fq func3 results3 ntmps3 fun _ _ _ _ _=>?_
 refine zg ?_;exact bf rfl
theorem Num_2(h1:l1.length<=2)(h:¬m1.length<=2):ah prog 3 [.agg (q4A (b1,bL l1,c1,bL m1)),.agg (z2A (ba,bL la)),.agg (z2A (bb,bL lb))] (.v (.bool true)):=by
 have aw:=nI;refine ah.fq func3 results3 ntmps3 fun _ _ _ _ _=>?_
 refine zg ?_;exact bf rfl
theorem Num_3(h1:l1.length<=2)(h2:m1.length<=2)(h:¬la.length<=2):ah prog 3 [.agg (q4A (b1,bL l1,c1,bL m1)),.agg (z2A (ba,bL la)),.agg (z2A (bb,bL lb))] (.v (.bool true)):=by
 have aw:=nI;refine ah.fq func3 results3 ntmps3 fun _ _ _ _ _=>?_
 refine zg ?_;exact bf rfl
theorem Num_4(h1:l1.length<=2)(h2:m1.length<=2)(h3:la.length<=2)(h:¬lb.length<=2):ah prog 3 [.agg (q4A (b1,bL l1,c1,bL m1)),.agg (z2A (ba,bL la)),.agg (z2A (bb,bL lb))] (.v (.bool true)):=by
 have aw:=nI;refine ah.fq func3 results3 ntmps3 fun _ _ _ _ _=>?_
 refine zg ?_;exact bf rfl
variable{v:Rat}{x y z g s t p n m f w:Int}{N:Nat}{fl rn:Int}{u:Rat}{AB:Q4}{ok sm pr:Bool}{K:Nat}
theorem ag4(h1:l1.length<=2)(h2:m1.length<=2)(h3:la.length<=2)(h4:lb.length<=2)
  (cV:ah prog 5 [.agg (q4A (b1,bL l1,c1,bL m1))] (.agg (vlA (bW v))))
  (cA:ah prog 6 [.agg (z2A (ba,bL la))] (.agg (vlA (vI x))))
  (cB:ah prog 6 [.agg (z2A (bb,bL lb))] (.agg (vlA (vI y))))
  (cS:ah prog 7 [.agg (q4A (rq (cq v)))] (.v (.int .i64 z)))
  (hab:(z < 0/\ah prog 8 [.agg (q4A (rq (cq v)))] (.agg (q4A AB)))\/(¬z < 0/\AB=rq (cq v)))
  (cU:ah prog 5 [.agg (q4A AB)] (.agg (vlA (bW u))))
  (cX:ah prog 9 [.agg (z2A (ba,bL la)),.agg (z2A (bb,bL lb))] (.tup [.agg (zN g),.agg (zN s),.agg (zN t)]))
  (cP:ah prog 10 [.agg (z2A (ba,bL la)),.agg (zN 5),.agg (z2A (bb,bL lb))] (.tup [.agg (zN p),.one (.c (.val (.bool ok)))]))
  (cC:ah prog 12 [.r (aB 2 z2C [(ba,bL la)]),.r (aB 2 z2C [(bb,bL lb)])] (.tup [.agg (zN n),.agg (zN m),.one (.c (.val (.int .i64 f)))]))
  (cM:ah prog 13 [.agg (z2A (ba,bL la))] (.tup [.one (.c (.val (.int .i64 w))),.one (.c (.val (.bool sm)))]))
  (hp:(sm=false/\pr=false)\/(sm=true/\¬w > 0/\pr=false)\/(sm=true/\w > 0/\IntKind.u64.wrap w=w/\ah prog 14 [.v (.int .u64 w)] (.v (.bool pr))))
  (cFl:ah prog 16 [.agg (q4A (b1,bL l1,c1,bL m1))] (.agg (zN fl)))
  (cRn:ah prog 17 [.agg (q4A (b1,bL l1,c1,bL m1))] (.agg (zN rn)))
  (hK:K<=1000) (hK1:1<=K) (bfl:fl.natAbs < WB ^ K) (brn:rn.natAbs < WB ^ K) (bg:g.natAbs < WB ^ K) (bs:s.natAbs < WB ^ K) (bt:t.natAbs < WB ^ K) (bp:p.natAbs < WB ^ K) (bn:n.natAbs < WB ^ K) (bm:m.natAbs < WB ^ K)
  (cNu:ah prog 6 [.agg (z2A ((cq v).1,bL (cq v).2.1))] (.agg (vlA (vI v.num))))
  (cDe:ah prog 6 [.agg (z2A ((cq v).2.2.1,bL (cq v).2.2.2))] (.agg (vlA (vI (v.den:Int)))))
  (k1:ah prog 15 [.v (str aik),.r (aB 15 vlE [bW v]),.agg (vlA (vI fl)),.v (.int .i64 0)] (.v (.bool true)))
  (k2:ah prog 15 [.v (str ah3),.r (aB 15 vlE [bW v]),.agg (vlA (vI rn)),.v (.int .i64 0)] (.v (.bool true)))
  (k3:ah prog 15 [.v (str ag9),.r (aB 15 vlE [bW v]),.agg (vlA (bW u)),.v (.int .i64 0)] (.v (.bool true)))
  (k4:ah prog 15 [.v (str ahp),.r (aB 15 vlE [bW v]),.agg (vlA (vI v.num)),.v (.int .i64 0)] (.v (.bool true)))
  (k5:ah prog 15 [.v (str ahw),.r (aB 15 vlE [bW v]),.agg (vlA (vI (v.den:Int))),.v (.int .i64 0)] (.v (.bool true)))
  (k6:ah prog 15 [.v (str zF),.r (aB 15 vlE [vI x,vI y]),.agg (vlA (vI g)),.v (.int .i64 0)] (.v (.bool true)))
  (k7:ah prog 15 [.v (str zK),.r (aB 15 vlE [vI x,vI y]),.agg (vlA (dz [vI g,vI s,vI t])),.v (.int .i64 0)] (.v (.bool true)))
  (k8:ah prog 15 [.v (str oW),.r (aB 15 vlE [vI x,vI 5,vI y]),.agg (vlA (vI p)),.v (.int .i64 (if ok then 0 else 3))] (.v (.bool true)))
  (k9:ah prog 15 [.v (str wF),.r (aB 15 vlE [dz [vI x],dz [vI y]]),.agg (vlA (dz [vI n,vI m])),.v (.int .i64 f)] (.v (.bool true)))
  (k10:ah prog 15 [.v (str adB),.r (aB 15 vlE [vI x]),.agg (vlA (bW (if pr then 1 else 0))),.v (.int .i64 0)] (.v (.bool true)))
  (k11:ah prog 15 [.v (str aen),.r (aB 15 vlE [dz [vI x,vI y]]),.agg (vlA (vI 2)),.v (.int .i64 0)] (.v (.bool true))):
  ah prog 3 [.agg (q4A (b1,bL l1,c1,bL m1)),.agg (z2A (ba,bL la)),.agg (z2A (bb,bL lb))] (.v (.bool true)):=by
 have aw:=nI;have o5:ah prog 11 [.v (.int .i64 5)] (.agg (zN 5)):=wL.h ⟨zE,zE⟩
 have o2:ah prog 11 [.v (.int .i64 2)] (.agg (zN 2)):=wL.h ⟨zE,zE⟩
 have v5:ah prog 6 [.agg (zN 5)] (.agg (vlA (vI 5))):=dY (q:=z2v 5) (K:=1) (ZQ.made (by rw[zxh,dn];decide)) (zq6 1) zc
 have v2:ah prog 6 [.agg (zN 2)] (.agg (vlA (vI 2))):=dY (q:=z2v 2) (K:=1) (ZQ.made (by rw[zxh,dn];decide)) (zq6 1) zc
 have wh:∀{i:Int},i.natAbs < WB ^ K->ah prog 6 [.agg (zN i)] (.agg (vlA (vI i))):=fun {i} h=>dY (q:=z2v i) (ZQ.made h) hK1 zE
 have vfl:=wh bfl;have vrn:=wh brn;have vg:=wh bg;have vs:=wh bs;have vt:=wh bt;have vp:=wh bp;have vn:=wh bn;have vm:=wh bm;have La:=ng [vI x];have Lb:=ng [vI y];have L3:=ng [vI g,vI s,vI t];have Ln:=ng [vI n,vI m];have L2:=ng [vI x,vI y];have cT:=tY pr;have e2:[vI x,vI y].length=2:=rfl;have k10':ah prog 15 [.v (str adB),.r (aB 15 vlE (List.take 1 [vI x,vI y])),.agg (vlA (bW (if pr then 1 else 0))),.v (.int .i64 0)] (.v (.bool true)):=k10
 have i0:[vI x,vI y][0]? =some (vI x):=rfl;have i1:[vI x,vI y][1]? =some (vI y):=rfl;clear wh;refine ah.fq func3 results3 ntmps3 fun _ _ _ _ _=>?_
 refine zg ?_;refine W.asR [(3,.ptr 3 0),(4,.ptr 4 0),(5,.ptr 5 0),(7,.ptr 7 0),(8,.r (aB 15 vlE [bW v])),(9,.r (aB 15 vlE [vI x,vI y])),(10,.ptr 10 0)] [(3,.box 27 (q4A (b1,bL l1,c1,bL m1))),(4,.box 25 (z2A (ba,bL la))),(5,.box 25 (z2A (bb,bL lb))),(7,.box 40 (vlA (bW v))),(10,.box 27 (q4A AB))] ?_ ?_
 ·rcases hab with⟨hz,cN⟩|⟨hz,rfl⟩
  ·refine zg ?_;exact W.le
  ·refine zg ?_;exact W.le
 refine zg ?_;refine W.asR [(3,.ptr 3 0),(4,.ptr 4 0),(5,.ptr 5 0),(7,.ptr 7 0),(8,.r (aB 15 vlE [bW v])),(9,.r (aB 15 vlE [vI x,vI y])),(10,.ptr 10 0),(11,.ptr 11 0),(12,.ptr 12 0),(13,.ptr 13 0),(14,.ptr 14 0),(16,.v (.int .i64 (if ok then 0 else 3)))] [(3,.box 27 (q4A (b1,bL l1,c1,bL m1))),(4,.box 25 (z2A (ba,bL la))),(5,.box 25 (z2A (bb,bL lb))),(7,.box 40 (vlA (bW v))),(10,.box 27 (q4A AB)),(11,.box 25 (zN g)),(12,.box 25 (zN s)),(13,.box 25 (zN t)),(14,.box 25 (zN p))] ?_ ?_
 ·cases ok
  ·refine zg ?_;exact W.le
  ·refine zg ?_;exact W.le
 refine W.meet3 [(3,.ptr 3 0),(4,.ptr 4 0),(5,.ptr 5 0),(7,.ptr 7 0),(8,.r (aB 15 vlE [bW v])),(9,.r (aB 15 vlE [vI x,vI y])),(10,.ptr 10 0),(11,.ptr 11 0),(12,.ptr 12 0),(13,.ptr 13 0),(14,.ptr 14 0),(16,.v (.int .i64 (if ok then 0 else 3))),(17,.ptr 17 0),(18,.ptr 18 0),(19,.v (.int .i64 f)),(22,.v (.bool pr))] [(3,.box 27 (q4A (b1,bL l1,c1,bL m1))),(4,.box 25 (z2A (ba,bL la))),(5,.box 25 (z2A (bb,bL lb))),(7,.box 40 (vlA (bW v))),(10,.box 27 (q4A AB)),(11,.box 25 (zN g)),(12,.box 25 (zN s)),(13,.box 25 (zN t)),(14,.box 25 (zN p)),(17,.box 25 (zN n)),(18,.box 25 (zN m))] ?_ ?_
 ·rcases hp with⟨rfl,rfl⟩|⟨rfl,hw,rfl⟩|⟨rfl,hw,hww,cPr⟩
  ·refine zg ?_;exact W.le
  ·refine zg ?_;exact W.le
  ·refine zg ?_;exact W.le
 generalize (if ok then(0:Int)else 3)=eP at*
 refine zg ?_;exact bf rfl
end
