import Derived.Test.YthnkfhfcgjoieaaGreatDoorO18
set_option linter.unusedVariables false
set_option linter.unusedSimpArgs false
open Go.Proofs.Tryz
namespace Go.Proofs.YthnkfhfcgjoieaaGreatDoor
open Go.RowKit QM SX LA
theorem PW.nam{t:List UInt8}(ht:tx 2 t=true):PW [(2,t)] (.mk 2 t []):=
 PW.prim (w:=(2,t)) (u:=[]) (fun r=>by
  show (!decide ((2:Int)=1)&&decide (t=[45]))=false;simp[at7 ht (c:=45) (m:=[]) zc]) fun l f o r hr hf ho a h=>by
 have h:rst l a=(2,t)::r:=by rw[h];simp
 rw[rU h,if_neg (show¬(2:Int)=1 by decide),agX ht,if_pos rfl,if_neg (by rw[hr];decide)];rfl
theorem akd:nam om=true:=by unfold nam run wrd srt;decide
theorem avq:tx 2 om=true:=by
 have h:=akd;have h2:ownB om=false:=by rfl
 unfold tx jc;rw[h2];simp[h]
theorem ars{s:List UInt8}{ws:List Wrd}(h:LV s ws):fJ ([120,32,61,32]++(s++[59,32,100,101,116,40,120,41,59])) ((2,[120])::sg [61]::(ws++sg [59]::(2,om)::sg [40]::(2,[120])::sg [41]::[sg [59]])):=by
 have a1:fJ [59] [sg [59]]:=fJ.sg gX.2.2.2.1 (.nil List.drop_nil);have a2:fJ [41,59] (sg [41]::[sg [59]]):=fJ.sg gX.2.2.2.2.2.2.2.1 a1;have a3:fJ [120,41,59] ((2,[120])::sg [41]::[sg [59]]):=fJ.nam (w:=[120]) aqj (ahB (acj gX.2.2.2.2.2.2.2.1)) a2;have a4:fJ [40,120,41,59] (sg [40]::(2,[120])::sg [41]::[sg [59]]):=fJ.sg gX.2.2.2.2.2.2.1 a3;have a5:fJ [100,101,116,40,120,41,59] ((2,om)::sg [40]::(2,[120])::sg [41]::[sg [59]]):=fJ.nam (w:=om) akd (ahB (acj gX.2.2.2.2.2.2.1)) a4;have a6:fJ [59,32,100,101,116,40,120,41,59] (sg [59]::(2,om)::sg [40]::(2,[120])::sg [41]::[sg [59]]):=fJ.sg gX.2.2.2.1 (fJ.sp sp32 a5);have a7:=h _ _ (ahB (acj gX.2.2.2.1)) a6;exact fJ.nam (w:=[120]) aqj (nw32 _) (fJ.sp sp32 (fJ.asg (fJ.sp sp32 a7)))
abbrev awkZ:List Int:=[1,2,3,4]
abbrev qy:List Rat:=awkZ.map fun z:Int=>(z:Rat)
theorem avj:aW 4=[52]:=adG zc zc
theorem ad9{n:Nat}:qS (((n:Nat):Int):Rat)=aW n:=by
 rw[zx,if_pos (Rat.den_intCast _),Rat.num_intCast];exact aav n
theorem atB:tbS 2 2 (qy.map qS)=[91,49,44,32,50,59,32,51,44,32,52,93]:=by
 have e1:qS ((1:Int):Rat)=[49]:=(ad9 (n:=1)).trans aqJ;have e2:qS ((2:Int):Rat)=[50]:=(ad9 (n:=2)).trans ank;have e3:qS ((3:Int):Rat)=[51]:=(ad9 (n:=3)).trans atX;have e4:qS ((4:Int):Rat)=[52]:=(ad9 (n:=4)).trans avj;have e:qy.map qS=[[49],[50],[51],[52]]:=by
  show [qS ((1:Int):Rat),qS ((2:Int):Rat),qS ((3:Int):Rat),qS ((4:Int):Rat)]=_;rw[e1,e2,e3,e4]
 rw[e];rfl
theorem awk_d:akW 2 qy=((-2:Int):Rat):=by
 unfold akW;rw[aq7,ae3];decide+kernel
theorem asS:qS ((-2:Int):Rat)=[45,50]:=by
 rw[zx,if_pos (Rat.den_intCast _),Rat.num_intCast];show (if(-2:Int) < 0 then 45::aW 2 else aW 2)=_
 rw[if_pos zc,ank]
abbrev tAwk:List UInt8:=[120,32,61,32,91,49,44,32,50,59,32,51,44,32,52,93,59,32,100,101,116,40,120,41,59]
attribute [local irreducible] IntKind.wrap Go1 Reg WP aJ aN bF bD aM aA ak aj aT Sat
attribute [local irreducible] bK bO bM bS bN qv bZ mf PrP qOk zOk vP dx lz vF cq rqv dI aX bG aV dN jn sq aW qS zS tS tbS plS mdS zmd fT jw nmC qB akW
abbrev ajF:List Atom:=ahH 1000000 1000000 200
theorem ag1:ah prog 21 [] (.agg ajF):=by
 refine ah.fq func21 results21 ntmps21 fun _ _ _ _ _=>?_
 refine zg ?_;exact nP ak.bQ rfl
theorem ard:ah prog 20 [.v (str tAwk),.agg ajF] (.tup [.one (.c (.val (str [45,50,10]))),eNo 0]):=by
 have hb:∀v∈qy,RB v 1:=fun v hv=>by
  obtain⟨z,hz,rfl⟩:=zqg.1 hv;refine RB.ofI ?_ (zq6 1);rw[zxh,dn];simp at hz
  rcases hz with rfl|rfl|rfl|rfl <;> decide
 have ls:(tbS 2 2 (qy.map qS)).length=12:=by rw[atB];rfl
 have C1:Cv 1 0 (iJ 2 2 qy):= .one (.mat 2 2 _ rfl zc zc hb)
 have hR:=RD.mat (B:=1000000) (K:=1) zc zc zc zc (r:=2) (c:=2) (vs:=qy) rfl zc zc hb zE
 obtain⟨z,hz1,hz2⟩:=VI.of (B:=1000000) C1 zc zc (by
  have e:tS (iJ 2 2 qy)=tbS 2 2 (qy.map qS):=uG 2 2 qy;rw[e];omega) zc
 have e:tS (iJ 2 2 qy)=tbS 2 2 (qy.map qS):=uG 2 2 qy;rw[e]at hz1;obtain⟨ws,m,k,hlv,hpw,hfw,hdp,hk,hex,hop⟩:=hR.h;have hL:=ars hlv;rw[atB]at hL;have hL:fJ tAwk _:=hL;have hS1:=SW.set tx_x hpw zE
 have hd0:dep (.mk 13 om [.mk 2 [120] []])<=1:=uX (d:=0) fun n hn=>by
  rw[zxi]at hn;subst hn;rw[ab0];exact zq6 0
 have hd1:dep (.mk 18 [120] [m])<=191:=uX (d:=190) fun n hn=>by
  have e:=zxi.1 hn;subst e;omega
 have hd2:dep (.mk 19 [] [.mk 13 om [.mk 2 [120] []]])<=2:=uX (d:=1) fun n hn=>by
  have e:=zxi.1 hn;subst e;exact hd0
 have hS2:=SW.show (PW.call avq (ks:=[([(2,[120])],.mk 2 [120] [])]) (fun k hk=>by
  rw[zxi]at hk;subst hk;exact⟨PW.nam tx_x,⟨_,_,rfl,fun r'=>rfl⟩⟩)) (by show dep (.mk 13 om [.mk 2 [120] []])<=200;omega) (fun r=>⟨rfl,rfl,rfl⟩)
 obtain⟨ts,e1,e2,e3⟩:=ahQ (s:=tAwk) (ks:=[((2,[120])::sg [61]::(ws++[sg [59]]),.mk 18 [120] [m]),(((2,om)::sg [40]::([(2,[120])]++[sg [41]]))++[sg [59]],.mk 19 [] [.mk 13 om [.mk 2 [120] []]])]) (by simpa using hL) zc (fun k hk=>by
  rcases zy3.1 hk with rfl|hk
  ·exact⟨hS1,by simp⟩
  ·rw[zxi]at hk;subst hk;exact⟨hS2,by simp⟩) (zxf (aaw (d:=192) fun n hn=>by
   rcases zy3.1 hn with rfl|hn
   ·exact zxf hd1 zc
   ·have e:=zxi.1 hn;subst e;exact zxf hd2 zc) zc)
 have hs1:=ST.set (nm:=[]) (la:=v0) (tx:=[]) (n:= .mk 18 [120] [m]) rfl rfl (hex []);have hb1:(-2:Int).natAbs < WB ^ 1:=by rw[zxh,dn];decide
 obtain⟨y,hy1,hy2⟩:=VI.num (B:=1000000) (K:=1) zc (zq6 1) zc (RB.ofI (z:= -2) hb1 (zq6 1))
 rw[asS]at hy1;have hy1:y<=2:=hy1;have cP:=aha (RB.ofI (z:= -2) hb1 (zq6 1)) zc
 rw[asS]at cP;have cC:=ad8 (n:=2) (K:=1) (vs:=qy) rfl zc hb zc zc zc zc zc
 rw[awk_d]at cC;have hlk:fT (jw [] [120] (iJ 2 2 qy)) [120]=some (iJ 2 2 qy):=by unfold jw fT;rfl
 have hxe:=EX.name (B:=1000000) zc (nm:=jw [] [120] (iJ 2 2 qy)) (n:= .mk 2 [120] []) rfl hlk hz2
 have hee:=EX.opr (B:=1000000) zc (nm:=jw [] [120] (iJ 2 2 qy)) (n:= .mk 13 om [.mk 2 [120] []]) ⟨fun h=>by have h':(13:Int)=1:=h;omega,fun h=>by have h':(13:Int)=2:=h;omega,fun h=>by have h':(13:Int)=14:=h;omega⟩ (AL.one hxe) (ajX (n:= .mk 13 om [.mk 2 [120] []]) rfl cC) hy2
 have hs2:=ST.show (nm:=jw [] [120] (iJ 2 2 qy)) (la:=v0) (tx:=[]) (n:= .mk 19 [] [.mk 13 om [.mk 2 [120] []]]) rfl rfl hee cP zc
 have hbl:=BL.two hs1 hs2;obtain⟨F,hF⟩:∃F,1000000=F+(k+1+(y+(z+1)+1+1)):=⟨1000000 - (k+1+(y+(z+1)+1+1)),zE⟩
 have cp:=agG (F:=F+(k+1+(y+(z+1)+1+1))) (B:=1000000) (D:=200) (zq6 _) zc e1 e2 e3
 have h:=ar6 cp hbl zE zc
 rw[<-hF]at h;exact h
theorem nI:ah prog 4 [] (.v (.bool true)):=by
 have c:=ag1;have h:=ard;refine ah.fq func4 results4 ntmps4 fun _ _ _ _ _=>?_
 refine zg ?_;exact bf rfl
section
variable{u:Vl}
end
