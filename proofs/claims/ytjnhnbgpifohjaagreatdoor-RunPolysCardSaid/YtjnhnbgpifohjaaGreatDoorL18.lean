import Derived.Test.YtjnhnbgpifohjaaGreatDoorL10
import Derived.Test.YtjnhnbgpifohjaaGreatDoorL17
set_option linter.unusedVariables false
set_option linter.unusedSimpArgs false
set_option linter.unusedSectionVars false
open Go.Proofs.Tryz
namespace Go.Proofs.YtjnhnbgpifohjaaGreatDoor
open Go.RowKit QM SX LA
attribute [local irreducible] IntKind.wrap Go1 Reg WP aO aR bM bK aN aD aj ak aX Sat
section
attribute [local irreducible] bO bX bV cK bW qv dH mf PrP qOk zOk vP dP lz vF cq rqv dX aS bU aV fB jn sq aY qS zS tS tbS plS mdS vW kP
section
end
end
section
section
theorem BL.two{B:Nat}{n n':Nd}{k k':Nat}{σ σ1 σ':Ms}(h:ST B n k σ σ1)(h':ST B n' k' σ1 σ'):BL B [n,n'] (k+k') σ σ':=by
 have:=auk B [n,n'] [k,k'] (fun i=>if i=0 then σ else if i=1 then σ1 else σ') rfl (zqc rfl) (fun i m l h1 h2=>by
  match i,h1,h2 with
  |0,h1,h2=>cases h1;cases h2;exact h
  |1,h1,h2=>cases h1;cases h2;exact h')
 simpa using this
attribute [local irreducible] bO bX bV cK bW qv dH mf PrP qOk zOk vP dP lz vF cq rqv dX aS bU aV fB jn sq aY qS zS tS tbS plS mdS zmd gK jQ nmC qB
section
variable{B K Fu c d:Nat}{s:List UInt8}{v:Vl}(hB:64000<=B)(hB0:B<=1000000000)(hF0:Fu<=1000000000)(hR:RD B s v c d)(hd:d<=190)(hP:ah prog 462 [.agg (vlA v)] (.tup [.one (.c (.val (str s))),eNo 0]))(hl:s.length<=19500)
include hB hB0 hF0 hR hd hP hl
end
end
section
theorem PW.nam{t:List UInt8}(ht:tx 2 t=true):PW [(2,t)] (.mk 2 t []):=
 PW.prim (w:=(2,t)) (u:=[]) (fun r=>by
  show (!decide ((2:Int)=1)&&decide (t=[45]))=false;simp[awu ht (c:=45) (m:=[]) zc]) fun l f o r hr hf ho a h=>by
 have h:rst l a=(2,t)::r:=by rw[h];simp
 rw[uE h,if_neg (show¬(2:Int)=1 by decide),akG ht,if_pos rfl,if_neg (by rw[hr];decide)];rfl
theorem alA:nam qO=true:=by unfold nam run wrd srt;decide
theorem ax5:tx 2 qO=true:=by
 have h:=alA;have h2:ownB qO=false:=by rfl
 unfold tx j5;rw[h2];simp[h]
theorem auV{s:List UInt8}{ws:List Wrd}(h:LV s ws):gF ([120,32,61,32]++(s++[59,32,100,101,116,40,120,41,59])) ((2,[120])::sg [61]::(ws++sg [59]::(2,qO)::sg [40]::(2,[120])::sg [41]::[sg [59]])):=by
 have a1:gF [59] [sg [59]]:=gF.sg iW.2.2.2.1 (.nil List.drop_nil);have a2:gF [41,59] (sg [41]::[sg [59]]):=gF.sg iW.2.2.2.2.2.2.2.1 a1;have a3:gF [120,41,59] ((2,[120])::sg [41]::[sg [59]]):=gF.nam (w:=[120]) apF (akV (afm iW.2.2.2.2.2.2.2.1)) a2;have a4:gF [40,120,41,59] (sg [40]::(2,[120])::sg [41]::[sg [59]]):=gF.sg iW.2.2.2.2.2.2.1 a3;have a5:gF [100,101,116,40,120,41,59] ((2,qO)::sg [40]::(2,[120])::sg [41]::[sg [59]]):=gF.nam (w:=qO) alA (akV (afm iW.2.2.2.2.2.2.1)) a4;have a6:gF [59,32,100,101,116,40,120,41,59] (sg [59]::(2,qO)::sg [40]::(2,[120])::sg [41]::[sg [59]]):=gF.sg iW.2.2.2.1 (gF.sp sp32 a5);have a7:=h _ _ (akV (afm iW.2.2.2.1)) a6;exact gF.nam (w:=[120]) apF (nw32 _) (gF.sp sp32 (gF.asg (gF.sp sp32 a7)))
abbrev awkZ:List Int:=[1,2,3,4]
abbrev sS:List Rat:=awkZ.map fun z:Int=>(z:Rat)
theorem ax6:aY 4=[52]:=agx zc zc
theorem afB{n:Nat}:qS (((n:Nat):Int):Rat)=aY n:=by
 rw[aaV,if_pos (Rat.den_intCast _),Rat.num_intCast];exact acJ n
theorem awD:tbS 2 2 (sS.map qS)=[91,49,44,32,50,59,32,51,44,32,52,93]:=by
 have e1:qS ((1:Int):Rat)=[49]:=(afB (n:=1)).trans auy;have e2:qS ((2:Int):Rat)=[50]:=(afB (n:=2)).trans arL;have e3:qS ((3:Int):Rat)=[51]:=(afB (n:=3)).trans aya;have e4:qS ((4:Int):Rat)=[52]:=(afB (n:=4)).trans ax6;have e:sS.map qS=[[49],[50],[51],[52]]:=by
  show [qS ((1:Int):Rat),qS ((2:Int):Rat),qS ((3:Int):Rat),qS ((4:Int):Rat)]=_;rw[e1,e2,e3,e4]
 rw[e];rfl
theorem awk_d:ano 2 sS=((-2:Int):Rat):=by
 unfold ano;rw[arI,aiu];decide+kernel
theorem aw9:qS ((-2:Int):Rat)=[45,50]:=by
 rw[aaV,if_pos (Rat.den_intCast _),Rat.num_intCast];show (if(-2:Int) < 0 then 45::aY 2 else aY 2)=_
 rw[if_pos zc,arL]
abbrev tAwk:List UInt8:=[120,32,61,32,91,49,44,32,50,59,32,51,44,32,52,93,59,32,100,101,116,40,120,41,59]
attribute [local irreducible] bO bX bV cK bW qv dH mf PrP qOk zOk vP dP lz vF cq rqv dX aS bU aV fB jn sq aY qS zS tS tbS plS mdS zmd gK jQ nmC qB ano
abbrev amP:List Atom:=akz 1000000 1000000 200
theorem ahe:ah prog 37 [] (.agg amP):=by
 refine ah.fq func37 results37 ntmps37 fun _ _ _ _ _=>?_
 refine zg ?_;exact nM aj.bG rfl
theorem atY:ah prog 36 [.v (str tAwk),.agg amP] (.tup [.one (.c (.val (str [45,50,10]))),eNo 0]):=by
 have hb:∀v∈sS,RB v 1:=fun v hv=>by
  obtain⟨z,hz,rfl⟩:=zqg.1 hv;refine RB.ofI ?_ (zq6 1);rw[zxh,bJ];simp at hz
  rcases hz with rfl|rfl|rfl|rfl <;> decide
 have ls:(tbS 2 2 (sS.map qS)).length=12:=by rw[awD];rfl
 have C1:Cv 1 0 (iC 2 2 sS):= .one (.mat 2 2 _ rfl zc zc hb)
 have hR:=RD.mat (B:=1000000) (K:=1) zc zc zc zc (r:=2) (c:=2) (vs:=sS) rfl zc zc hb zE
 obtain⟨z,hz1,hz2⟩:=VI.of (B:=1000000) C1 zc zc (by
  have e:tS (iC 2 2 sS)=tbS 2 2 (sS.map qS):=xR 2 2 sS;rw[e];omega) zc
 have e:tS (iC 2 2 sS)=tbS 2 2 (sS.map qS):=xR 2 2 sS;rw[e]at hz1;obtain⟨ws,m,k,hlv,hpw,hfw,hdp,hk,hex,hop⟩:=hR.h;have hL:=auV hlv;rw[awD]at hL;have hL:gF tAwk _:=hL;have hS1:=SW.set tx_x hpw zE
 have hd0:dep (.mk 13 qO [.mk 2 [120] []])<=1:=xQ (d:=0) fun n hn=>by
  rw[zxi]at hn;subst hn;rw[ac4];exact zq6 0
 have hd1:dep (.mk 18 [120] [m])<=191:=xQ (d:=190) fun n hn=>by
  have e:=zxi.1 hn;subst e;omega
 have hd2:dep (.mk 19 [] [.mk 13 qO [.mk 2 [120] []]])<=2:=xQ (d:=1) fun n hn=>by
  have e:=zxi.1 hn;subst e;exact hd0
 have hS2:=SW.show (PW.call ax5 (ks:=[([(2,[120])],.mk 2 [120] [])]) (fun k hk=>by
  rw[zxi]at hk;subst hk;exact⟨PW.nam tx_x,⟨_,_,rfl,fun r'=>rfl⟩⟩)) (by show dep (.mk 13 qO [.mk 2 [120] []])<=200;omega) (fun r=>⟨rfl,rfl,rfl⟩)
 obtain⟨ts,e1,e2,e3⟩:=aj8 (s:=tAwk) (ks:=[((2,[120])::sg [61]::(ws++[sg [59]]),.mk 18 [120] [m]),(((2,qO)::sg [40]::([(2,[120])]++[sg [41]]))++[sg [59]],.mk 19 [] [.mk 13 qO [.mk 2 [120] []]])]) (by simpa using hL) zc (fun k hk=>by
  rcases zy3.1 hk with rfl|hk
  ·exact⟨hS1,by simp⟩
  ·rw[zxi]at hk;subst hk;exact⟨hS2,by simp⟩) (zxf (aco (d:=192) fun n hn=>by
   rcases zy3.1 hn with rfl|hn
   ·exact zxf hd1 zc
   ·have e:=zxi.1 hn;subst e;exact zxf hd2 zc) zc)
 have hs1:=ST.set (nm:=[]) (la:=v0) (tx:=[]) (n:= .mk 18 [120] [m]) rfl rfl (hex []);have hb1:(-2:Int).natAbs < WB ^ 1:=by rw[zxh,bJ];decide
 obtain⟨y,hy1,hy2⟩:=VI.num (B:=1000000) (K:=1) zc (zq6 1) zc (RB.ofI (z:= -2) hb1 (zq6 1))
 rw[aw9]at hy1;have hy1:y<=2:=hy1;have cP:=aj4 (RB.ofI (z:= -2) hb1 (zq6 1)) zc
 rw[aw9]at cP;have cC:=afP (n:=2) (K:=1) (vs:=sS) rfl zc hb zc zc zc zc zc
 rw[awk_d]at cC;have hlk:gK (jQ [] [120] (iC 2 2 sS)) [120]=some (iC 2 2 sS):=by unfold jQ gK;rfl
 have hxe:=EX.name (B:=1000000) zc (nm:=jQ [] [120] (iC 2 2 sS)) (n:= .mk 2 [120] []) rfl hlk hz2
 have hee:=EX.opr (B:=1000000) zc (nm:=jQ [] [120] (iC 2 2 sS)) (n:= .mk 13 qO [.mk 2 [120] []]) ⟨fun h=>by have h':(13:Int)=1:=h;omega,fun h=>by have h':(13:Int)=2:=h;omega,fun h=>by have h':(13:Int)=14:=h;omega⟩ (AL.one hxe) (alY (n:= .mk 13 qO [.mk 2 [120] []]) rfl cC) hy2
 have hs2:=ST.show (nm:=jQ [] [120] (iC 2 2 sS)) (la:=v0) (tx:=[]) (n:= .mk 19 [] [.mk 13 qO [.mk 2 [120] []]]) rfl rfl hee cP zc
 have hbl:=BL.two hs1 hs2;obtain⟨F,hF⟩:∃F,1000000=F+(k+1+(y+(z+1)+1+1)):=⟨1000000 - (k+1+(y+(z+1)+1+1)),zE⟩
 have cp:=akO (F:=F+(k+1+(y+(z+1)+1+1))) (B:=1000000) (D:=200) (zq6 _) zc e1 e2 e3
 have h:=av7 cp hbl zE zc
 rw[<-hF]at h;exact h
theorem xE:ah prog 5 [] (.v (.bool true)):=by
 have c:=ahe;have h:=atY;refine ah.fq func5 results5 ntmps5 fun _ _ _ _ _=>?_
 refine zg ?_;exact bg rfl
section
variable{u:Vl}
end
end
end
