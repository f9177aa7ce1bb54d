import Derived.Test.YtegehclknhmkgaaGreatDoorS18
import Derived.Test.YtegehclknhmkgaaGreatDoorS11
set_option linter.unusedVariables false
set_option linter.unusedSimpArgs false
set_option linter.unusedSectionVars false
open Go.Proofs.Tryz
namespace Go.Proofs.YtegehclknhmkgaaGreatDoor
open Go.RowKit QM SX LA
section
attribute [local irreducible] bT bX bY dw bZ qv dR mf PrP qOk zOk vP dQ lz vF cq rqv eY bW dL dh gD sq aO qS zS tS zmd eO iJ nmC qB
section
variable{B K:Nat}(hB:64000≤B)(hB0:B≤1000000000)(h1:1≤K)(hK:K≤90)
include hB hB0 h1 hK
theorem RD.mod{s:List UInt8}{v w:Vl}{p z:Nat}(hp:PrP p)(h:RD B s v 6 4)(cC:ah prog 229 [.v (str iC),.r (aA 15 vlE [v,vI p])] (.tup [.agg (vlA w),eNo 0]))(hz:z≤(mdS s p).length)(hv:VI B z w):RD B (mdS s p) w 7 5:=by
 have hpl:=hp.lt;have hpW:p < WB ^ K:=by
  have:=Nat.pow_le_pow_right aW h1;rw[Nat.pow_one]at this;have e:=bB;omega
 obtain⟨g,hg⟩:=h.g;obtain⟨kp,hkp,hEp⟩:=zI hB hB0 h1 hK hpW;have dp:=iH hpW;have e0:mdS s p=[109,111,100,40]++(s++([44,32]++(aO p++[41]))):=rfl;have hlen:(mdS s p).length=7+s.length+(aO p).length:=by
  rw[e0,List.length_append,List.length_append,List.length_append,List.length_append];have a1:([109,111,100,40]:List UInt8).length=4:=rfl;have a2:([44,32]:List UInt8).length=2:=rfl;have a3:([41]:List UInt8).length=1:=rfl;omega
 have hgk:=hg.k;refine⟨(2,iC)::sg [40]::(jW [g.1,([(1,aO p)],nmN (aO p))]++[sg [41]]),.mk 13 iC [g.1.2,nmN (aO p)],z+(g.2+kp)+1,?_,?_,FW.mod _,?_,by omega,fun nm=>?_,.inr (show (13:Int)≤13 by decide)⟩
 ·rw[e0];have a1:=LV.nam (w:=iC) nu.2.2 dU.2.2.2.2.2.2.1 (LV.midB hg.lv dU.2.2.1 (LV.end (LV.num (nL (x:=p) (by omega))) dU.2.2.2.2.2.2.2.1))
  have a2:jW [g.1,([(1,aO p)],nmN (aO p))]++[sg [41]]=g.1.1++sg [44]::([(1,aO p)]++[sg [41]]):=by
   show (g.1.1++sg [44]::[(1,aO p)])++[sg [41]]=_;rw[List.append_assoc];rfl
  rw[a2];exact a1
 ·refine PW.call at5 (ks:=[g.1,([(1,aO p)],nmN (aO p))]) fun k hk=>?_
  rcases List.mem_cons.1 hk with rfl|hk
  ·exact⟨hg.pw,hg.fw.1⟩
  ·rw[List.mem_singleton]at hk;subst hk;exact⟨PW.num _,(FW.num _ _).1⟩
 ·refine lI (d:=4) fun k hk=>?_
  rcases List.mem_cons.1 hk with rfl|hk
  ·exact hg.dp
  ·rw[List.mem_singleton]at hk;subst hk;rw[xA];omega
 ·exact EX.opr hB0 (n:= .mk 13 iC [g.1.2,nmN (aO p)]) ⟨fun h=>by have h':(13:Int)=1:=h;omega,fun h=>by have h':(13:Int)=2:=h;omega,fun h=>by have h':(13:Int)=14:=h;omega⟩ (AL.two (hg.ex nm) (hEp nm)) (yO (n:= .mk 13 iC [g.1.2,nmN (aO p)]) rfl cC) hv
theorem RD.fld{p r c:Nat}{l:List Nat}(hp:PrP p)(hl:l.length=r*c)(hr:r≤64)(hc:c≤64)(h:∀x∈l,x < p)(ht:(mdS (tbS r c (l.map aO)) p).length≤100000):RD B (mdS (tbS r c (l.map aO)) p) (kS p r c l) 7 5:=by
 have hpl:=hp.lt;have hb:∀v∈(l.map fun x:Nat=>(x:Int)).map fun z:Int=>(z:Rat),RB v K:=fun v hv=>by
  obtain⟨z,hz,rfl⟩:=List.mem_map.1 hv;obtain⟨x,hx,rfl⟩:=List.mem_map.1 hz;have hx':=h x hx;refine RB.ofI (z:=(x:Int)) ?_ h1;have:=Nat.pow_le_pow_right aW h1;rw[Nat.pow_one]at this;have e:=bB;show x < _;omega
 have et:((l.map fun x:Nat=>(x:Int)).map fun z:Int=>(z:Rat)).map qS=l.map aO:=by
  rw[List.map_map,List.map_map];refine List.map_congr_left fun x hx=>?_
  show qS ((x:Int):Rat)=aO x;rw[rU,if_pos (Rat.den_intCast _),Rat.num_intCast,sO]
 have hg:=adT (tbS r c (l.map aO)) p;have hM:=RD.mat hB hB0 h1 hK (r:=r) (c:=c) (vs:=(l.map fun x:Nat=>(x:Int)).map fun z:Int=>(z:Rat)) (by rw[zq5,zq5];exact hl) hr hc hb (by rw[et];omega)
 rw[et]at hM;obtain⟨s,hs,hv⟩:=VI.of (B:=B) (K:=K) (Cv.one (n:=0) (.fld p r c l hp hl hr hc h)) (by omega) (by omega) (by rw[wP];exact ht) hB
 rw[wP]at hs;exact RD.mod hB hB0 h1 hK hp hM (ad6 hp hl hr hc h) hs hv
theorem RD.rng{p:Nat}{l:List Nat}(hp:PrP p)(hl:l.length≤10000)(hn:wN l)(h:∀x∈l,x < p)(ht:(mdS (plS (l.map aO)) p).length≤100000):RD B (mdS (plS (l.map aO)) p) (lu p l) 7 5:=by
 have hpl:=hp.lt;have hb:∀z∈l.map fun x:Nat=>(x:Int),z.natAbs < WB ^ K:=fun z hz=>by
  obtain⟨x,hx,rfl⟩:=List.mem_map.1 hz;have hx':=h x hx;have:=Nat.pow_le_pow_right aW h1;rw[Nat.pow_one]at this;have e:=bB;show x < _;omega
 have et:(l.map fun x:Nat=>(x:Int)).map zS=l.map aO:=by
  rw[List.map_map];refine List.map_congr_left fun x hx=>?_
  exact sO x
 have hg:=adT (plS (l.map aO)) p;have hM:=RD.pol hB hB0 h1 hK (zs:=l.map fun x:Nat=>(x:Int)) hb (by rw[zq5];exact hl) (asa hn) (by rw[et];omega)
 rw[et]at hM;obtain⟨s,hs,hv⟩:=VI.of (B:=B) (K:=K) (Cv.one (n:=0) (.rng p l hp hl hn h)) (by omega) (by omega) (by rw[wz];exact ht) hB
 rw[wz]at hs;exact RD.mod hB hB0 h1 hK hp (hM.mono (by decide) (by decide)) (ab5 hp hl hn h) hs hv
theorem RD.of{n:Nat}{v:Vl}(h:Cv K n v):n≤15→(tS v).length≤100000→RD B (tS v) v (7+n) (5+n):=by
 induction h with
 | @one n v h=>
  intro hn hl;cases h with
  |num x h=>rw[xq];exact(RD.q hB hB0 h1 hK h).mono (by omega) (by omega)
  |mat r c vs hvl hr hc h=>rw[mY]at hl ⊢;exact(RD.mat hB hB0 h1 hK hvl hr hc h hl).mono (by omega) (by omega)
  |pol zs hzl hpn h=>rw[wO]at hl ⊢;exact(RD.pol hB hB0 h1 hK h hzl hpn hl).mono (by omega) (by omega)
  |fld p r c l hp hll hr hc h=>rw[wP]at hl ⊢;exact(RD.fld hB hB0 h1 hK hp hll hr hc h hl).mono (by omega) (by omega)
  |rng p l hp hll hwn h=>rw[wz]at hl ⊢;exact(RD.rng hB hB0 h1 hK hp hll hwn h hl).mono (by omega) (by omega)
 | @lst n l hll h ih=>
  intro hn hl;obtain⟨g,hg⟩:=uR (P:=fun x gx=>RG B (tS x) x (7+n) (5+n) gx) (l:=l) (fun x hx=>by
   have hm:=amO hx;exact(ih x hx (by omega) (by omega)).g)
  obtain⟨s,hs,hv⟩:=VI.of (B:=B) (Cv.lst l hll h) (by omega) (by omega) hl hB
  have hlen:(tS (kG l)).length=2+(jn 44 (l.map tS)).length:=by
   rw[sW,List.length_cons,List.length_append];have e2:([125]:List UInt8).length=1:=rfl;omega
  have hsum:=RG.sum hg;have hj:=rR 44 (l.map tS);rw[List.map_map]at hj;have hj2:(l.map (List.length ∘ tS)).sum=(l.map fun x=>(tS x).length).sum:=rfl
  have hk1:(7+n)*(l.map fun x=>(tS x).length).sum≤(7+n)*(jn 44 (l.map tS)).length:=Nat.mul_le_mul_left _ (by omega)
  have hk2:(7+(n+1))*(tS (kG l)).length=(7+n)*(jn 44 (l.map tS)).length+(7+n)*2+(tS (kG l)).length:=by
   rw[hlen,←Nat.add_assoc,Nat.add_mul (7+n) 1,Nat.mul_add];omega
  refine⟨sg [123]::(jW (l.map fun x=>(g x).1)++[sg [125]]),.mk 16 [] (kN (l.map fun x=>(g x).1)),s+(l.map fun x=>(g x).2).sum+1,?_,?_,FW.lst _,?_,by omega,fun nm=>?_,.inr (show (13:Int)≤16 by decide)⟩
  ·rw[sW];exact LV.sg dU.2.2.2.2.2.2.2.2.1 (LV.end (RG.jn hg) dU.2.2.2.2.2.2.2.2.2)
  ·refine PW.lst fun k hk=>?_
   obtain⟨x,hx,rfl⟩:=List.mem_map.1 hk;exact⟨(hg x hx).pw,(hg x hx).fw.2.1⟩
  ·refine lI (d:=5+n) fun k hk=>?_
   obtain⟨w,hw,rfl⟩:=List.mem_map.1 hk;obtain⟨x,hx,rfl⟩:=List.mem_map.1 hw;exact(hg x hx).dp
  ·have hA:=RG.al hg nm (by omega)
   rw[List.map_id']at hA;have e:kN (l.map fun x=>(g x).1)=l.map fun x=>(g x).1.2:=List.map_map ..
   rw[e];exact EX.opr hB0 (n:= .mk 16 [] (l.map fun x=>(g x).1.2)) ⟨fun h=>by have h':(16:Int)=1:=h;omega,fun h=>by have h':(16:Int)=2:=h;omega,fun h=>by have h':(16:Int)=14:=h;omega⟩ hA (apM (n:= .mk 16 [] (l.map fun x=>(g x).1.2)) rfl l) hv
end
end
section
theorem arT:wrd 61=false∧srt 61≠1:=by unfold wrd srt;decide
theorem run61(r:List UInt8):run (61::r)=0:=by unfold run;rw[List.takeWhile_cons,arT.1];rfl
theorem num0:num []=false:=by unfold num;rfl
theorem nam0:nam []=false:=by unfold nam;rfl
theorem eD.asg{r:List UInt8}{ws:List Wrd}(h:eD (32::r) ws):eD (61::32::r) (Go.Proofs.YtegehclknhmkgaaGreatDoor.sg [61]::ws):=by
 refine .cons (w:=Go.Proofs.YtegehclknhmkgaaGreatDoor.sg [61]) (t:=32::r) (by rw[gp_c arT.2 (by decide)];rfl) ?_ (fun e=>by have e':(3:Int)=0:=e;omega) (fun e=>by cases e) h
 show fst (61::32::r)=_;unfold fst;rw[run61,List.take_zero,num0,if_neg (by decide),nam0,if_neg (by decide),if_neg ?_,show (61::32::r:List UInt8).take 1=[61]from rfl,if_pos (by unfold sg1;decide)]
 rintro⟨_,h9⟩;have e:(61::32::r:List UInt8).take 2=[61,32]:=rfl;rw[e]at h9
 revert h9;decide
theorem ana:nam [120]=true:=by unfold nam run wrd srt;decide
theorem tx_x:tx 2 [120]=true:=by
 have h:=ana;have h2:ownB [120]=false:=by rfl
 unfold tx gF;rw[h2];simp[h]
theorem nw32(r:List UInt8):NW (32::r):=agQ (by unfold wrd srt;decide)
theorem sp32:srt 32=1:=by unfold srt;decide
theorem adD{x:Nat}(h:x≠0)(h2:x < 10):aO x=[UInt8.ofNat (48+x)]:=by
 unfold aO;rw[if_neg h,nk h,show x / 10=0 by omega,jC,show x % 10=x by omega];rfl
theorem an7:aO 2=[50]:=adD (by decide) (by decide)
theorem asK:aO 3=[51]:=adD (by decide) (by decide)
theorem arh:aO 1=[49]:=adD (by decide) (by decide)
abbrev agf(s:List UInt8):List UInt8:=s++[59]
theorem anq{s:List UInt8}{ws:List Wrd}(h:LV s ws):eD (agf s) (ws++[sg [59]]):=by
 have:=LV.end h dU.2.2.2.1 [] [] (.inl rfl) (.nil List.drop_nil);simpa using this
end
section
attribute [local irreducible] IntKind.wrap Go1 Reg WP aS aT bR bO aQ aC ak aj aX Sat
attribute [local irreducible] bT bX bY dw bZ qv dR mf PrP qOk zOk vP dQ lz vF cq rqv eY bW dL dh gD jn sq aO qS zS tS tbS plS mdS vW jo
theorem agK{v:Vl}(hF:ah prog 32 [.agg (vlA v)] (.v (.bool true))){s:List UInt8}(c:ah prog 33 [.agg (vlA v)] (.v (str s))):
  ah prog 12 [.agg (vlA v)] (.tup [.one (.c (.val (str s))),eNo 0]):=by
 refine ah.fnF func12 results12 ntmps12 rfl rfl rfl (by simp[AV.ids,AV0.ids,Atom.ids]) rfl (fun w0 T B E0 hB=>?_)
 refine SX.goM ?_;exact .ok (aC.mk2 (ak.tmp rfl) (ak.tmp rfl))
section
end
end
section
section
theorem BL.one{B:Nat}{n:Nd}{k:Nat}{σ σ':Ms}(h:ST B n k σ σ'):BL B [n] k σ σ':=by
 have:=aj8 B [n] [k] (fun i=>if i=0 then σ else σ') rfl (Nat.le_of_ble_eq_true rfl) (fun i n' k' h1 h2=>by
  match i,h1,h2 with
  |0,h1,h2=>cases h1;cases h2;exact h)
 simpa using this
theorem BL.two{B:Nat}{n n':Nd}{k k':Nat}{σ σ1 σ':Ms}(h:ST B n k σ σ1)(h':ST B n' k' σ1 σ'):BL B [n,n'] (k+k') σ σ':=by
 have:=aj8 B [n,n'] [k,k'] (fun i=>if i=0 then σ else if i=1 then σ1 else σ') rfl (Nat.le_of_ble_eq_true rfl) (fun i m l h1 h2=>by
  match i,h1,h2 with
  |0,h1,h2=>cases h1;cases h2;exact h
  |1,h1,h2=>cases h1;cases h2;exact h')
 simpa using this
attribute [local irreducible] bT bX bY dw bZ qv dR mf PrP qOk zOk vP dQ lz vF cq rqv eY bW dL dh gD jn sq aO qS zS tS tbS plS mdS zmd eO iJ nmC qB
section
variable{B K Fu c d:Nat}{s:List UInt8}{v:Vl}(hB:64000≤B)(hB0:B≤1000000000)(hF0:Fu≤1000000000)(hR:RD B s v c d)(hd:d≤190)(hP:ah prog 12 [.agg (vlA v)] (.tup [.one (.c (.val (str s))),eNo 0]))(hl:s.length≤19500)
include hB hB0 hF0 hR hd hP hl
theorem ant(hF:c*s.length+1≤Fu):ah prog 7 [.v (str (agf s)),.agg (abm Fu B 200)] (.tup [.one (.c (.val (str (s++[10])))),eNo 0])∧ah prog 13 [.v (str (agf s)),.agg (abm Fu B 200)] (.tup [.agg (vlA v),eNo 0]):=by
 obtain⟨ws,m,k,hlv,hpw,hfw,hdp,hk,hex,hop⟩:=hR.h;have hL:=anq hlv;have hls:(agf s).length=s.length+1:=by show (s++[59]).length=_;rw[List.length_append];rfl
 have hSW:=SW.show hpw (by omega) hfw.2.2
 have hd1:dep (.mk 19 [] [m])≤191:=lI (d:=190) fun n hn=>by
  have e:=List.mem_singleton.1 hn;subst e;omega
 obtain⟨ts,e1,e2,e3⟩:=aaE (s:=agf s) (ks:=[(ws++[sg [59]],.mk 19 [] [m])]) (by simpa using hL) (by omega) (fun k hk=>by
  rw[List.mem_singleton]at hk;subst hk;exact⟨hSW,by simp⟩) (Nat.le_trans (uy (d:=191) fun n hn=>by
   have e:=List.mem_singleton.1 hn;subst e;exact hd1) (by decide))
 have hst:=ST.show (nm:=[]) (la:=v0) (tx:=[]) (n:= .mk 19 [] [m]) rfl rfl (hex []) hP (by rw[List.length_nil];omega)
 have hbl:=BL.one hst;obtain⟨F,rfl⟩:∃F,Fu=F+(k+1):=⟨Fu - (k+1),by omega⟩
 have cp:=aaB (F:=F+(k+1)) (B:=B) (D:=200) (Nat.le_refl _) (by omega) e1 e2 e3
 exact⟨aiO cp hbl (by omega) (by simp),ako rfl cp hbl (by omega)⟩
end
end
section
theorem PW.nam{t:List UInt8}(ht:tx 2 t=true):PW [(2,t)] (.mk 2 t []):=
 PW.ank (w:=(2,t)) (u:=[]) (fun r=>by
  show (!decide ((2:Int)=1)&&decide (t=[45]))=false;simp[asy ht (c:=45) (m:=[]) (by decide)]) fun l f o r hr hf ho a h=>by
 have h:rst l a=(2,t)::r:=by rw[h];simp
 rw[ng h,if_neg (show¬(2:Int)=1 by decide),ahw ht,if_pos rfl,if_neg (by rw[hr];decide)];rfl
theorem ais:nam mW=true:=by unfold nam run wrd srt;decide
theorem atC:tx 2 mW=true:=by
 have h:=ais;have h2:ownB mW=false:=by rfl
 unfold tx gF;rw[h2];simp[h]
theorem aqY{s:List UInt8}{ws:List Wrd}(h:LV s ws):eD ([120,32,61,32]++(s++[59,32,100,101,116,40,120,41,59])) ((2,[120])::sg [61]::(ws++sg [59]::(2,mW)::sg [40]::(2,[120])::sg [41]::[sg [59]])):=by
 have a1:eD [59] [sg [59]]:=eD.sg dU.2.2.2.1 (.nil List.drop_nil);have a2:eD [41,59] (sg [41]::[sg [59]]):=eD.sg dU.2.2.2.2.2.2.2.1 a1;have a3:eD [120,41,59] ((2,[120])::sg [41]::[sg [59]]):=eD.nam (w:=[120]) ana (agQ (abL dU.2.2.2.2.2.2.2.1)) a2;have a4:eD [40,120,41,59] (sg [40]::(2,[120])::sg [41]::[sg [59]]):=eD.sg dU.2.2.2.2.2.2.1 a3;have a5:eD [100,101,116,40,120,41,59] ((2,mW)::sg [40]::(2,[120])::sg [41]::[sg [59]]):=eD.nam (w:=mW) ais (agQ (abL dU.2.2.2.2.2.2.1)) a4;have a6:eD [59,32,100,101,116,40,120,41,59] (sg [59]::(2,mW)::sg [40]::(2,[120])::sg [41]::[sg [59]]):=eD.sg dU.2.2.2.1 (eD.sp sp32 a5);have a7:=h _ _ (agQ (abL dU.2.2.2.1)) a6;exact eD.nam (w:=[120]) ana (nw32 _) (eD.sp sp32 (eD.asg (eD.sp sp32 a7)))
abbrev awkZ:List Int:=[1,2,3,4]
abbrev oN:List Rat:=awkZ.map fun z:Int=>(z:Rat)
theorem atQ:aO 4=[52]:=adD (by decide) (by decide)
theorem aeh{n:Nat}:qS (((n:Nat):Int):Rat)=aO n:=by
 rw[rU,if_pos (Rat.den_intCast _),Rat.num_intCast];exact sO n
theorem as8:tbS 2 2 (oN.map qS)=[91,49,44,32,50,59,32,51,44,32,52,93]:=by
 have e1:qS ((1:Int):Rat)=[49]:=(aeh (n:=1)).trans arh;have e2:qS ((2:Int):Rat)=[50]:=(aeh (n:=2)).trans an7;have e3:qS ((3:Int):Rat)=[51]:=(aeh (n:=3)).trans asK;have e4:qS ((4:Int):Rat)=[52]:=(aeh (n:=4)).trans atQ;have e:oN.map qS=[[49],[50],[51],[52]]:=by
  show [qS ((1:Int):Rat),qS ((2:Int):Rat),qS ((3:Int):Rat),qS ((4:Int):Rat)]=_;rw[e1,e2,e3,e4]
 rw[e];rfl
theorem awk_d:akq 2 oN=((-2:Int):Rat):=by
 unfold akq;rw[aeS,aaG];decide+kernel
theorem asf:qS ((-2:Int):Rat)=[45,50]:=by
 rw[rU,if_pos (Rat.den_intCast _),Rat.num_intCast];show (if(-2:Int) < 0 then 45::aO 2 else aO 2)=_
 rw[if_pos (by decide),an7]
abbrev tAwk:List UInt8:=[120,32,61,32,91,49,44,32,50,59,32,51,44,32,52,93,59,32,100,101,116,40,120,41,59]
attribute [local irreducible] IntKind.wrap Go1 Reg WP aS aT bR bO aQ aC ak aj aX Sat
attribute [local irreducible] bT bX bY dw bZ qv dR mf PrP qOk zOk vP dQ lz vF cq rqv eY bW dL dh gD jn sq aO qS zS tS tbS plS mdS zmd eO iJ nmC qB akq
abbrev yJ:List Atom:=abm 1000000 1000000 200
theorem yj:ah prog 8 [] (.agg yJ):=by
 refine ah.fnF func8 results8 ntmps8 rfl rfl rfl (by simp[AV.ids,AV0.ids,Atom.ids]) rfl (fun w0 T B E0 hB=>?_)
 refine SX.goM ?_;exact mE (ak.aZ rfl rfl rfl) rfl
theorem arn:ah prog 7 [.v (str tAwk),.agg yJ] (.tup [.one (.c (.val (str [45,50,10]))),eNo 0]):=by
 have hb:∀v∈oN,RB v 1:=fun v hv=>by
  obtain⟨z,hz,rfl⟩:=List.mem_map.1 hv;refine RB.ofI ?_ (Nat.le_refl 1);rw[Nat.pow_one,bB];simp at hz
  rcases hz with rfl|rfl|rfl|rfl <;> decide
 have ls:(tbS 2 2 (oN.map qS)).length=12:=by rw[as8];rfl
 have C1:Cv 1 0 (eF 2 2 oN):= .one (.mat 2 2 _ rfl (by decide) (by decide) hb)
 have hR:=RD.mat (B:=1000000) (K:=1) (by decide) (by decide) (by decide) (by decide) (r:=2) (c:=2) (vs:=oN) rfl (by decide) (by decide) hb (by omega)
 obtain⟨z,hz1,hz2⟩:=VI.of (B:=1000000) C1 (by decide) (by decide) (by
  have e:tS (eF 2 2 oN)=tbS 2 2 (oN.map qS):=mY 2 2 oN;rw[e];omega) (by decide)
 have e:tS (eF 2 2 oN)=tbS 2 2 (oN.map qS):=mY 2 2 oN;rw[e]at hz1;obtain⟨ws,m,k,hlv,hpw,hfw,hdp,hk,hex,hop⟩:=hR.h;have hL:=aqY hlv;rw[as8]at hL;have hL:eD tAwk _:=hL;have hS1:=SW.set tx_x hpw (by omega)
 have hd0:dep (.mk 13 mW [.mk 2 [120] []])≤1:=lI (d:=0) fun n hn=>by
  rw[List.mem_singleton]at hn;subst hn;rw[zD];exact Nat.le_refl 0
 have hd1:dep (.mk 18 [120] [m])≤191:=lI (d:=190) fun n hn=>by
  have e:=List.mem_singleton.1 hn;subst e;omega
 have hd2:dep (.mk 19 [] [.mk 13 mW [.mk 2 [120] []]])≤2:=lI (d:=1) fun n hn=>by
  have e:=List.mem_singleton.1 hn;subst e;exact hd0
 have hS2:=SW.show (PW.call atC (ks:=[([(2,[120])],.mk 2 [120] [])]) (fun k hk=>by
  rw[List.mem_singleton]at hk;subst hk;exact⟨PW.nam tx_x,⟨_,_,rfl,fun r'=>rfl⟩⟩)) (by show dep (.mk 13 mW [.mk 2 [120] []])≤200;omega) (fun r=>⟨rfl,rfl,rfl⟩)
 obtain⟨ts,e1,e2,e3⟩:=aaE (s:=tAwk) (ks:=[((2,[120])::sg [61]::(ws++[sg [59]]),.mk 18 [120] [m]),(((2,mW)::sg [40]::([(2,[120])]++[sg [41]]))++[sg [59]],.mk 19 [] [.mk 13 mW [.mk 2 [120] []]])]) (by simpa using hL) (by decide) (fun k hk=>by
  rcases List.mem_cons.1 hk with rfl|hk
  ·exact⟨hS1,by simp⟩
  ·rw[List.mem_singleton]at hk;subst hk;exact⟨hS2,by simp⟩) (Nat.le_trans (uy (d:=192) fun n hn=>by
   rcases List.mem_cons.1 hn with rfl|hn
   ·exact Nat.le_trans hd1 (by decide)
   ·have e:=List.mem_singleton.1 hn;subst e;exact Nat.le_trans hd2 (by decide)) (by decide))
 have hs1:=ST.set (nm:=[]) (la:=v0) (tx:=[]) (n:= .mk 18 [120] [m]) rfl rfl (hex []);have hb1:(-2:Int).natAbs < WB ^ 1:=by rw[Nat.pow_one,bB];decide
 obtain⟨y,hy1,hy2⟩:=VI.num (B:=1000000) (K:=1) (by decide) (Nat.le_refl 1) (by decide) (RB.ofI (z:= -2) hb1 (Nat.le_refl 1))
 rw[asf]at hy1;have hy1:y≤2:=hy1;have cP:=ahj (RB.ofI (z:= -2) hb1 (Nat.le_refl 1)) (by decide)
 rw[asf]at cP;have cC:=acV (n:=2) (K:=1) (vs:=oN) rfl (by decide) hb (by decide) (by decide) (by decide) (by decide) (by decide)
 rw[awk_d]at cC;have hlk:eO (iJ [] [120] (eF 2 2 oN)) [120]=some (eF 2 2 oN):=by unfold iJ eO;rfl
 have hxe:=EX.name (B:=1000000) (by decide) (nm:=iJ [] [120] (eF 2 2 oN)) (n:= .mk 2 [120] []) rfl hlk hz2
 have hee:=EX.opr (B:=1000000) (by decide) (nm:=iJ [] [120] (eF 2 2 oN)) (n:= .mk 13 mW [.mk 2 [120] []]) ⟨fun h=>by have h':(13:Int)=1:=h;omega,fun h=>by have h':(13:Int)=2:=h;omega,fun h=>by have h':(13:Int)=14:=h;omega⟩ (AL.one hxe) (yO (n:= .mk 13 mW [.mk 2 [120] []]) rfl cC) hy2
 have hs2:=ST.show (nm:=iJ [] [120] (eF 2 2 oN)) (la:=v0) (tx:=[]) (n:= .mk 19 [] [.mk 13 mW [.mk 2 [120] []]]) rfl rfl hee cP (by decide)
 have hbl:=BL.two hs1 hs2;obtain⟨F,hF⟩:∃F,1000000=F+(k+1+(y+(z+1)+1+1)):=⟨1000000 - (k+1+(y+(z+1)+1+1)),by omega⟩
 have cp:=aaB (F:=F+(k+1+(y+(z+1)+1+1))) (B:=1000000) (D:=200) (Nat.le_refl _) (by decide) e1 e2 e3
 have h:=aiO cp hbl (by omega) (by decide)
 rw[←hF]at h;exact h
theorem oP:ah prog 9 [] (.v (.bool true)):=by
 have c:=yj;have h:=arn;refine ah.fnF func9 results9 ntmps9 rfl rfl rfl (by simp[AV.ids,AV0.ids,Atom.ids]) rfl (fun w0 T B E0 hB=>?_)
 refine SX.goM ?_;exact aJ rfl
section
variable{u:Vl}
theorem apN(F:ah prog 10 [.agg (vlA u),.v (.int .i64 3)] (.v (.bool false))):ah prog 4 [.agg (vlA u)] (.v (.bool true)):=by
 have a:=oP;refine ah.fnF func4 results4 ntmps4 rfl rfl rfl (by simp[AV.ids,AV0.ids,Atom.ids]) rfl (fun w0 T B E0 hB=>?_)
 refine SX.goM ?_;exact aJ rfl
theorem aqN(F:ah prog 10 [.agg (vlA u),.v (.int .i64 3)] (.v (.bool true)))(G:ah prog 11 [.agg (vlA u),.v (.int .i64 20)] (.v (.bool false))):ah prog 4 [.agg (vlA u)] (.v (.bool true)):=by
 have a:=oP;refine ah.fnF func4 results4 ntmps4 rfl rfl rfl (by simp[AV.ids,AV0.ids,Atom.ids]) rfl (fun w0 T B E0 hB=>?_)
 refine SX.goM ?_;exact aJ rfl
theorem amR(F:ah prog 10 [.agg (vlA u),.v (.int .i64 3)] (.v (.bool true)))(G:ah prog 11 [.agg (vlA u),.v (.int .i64 20)] (.v (.bool true)))(p1:ah prog 12 [.agg (vlA u)] (.tup [.one (.c (.val (str (tS u)))),eNo 0]))(h:19000 < (tS u).length)(h2:(tS u).length≤10000000000):ah prog 4 [.agg (vlA u)] (.v (.bool true)):=by
 have a:=oP;refine ah.fnF func4 results4 ntmps4 rfl rfl rfl (by simp[AV.ids,AV0.ids,Atom.ids]) rfl (fun w0 T B E0 hB=>?_)
 refine SX.goM ?_;exact aJ rfl
set_option maxRecDepth 20000 in
set_option maxHeartbeats 4000000 in
theorem auw(F:ah prog 10 [.agg (vlA u),.v (.int .i64 3)] (.v (.bool true)))(G:ah prog 11 [.agg (vlA u),.v (.int .i64 20)] (.v (.bool true)))(p1:ah prog 12 [.agg (vlA u)] (.tup [.one (.c (.val (str (tS u)))),eNo 0]))(h:(tS u).length≤19000)
  (V:ah prog 13 [.v (str (tS u++[59])),.agg yJ] (.tup [.agg (vlA u),eNo 0])) (Rn:ah prog 7 [.v (str (tS u++[59])),.agg yJ] (.tup [.one (.c (.val (str (tS u++[10])))),eNo 0])) (S:ah prog 14 [.agg (vlA u),.agg (vlA u)] (.v (.bool true))):
  ah prog 4 [.agg (vlA u)] (.v (.bool true)):=by
 have a:=oP;have P:=yj;have h2:decide (tS u++[10]=tS u++[10])=true:=decide_eq_true rfl;refine ah.fnF func4 results4 ntmps4 rfl rfl rfl (by simp[AV.ids,AV0.ids,Atom.ids]) rfl (fun w0 T B E0 hB=>?_)
 refine SX.goM ?_;exact aJ h2
end
theorem asr(u:Vl)(hu:rW u):ah prog 4 [.agg (vlA u)] (.v (.bool true)):=by
 have hF:=akn 3 u (by decide)
 by_cases hw:vW 3 u
 ·have F:=hF.1 hw;have z1:=vZ.few hw hu;have G:=ab8 _ 20 u z1 (by decide)
  cases h1:vF 20 u with
  |false=>
   rw[h1]at G;exact aqN F G
  |true=>
   rw[h1]at G;have C1:=Cv.of hw hu h1;have l1:=Nat.le_trans (tS_le 3 hw C1) (show tB 3≤10000000000 by decide)
   have F1:=C1.F (by decide) (by decide)
   have p1:=agK F1 (amu 4 C1 (by decide) l1)
   by_cases h:(tS u).length≤19000
   ·have S:=ao7 C1 C1 (by decide) (by decide) (by decide)
    rw[ahB]at S;have hR:=RD.of (B:=1000000) (K:=2) (by decide) (by decide) (by decide) (by decide) C1 (by decide) (by omega)
    have h3:=ant (B:=1000000) (Fu:=1000000) (by decide) (by decide) (by decide) hR (by decide) p1 (by omega) (by omega)
    exact auw F G p1 h h3.2 h3.1 S
   ·exact amR F G p1 (by omega) l1
 ·exact apN (hF.2 hw)
end
end
end Go.Proofs.YtegehclknhmkgaaGreatDoor