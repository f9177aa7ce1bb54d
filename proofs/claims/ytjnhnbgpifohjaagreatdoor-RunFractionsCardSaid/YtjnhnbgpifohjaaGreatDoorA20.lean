import Derived.Test.YtjnhnbgpifohjaaGreatDoorA19
import Derived.Test.YtjnhnbgpifohjaaGreatDoorA12
set_option linter.unusedVariables false
set_option linter.unusedSimpArgs false
set_option linter.unusedSectionVars false
open Go.Proofs.Tryz
namespace Go.Proofs.YtjnhnbgpifohjaaGreatDoor
open Go.RowKit QM SX LA
section
theorem aqy{α:Type}{c:Nat}{f:α→Nat}(l:List α):(l.map fun x=>c*f x).sum=c*(l.map f).sum:=by
 induction l with
 |nil=>rfl
 |cons x l ih=>rw[List.map_cons,List.map_cons,List.sum_cons,List.sum_cons,ih,Nat.mul_add]
attribute [local irreducible] bS dn cK dD dh qv bW mf PrP qOk zOk vP eu lz vF cq rqv fB dw dN d9 gP sq aV qS zS tS zmd eG iN nmC qB
section
variable{B K:Nat}(hB:64000≤B)(hB0:B≤1000000000)(h1:1≤K)(hK:K≤90)
include hB hB0 h1 hK
theorem RD.zero{r c:Nat}(hr:r≤64)(hc:c≤64)(h0:r=0∨c=0):RD B (tbS r c []) (dQ r c []) 6 4:=by
 have hw:64 < WB ^ K:=by
  have:=Nat.pow_le_pow_right aS h1;rw[Nat.pow_one]at this;have e:=bV;omega
 have hr':r < WB ^ K:=by omega
 have hc':c < WB ^ K:=by omega
 obtain⟨kr,hkr,hEr⟩:=adN hB hB0 h1 hK hr';obtain⟨kc,hkc,hEc⟩:=adN hB hB0 h1 hK hc';have dr:=kF hr';have dc:=kF hc';have hrc:r*c=0:=by rcases h0 with rfl|rfl <;> simp
 have e0:tbS r c []=[122,101,114,111,40]++(aV r++([44,32]++(aV c++[41]))):=by unfold tbS;rw[if_pos h0]
 have hlen:(tbS r c []).length=8+(aV r).length+(aV c).length:=by
  rw[e0,List.length_append,List.length_append,List.length_append,List.length_append];have a1:([122,101,114,111,40]:List UInt8).length=5:=rfl;have a2:([44,32]:List UInt8).length=2:=rfl;have a3:([41]:List UInt8).length=1:=rfl;omega
 obtain⟨s,hs,hv⟩:=VI.of (B:=B) (Cv.one (n:=0) (.mat r c [] (by rw[hrc];rfl) hr hc (fun v h=>by cases h):Sh K _)) (by omega) (by omega) (by rw[tH];show (tbS r c []).length≤_;omega) hB
 rw[tH]at hs;have hs':s≤(tbS r c []).length:=hs;have ez:kV c (fun _ _=>0) r=[]:=List.length_eq_zero_iff.1 (by rw[uQ];exact hrc)
 have cC:=abd hr hc;rw[ez]at cC;refine⟨(2,lg)::sg [40]::(jW [([(1,aV r)],nmN (aV r)),([(1,aV c)],nmN (aV c))]++[sg [41]]),.mk 13 lg [nmN (aV r),nmN (aV c)],s+(kr+kc)+1,?_,?_,FW.zero _,?_,by omega,fun nm=>?_,.inr (show (13:Int)≤13 by decide)⟩
 ·rw[e0];exact LV.nam (w:=lg) ae5.1 gu.2.2.2.2.2.2.1 (LV.midB (LV.num (pW (by omega))) gu.2.2.1 (LV.end (LV.num (pW (by omega))) gu.2.2.2.2.2.2.2.1))
 ·refine PW.call aqL (ks:=[([(1,aV r)],nmN (aV r)),([(1,aV c)],nmN (aV c))]) fun k hk=>?_
  rcases List.mem_cons.1 hk with rfl|hk
  ·exact⟨PW.num _,(FW.num _ _).1⟩
  ·rw[List.mem_singleton]at hk;subst hk;exact⟨PW.num _,(FW.num _ _).1⟩
 ·refine Nat.le_trans (sI (d:=0) fun k hk=>?_) (by decide)
  rcases List.mem_cons.1 hk with rfl|hk
  ·rw[aae];exact Nat.le_refl 0
  ·rw[List.mem_singleton]at hk;subst hk;rw[aae];exact Nat.le_refl 0
 ·exact EX.opr hB0 (n:= .mk 13 lg [nmN (aV r),nmN (aV c)]) ⟨fun h=>by have h':(13:Int)=1:=h;omega,fun h=>by have h':(13:Int)=2:=h;omega,fun h=>by have h':(13:Int)=14:=h;omega⟩ (AL.two (hEr nm) (hEc nm)) (ahy (n:= .mk 13 lg [nmN (aV r),nmN (aV c)]) rfl cC) hv
theorem RD.mat{r c:Nat}{vs:List Rat}(hvl:vs.length=r*c)(hr:r≤64)(hc:c≤64)(h:∀v∈vs,RB v K)(ht:(tbS r c (vs.map qS)).length≤100000):RD B (tbS r c (vs.map qS)) (dQ r c vs) 6 4:=by
 by_cases h0:r=0∨c=0
 ·have hrc:r*c=0:=by rcases h0 with rfl|rfl <;> simp
  obtain rfl:vs=[]:=List.length_eq_zero_iff.1 (by omega)
  exact RD.zero hB hB0 h1 hK hr hc h0
 ·obtain⟨g,hg⟩:=aeF (P:=fun x gx=>RG B (qS x) (fC x) 4 2 gx) (l:=vs) (fun x hx=>(RD.q hB hB0 h1 hK (h x hx)).g)
  have hr1:1≤r:=by omega
  have hc1:1≤c:=by omega
  obtain⟨s,hs,hv⟩:=VI.of (B:=B) (Cv.one (n:=0) (.mat r c vs hvl hr hc h)) (by omega) (by omega) (by rw[tH];exact ht) hB
  rw[tH]at hs;have erows:(chk c r (vs.map qS)).map (jn 44)=(chk c r vs).map fun row=>jn 44 (row.map qS):=by rw[aeX,List.map_map];rfl
  have e0:tbS r c (vs.map qS)=91::(jn 59 ((chk c r vs).map fun row=>jn 44 (row.map qS))++[93]):=by unfold tbS;rw[if_neg h0,erows]
  generalize hJ:jn 59 ((chk c r vs).map fun row=>jn 44 (row.map qS))=J at e0
  have hlen:(tbS r c (vs.map qS)).length=J.length+2:=by rw[e0,List.length_cons,List.length_append];rfl
  have hJ1:=xV 59 ((chk c r vs).map fun row=>jn 44 (row.map qS))
  rw[hJ,List.map_map]at hJ1;have hgr:∀row∈chk c r vs,∀x∈row,RG B (qS x) (fC x) 4 2 (g x):=fun row hrow x hx=>hg x (aei hrow hx)
  have hks:((chk c r vs).map fun row=>(row.map fun x=>(g x).2).sum).sum≤4*J.length:=by
   have h2:=oD (f:=fun row:List Rat=>(row.map fun x=>(g x).2).sum) (g:=fun row=>4*(jn 44 (row.map qS)).length) (l:=chk c r vs) (fun row hrow=>by
    have a1:=RG.sum (hgr row hrow);have a2:=xV 44 (row.map qS);rw[List.map_map]at a2;have a3:(row.map (List.length ∘ qS)).sum=(row.map fun x=>(qS x).length).sum:=rfl
    omega)
   rw[aqy]at h2;have h3:((chk c r vs).map (List.length ∘ fun row=>jn 44 (row.map qS))).sum=((chk c r vs).map fun row=>(jn 44 (row.map qS)).length).sum:=rfl
   omega
  have hrJ:r≤J.length:=by
   have a1:=agd (r:=r) (c:=c) (l:=vs.map qS) (by rw[zq5];exact hvl) (aeT qS_1)
   rw[erows,List.map_map]at a1;have a2:=Nat.mul_le_mul_left r hc1;omega
  have erow:∀row:List Rat,kN (row.map fun x=>(g x).1)=row.map fun x=>(g x).1.2:=fun row=>List.map_map ..
  have hrne:∀row∈chk c r vs,row.length=c:=fun row hrow=>apA hvl hrow
  refine⟨sg [91]::(jM ((chk c r vs).map fun row=>row.map fun x=>(g x).1)++[sg [93]]),.mk 14 [] (kM ((chk c r vs).map fun row=>row.map fun x=>(g x).1)),s+(((chk c r vs).map fun row=>(row.map fun x=>(g x).2).sum).sum+(kM ((chk c r vs).map fun row=>row.map fun x=>(g x).1)).length)+1,?_,?_,FW.mat _,?_,?_,fun nm=>?_,.inr (show (13:Int)≤14 by decide)⟩
  ·rw[e0,←hJ];have a1:=LV.jn (c:=59) gu.2.2.2.1 ((chk c r vs).map fun row=>(jn 44 (row.map qS),jW (row.map fun x=>(g x).1))) (fun y hy=>by
    obtain⟨row,hrow,rfl⟩:=List.mem_map.1 hy;exact RG.jn (hgr row hrow))
   rw[List.map_map,List.map_map]at a1;have a2:jM ((chk c r vs).map fun row=>row.map fun x=>(g x).1)=aat (sg [59]) ((chk c r vs).map (Prod.snd ∘ fun row=>(jn 44 (row.map qS),jW (row.map fun x=>(g x).1)))):=by
    show aat _ _=_;rw[List.map_map];rfl
   rw[a2];exact LV.sg gu.2.2.2.2.1 (LV.end a1 gu.2.2.2.2.2.1)
  ·refine PW.mat (fun e=>?_) (fun x hx=>?_) (fun x hx k hk=>?_)
   ·have:=congrArg List.length e;rw[zq5,lW,List.length_nil]at this;omega
   ·obtain⟨row,hrow,rfl⟩:=List.mem_map.1 hx;intro e;have:=congrArg List.length e;rw[zq5,hrne row hrow,List.length_nil]at this;omega
   ·obtain⟨row,hrow,rfl⟩:=List.mem_map.1 hx;obtain⟨y,hy,rfl⟩:=List.mem_map.1 hk;exact(hgr row hrow y hy).pw
  ·refine sI (d:=3) fun n hn=>?_
   obtain⟨x,hx,rfl⟩:=List.mem_map.1 hn;obtain⟨row,hrow,rfl⟩:=List.mem_map.1 hx;refine sI (d:=2) fun k hk=>?_
   rw[erow]at hk;obtain⟨y,hy,rfl⟩:=List.mem_map.1 hk;exact(hgr row hrow y hy).dp
  ·rw[zq5,zq5,lW];omega
  ·have cM:=aaZ (L:=(chk c r vs).map fun row=>row.map fC) (r:=r) (c:=c) (K:=K) (vs:=vs) (by rw[zq5,lW]) (fun i R hR=>by
    rw[List.getElem?_map]at hR
    have hir:i < r:=by
     cases hx:(chk c r vs)[i]? with
     |none=>rw[hx]at hR;cases hR
     |some y=>have:=u7 hx;rwa [lW]at this
    rw[adJ hir]at hR;have hR':=Option.some.inj hR;subst hR';have hlt:=Nat.mul_le_mul_right c (show i+1≤r by omega)
    rw[Nat.succ_mul]at hlt;refine⟨by rw[zq5,List.length_take,List.length_drop];omega,fun k hk=>⟨vs[i*c+k]'(by omega),zq2 _,?_⟩⟩
    rw[List.getElem?_map,List.getElem?_take_of_lt hk,List.getElem?_drop,zq2 (by omega)];rfl) hvl hr1 hr hc h (by omega)
   refine EX.mat hB0 (n:= .mk 14 [] (kM ((chk c r vs).map fun row=>row.map fun x=>(g x).1))) rfl (fun F u la tx hF=>?_) hv
   refine arT _ ((chk c r vs).map fun row=>(row.map fun x=>(g x).2).sum) _ (by show ((chk c r vs).map _).length=(kM _).length;rw[zq5,zq5,zq5]) (by show _=(kM _).length;rw[zq5,zq5,zq5]) (by show (kM _).length≤_;rw[zq5,zq5,lW];omega) (fun i n k ws hn hk hw=>?_) cM F u la tx hF
   have hn':(kM ((chk c r vs).map fun row=>row.map fun x=>(g x).1))[i]? =some n:=hn
   rw[List.getElem?_map,List.getElem?_map]at hn'
   rw[List.getElem?_map]at hk hw
   cases hx:(chk c r vs)[i]? with
   |none=>rw[hx]at hk;cases hk
   |some row=>
    rw[hx]at hn' hk hw;cases hn';cases hk;cases hw;have hrow:=zq4 hx;show AL B nm (kN (row.map fun x=>(g x).1)) _ _
    rw[erow];exact RG.al (hgr row hrow) nm (by rw[hrne row hrow];omega)
end
end
section
attribute [local irreducible] bS dn cK dD dh qv bW mf PrP qOk zOk vP eu lz vF cq rqv fB dw dN d9 gP sq aV qS zS tS zmd eG iN nmC qB
section
variable{B K:Nat}(hB:64000≤B)(hB0:B≤1000000000)(h1:1≤K)(hK:K≤90)
include hB hB0 h1 hK
end
end
section
theorem arG:wrd 61=false∧srt 61≠1:=by unfold wrd srt;decide
theorem run61(r:List UInt8):run (61::r)=0:=by unfold run;rw[List.takeWhile_cons,arG.1];rfl
theorem num0:num []=false:=by unfold num;rfl
theorem nam0:nam []=false:=by unfold nam;rfl
theorem eB.asg{r:List UInt8}{ws:List Wrd}(h:eB (32::r) ws):eB (61::32::r) (Go.Proofs.YtjnhnbgpifohjaaGreatDoor.sg [61]::ws):=by
 refine .cons (w:=Go.Proofs.YtjnhnbgpifohjaaGreatDoor.sg [61]) (t:=32::r) (by rw[gp_c arG.2 (by decide)];rfl) ?_ (fun e=>by have e':(3:Int)=0:=e;omega) (fun e=>by cases e) h
 show fst (61::32::r)=_;unfold fst;rw[run61,List.take_zero,num0,if_neg (by decide),nam0,if_neg (by decide),if_neg ?_,show (61::32::r:List UInt8).take 1=[61]from rfl,if_pos (by unfold sg1;decide)]
 rintro⟨_,h9⟩;have e:(61::32::r:List UInt8).take 2=[61,32]:=rfl;rw[e]at h9
 revert h9;decide
theorem al4:nam [120]=true:=by unfold nam run wrd srt;decide
theorem tx_x:tx 2 [120]=true:=by
 have h:=al4;have h2:ownB [120]=false:=by rfl
 unfold tx gY;rw[h2];simp[h]
theorem nw32(r:List UInt8):NW (32::r):=ag0 (by unfold wrd srt;decide)
theorem sp32:srt 32=1:=by unfold srt;decide
theorem acQ{x:Nat}(h:x≠0)(h2:x < 10):aV x=[UInt8.ofNat (48+x)]:=by
 unfold aV;rw[if_neg h,nG h,show x / 10=0 by omega,jB,show x % 10=x by omega];rfl
theorem alG:aV 2=[50]:=acQ (by decide) (by decide)
theorem asK:aV 3=[51]:=acQ (by decide) (by decide)
theorem ap2:aV 1=[49]:=acQ (by decide) (by decide)
end
section
attribute [local irreducible] IntKind.wrap Go1 Reg WP aR aU bR bO aN aF ak aj aY Sat
attribute [local irreducible] bS dn cK dD dh qv bW mf PrP qOk zOk vP eu lz vF cq rqv fB dw dN d9 gP jn sq aV qS zS tS tbS plS mdS vW jv
section
end
end
section
section
theorem BL.two{B:Nat}{n n':Nd}{k k':Nat}{σ σ1 σ':Ms}(h:ST B n k σ σ1)(h':ST B n' k' σ1 σ'):BL B [n,n'] (k+k') σ σ':=by
 have:=aqD B [n,n'] [k,k'] (fun i=>if i=0 then σ else if i=1 then σ1 else σ') rfl (Nat.le_of_ble_eq_true rfl) (fun i m l h1 h2=>by
  match i,h1,h2 with
  |0,h1,h2=>cases h1;cases h2;exact h
  |1,h1,h2=>cases h1;cases h2;exact h')
 simpa using this
attribute [local irreducible] bS dn cK dD dh qv bW mf PrP qOk zOk vP eu lz vF cq rqv fB dw dN d9 gP jn sq aV qS zS tS tbS plS mdS zmd eG iN nmC qB
section
variable{B K Fu c d:Nat}{s:List UInt8}{v:Vl}(hB:64000≤B)(hB0:B≤1000000000)(hF0:Fu≤1000000000)(hR:RD B s v c d)(hd:d≤190)(hP:ah prog 462 [.agg (vlA v)] (.tup [.one (.c (.val (str s))),eNo 0]))(hl:s.length≤19500)
include hB hB0 hF0 hR hd hP hl
end
end
section
theorem PW.nam{t:List UInt8}(ht:tx 2 t=true):PW [(2,t)] (.mk 2 t []):=
 PW.prim (w:=(2,t)) (u:=[]) (fun r=>by
  show (!decide ((2:Int)=1)&&decide (t=[45]))=false;simp[ar6 ht (c:=45) (m:=[]) (by decide)]) fun l f o r hr hf ho a h=>by
 have h:rst l a=(2,t)::r:=by rw[h];simp
 rw[qz h,if_neg (show¬(2:Int)=1 by decide),ahd ht,if_pos rfl,if_neg (by rw[hr];decide)];rfl
theorem aiF:nam kY=true:=by unfold nam run wrd srt;decide
theorem asT:tx 2 kY=true:=by
 have h:=aiF;have h2:ownB kY=false:=by rfl
 unfold tx gY;rw[h2];simp[h]
theorem aq7{s:List UInt8}{ws:List Wrd}(h:LV s ws):eB ([120,32,61,32]++(s++[59,32,100,101,116,40,120,41,59])) ((2,[120])::sg [61]::(ws++sg [59]::(2,kY)::sg [40]::(2,[120])::sg [41]::[sg [59]])):=by
 have a1:eB [59] [sg [59]]:=eB.sg gu.2.2.2.1 (.nil List.drop_nil);have a2:eB [41,59] (sg [41]::[sg [59]]):=eB.sg gu.2.2.2.2.2.2.2.1 a1;have a3:eB [120,41,59] ((2,[120])::sg [41]::[sg [59]]):=eB.nam (w:=[120]) al4 (ag0 (aci gu.2.2.2.2.2.2.2.1)) a2;have a4:eB [40,120,41,59] (sg [40]::(2,[120])::sg [41]::[sg [59]]):=eB.sg gu.2.2.2.2.2.2.1 a3;have a5:eB [100,101,116,40,120,41,59] ((2,kY)::sg [40]::(2,[120])::sg [41]::[sg [59]]):=eB.nam (w:=kY) aiF (ag0 (aci gu.2.2.2.2.2.2.1)) a4;have a6:eB [59,32,100,101,116,40,120,41,59] (sg [59]::(2,kY)::sg [40]::(2,[120])::sg [41]::[sg [59]]):=eB.sg gu.2.2.2.1 (eB.sp sp32 a5);have a7:=h _ _ (ag0 (aci gu.2.2.2.1)) a6;exact eB.nam (w:=[120]) al4 (nw32 _) (eB.sp sp32 (eB.asg (eB.sp sp32 a7)))
abbrev awkZ:List Int:=[1,2,3,4]
abbrev oI:List Rat:=awkZ.map fun z:Int=>(z:Rat)
theorem asc:aV 4=[52]:=acQ (by decide) (by decide)
theorem acw{n:Nat}:qS (((n:Nat):Int):Rat)=aV n:=by
 rw[xW,if_pos (Rat.den_intCast _),Rat.num_intCast];exact zK n
theorem ar9:tbS 2 2 (oI.map qS)=[91,49,44,32,50,59,32,51,44,32,52,93]:=by
 have e1:qS ((1:Int):Rat)=[49]:=(acw (n:=1)).trans ap2;have e2:qS ((2:Int):Rat)=[50]:=(acw (n:=2)).trans alG;have e3:qS ((3:Int):Rat)=[51]:=(acw (n:=3)).trans asK;have e4:qS ((4:Int):Rat)=[52]:=(acw (n:=4)).trans asc;have e:oI.map qS=[[49],[50],[51],[52]]:=by
  show [qS ((1:Int):Rat),qS ((2:Int):Rat),qS ((3:Int):Rat),qS ((4:Int):Rat)]=_;rw[e1,e2,e3,e4]
 rw[e];rfl
theorem awk_d:afg 2 oI=((-2:Int):Rat):=by
 unfold afg;rw[ame,aeg];decide+kernel
theorem ar7:qS ((-2:Int):Rat)=[45,50]:=by
 rw[xW,if_pos (Rat.den_intCast _),Rat.num_intCast];show (if(-2:Int) < 0 then 45::aV 2 else aV 2)=_
 rw[if_pos (by decide),alG]
abbrev tAwk:List UInt8:=[120,32,61,32,91,49,44,32,50,59,32,51,44,32,52,93,59,32,100,101,116,40,120,41,59]
attribute [local irreducible] IntKind.wrap Go1 Reg WP aR aU bR bO aN aF ak aj aY Sat
attribute [local irreducible] bS dn cK dD dh qv bW mf PrP qOk zOk vP eu lz vF cq rqv fB dw dN d9 gP jn sq aV qS zS tS tbS plS mdS zmd eG iN nmC qB afg
abbrev ahV:List Atom:=agn 1000000 1000000 200
theorem af0:ah prog 37 [] (.agg ahV):=by
 refine ah.fnF func37 results37 ntmps37 rfl rfl rfl (by simp[AV.ids,AV0.ids,Atom.ids]) rfl (fun w0 T B E0 hB=>?_)
 refine SX.goM ?_;exact kR (ak.aX rfl rfl rfl) rfl
theorem apI:ah prog 36 [.v (str tAwk),.agg ahV] (.tup [.one (.c (.val (str [45,50,10]))),eNo 0]):=by
 have hb:∀v∈oI,RB v 1:=fun v hv=>by
  obtain⟨z,hz,rfl⟩:=List.mem_map.1 hv;refine RB.ofI ?_ (Nat.le_refl 1);rw[Nat.pow_one,bV];simp at hz
  rcases hz with rfl|rfl|rfl|rfl <;> decide
 have ls:(tbS 2 2 (oI.map qS)).length=12:=by rw[ar9];rfl
 have C1:Cv 1 0 (dQ 2 2 oI):= .one (.mat 2 2 _ rfl (by decide) (by decide) hb)
 have hR:=RD.mat (B:=1000000) (K:=1) (by decide) (by decide) (by decide) (by decide) (r:=2) (c:=2) (vs:=oI) rfl (by decide) (by decide) hb (by omega)
 obtain⟨z,hz1,hz2⟩:=VI.of (B:=1000000) C1 (by decide) (by decide) (by
  have e:tS (dQ 2 2 oI)=tbS 2 2 (oI.map qS):=tH 2 2 oI;rw[e];omega) (by decide)
 have e:tS (dQ 2 2 oI)=tbS 2 2 (oI.map qS):=tH 2 2 oI;rw[e]at hz1;obtain⟨ws,m,k,hlv,hpw,hfw,hdp,hk,hex,hop⟩:=hR.h;have hL:=aq7 hlv;rw[ar9]at hL;have hL:eB tAwk _:=hL;have hS1:=SW.set tx_x hpw (by omega)
 have hd0:dep (.mk 13 kY [.mk 2 [120] []])≤1:=sI (d:=0) fun n hn=>by
  rw[List.mem_singleton]at hn;subst hn;rw[aa1];exact Nat.le_refl 0
 have hd1:dep (.mk 18 [120] [m])≤191:=sI (d:=190) fun n hn=>by
  have e:=List.mem_singleton.1 hn;subst e;omega
 have hd2:dep (.mk 19 [] [.mk 13 kY [.mk 2 [120] []]])≤2:=sI (d:=1) fun n hn=>by
  have e:=List.mem_singleton.1 hn;subst e;exact hd0
 have hS2:=SW.show (PW.call asT (ks:=[([(2,[120])],.mk 2 [120] [])]) (fun k hk=>by
  rw[List.mem_singleton]at hk;subst hk;exact⟨PW.nam tx_x,⟨_,_,rfl,fun r'=>rfl⟩⟩)) (by show dep (.mk 13 kY [.mk 2 [120] []])≤200;omega) (fun r=>⟨rfl,rfl,rfl⟩)
 obtain⟨ts,e1,e2,e3⟩:=agz (s:=tAwk) (ks:=[((2,[120])::sg [61]::(ws++[sg [59]]),.mk 18 [120] [m]),(((2,kY)::sg [40]::([(2,[120])]++[sg [41]]))++[sg [59]],.mk 19 [] [.mk 13 kY [.mk 2 [120] []]])]) (by simpa using hL) (by decide) (fun k hk=>by
  rcases List.mem_cons.1 hk with rfl|hk
  ·exact⟨hS1,by simp⟩
  ·rw[List.mem_singleton]at hk;subst hk;exact⟨hS2,by simp⟩) (Nat.le_trans (aaP (d:=192) fun n hn=>by
   rcases List.mem_cons.1 hn with rfl|hn
   ·exact Nat.le_trans hd1 (by decide)
   ·have e:=List.mem_singleton.1 hn;subst e;exact Nat.le_trans hd2 (by decide)) (by decide))
 have hs1:=ST.set (nm:=[]) (la:=v0) (tx:=[]) (n:= .mk 18 [120] [m]) rfl rfl (hex []);have hb1:(-2:Int).natAbs < WB ^ 1:=by rw[Nat.pow_one,bV];decide
 obtain⟨y,hy1,hy2⟩:=VI.num (B:=1000000) (K:=1) (by decide) (Nat.le_refl 1) (by decide) (RB.ofI (z:= -2) hb1 (Nat.le_refl 1))
 rw[ar7]at hy1;have hy1:y≤2:=hy1;have cP:=agt (RB.ofI (z:= -2) hb1 (Nat.le_refl 1)) (by decide)
 rw[ar7]at cP;have cC:=vM (n:=2) (K:=1) (vs:=oI) rfl (by decide) hb (by decide) (by decide) (by decide) (by decide) (by decide)
 rw[awk_d]at cC;have hlk:eG (iN [] [120] (dQ 2 2 oI)) [120]=some (dQ 2 2 oI):=by unfold iN eG;rfl
 have hxe:=EX.name (B:=1000000) (by decide) (nm:=iN [] [120] (dQ 2 2 oI)) (n:= .mk 2 [120] []) rfl hlk hz2
 have hee:=EX.opr (B:=1000000) (by decide) (nm:=iN [] [120] (dQ 2 2 oI)) (n:= .mk 13 kY [.mk 2 [120] []]) ⟨fun h=>by have h':(13:Int)=1:=h;omega,fun h=>by have h':(13:Int)=2:=h;omega,fun h=>by have h':(13:Int)=14:=h;omega⟩ (AL.one hxe) (ahy (n:= .mk 13 kY [.mk 2 [120] []]) rfl cC) hy2
 have hs2:=ST.show (nm:=iN [] [120] (dQ 2 2 oI)) (la:=v0) (tx:=[]) (n:= .mk 19 [] [.mk 13 kY [.mk 2 [120] []]]) rfl rfl hee cP (by decide)
 have hbl:=BL.two hs1 hs2;obtain⟨F,hF⟩:∃F,1000000=F+(k+1+(y+(z+1)+1+1)):=⟨1000000 - (k+1+(y+(z+1)+1+1)),by omega⟩
 have cp:=agE (F:=F+(k+1+(y+(z+1)+1+1))) (B:=1000000) (D:=200) (Nat.le_refl _) (by decide) e1 e2 e3
 have h:=aqO cp hbl (by omega) (by decide)
 rw[←hF]at h;exact h
theorem sK:ah prog 5 [] (.v (.bool true)):=by
 have c:=af0;have h:=apI;refine ah.fnF func5 results5 ntmps5 rfl rfl rfl (by simp[AV.ids,AV0.ids,Atom.ids]) rfl (fun w0 T B E0 hB=>?_)
 refine SX.goM ?_;exact aP rfl
section
variable{u:Vl}
end
end
end
end Go.Proofs.YtjnhnbgpifohjaaGreatDoor