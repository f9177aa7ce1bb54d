import Derived.Test.YtegehclknhmkgaaGreatDoorA27
import Derived.Test.YtegehclknhmkgaaGreatDoorA11
set_option linter.unusedVariables false
set_option linter.unusedSimpArgs false
namespace Go.Proofs.YtegehclknhmkgaaGreatDoor
open Go.RowKit QM SX LA
def SWg(ws:List Wrd)(n:Nd):Prop:=∀(l:List Tok) (m a o:Nat) (r:List Wrd),o≤100→rst l a=ws++r→zV 600 l (m+1) a o= .ok n (a+ws.length)
theorem SWg.set{t:List UInt8}{ws:List Wrd}{m:Nd}(ht:tx 2 t=true)(h:PW ws m)(hd:dep m≤200):SWg ((2,t)::sg [61]::(ws++[sg [59]])) (.mk 18 t [m]):=fun l q a o r ho hr=>by
 have hr:rst l a=(2,t)::sg [61]::(ws++sg [59]::r):=by rw[hr];simp
 have hle:=xA hr;have he:acv (sg [59]::r):=kS (by decide) r
 have r1:=gL hr;have r2:=gL r1;rw[List.length_cons,List.length_cons]at hle;have hm:=h l (l.length+1) o (sg [59]::r) he (by omega) (by omega) (a+1+1) r2
 have hend:=gy r2;have n1:hS ((2,t)::sg [61]::(ws++sg [59]::r)) [105,102]=false:=tY ht (by rfl) _
 have n2:hS ((2,t)::sg [61]::(ws++sg [59]::r)) [102,111,114]=false:=tY ht (by rfl) _
 have h31:(kX l a&&isS l (a+1) [61])=true:=by
  rw[ou,aR,hr,r1,qJ ht];rfl
 show stG l (lev 600 l (l.length+1)).1 _ a o=_;unfold stG;rw[aR,hr,n1,if_neg (by decide),aR,hr,n2,if_neg (by decide),h31,if_pos rfl,abq hr,hm]
 show (if isS l (a+1+1+ws.length) [59]then _ else _)=_
 rw[aR,hend,if_pos (by rfl)]
 congr 1;simp;omega
theorem anw{l:List Tok}{q a o:Nat}{ws r:List Wrd}{n:Nd}(h:SWg ws n)(hn:∀r',hS (ws++r') [125]=false)(ho:o+1≤100)(hr:rst l a=sg [123]::(ws++sg [125]::r)):acN 600 l (zV 600 l (q+1)) a o= .ok (.mk 22 [] [n]) (a+1+ws.length+1):=by
 have r1:=gL hr;have r2:=gy r1;have hl:=aco hr (by simp)
 rw[List.length_cons]at hl;unfold acN;rw[aR,hr,if_pos (by rfl)]
 refine abx (by omega) ?_
 unfold mh;rw[aR,r1,hn,if_neg (by decide),h l q (a+1) (o+1) _ ho r1]
 obtain⟨k,hk⟩:∃k,l.length=k+1:=⟨l.length - 1,by omega⟩
 rw[hk]
 dsimp only
 unfold mh;rw[aR,r2,if_pos (by rfl)];rfl
abbrev acX:List UInt8:=[102,111,114]
theorem SW.for{t:List UInt8}{w1 w2 w3:List Wrd}{m1 m2 n:Nd}(ht:tx 2 t=true)(h1:PW w1 m1)(h2:PW w2 m2)(d1:dep m1≤200)(d2:dep m2≤200)(h3:SWg w3 n)(hn:∀r',hS (w3++r') [125]=false):
  SW ((2,acX)::(2,t)::sg [61]::(w1++sg [46,46]::(w2++sg [123]::(w3++[sg [125]])))) (.mk 21 t [m1,m2,.mk 22 [] [n]]):=fun l a r hr=>by
 have hr:rst l a=(2,acX)::(2,t)::sg [61]::(w1++sg [46,46]::(w2++sg [123]::(w3++sg [125]::r))):=by rw[hr];simp
 have hle:=xA hr;have r1:=gL hr;have r2:=gL r1;have r3:=gL r2;have r4:=gy r3;have r5:=gL r4;have r6:=gy r5;simp only[List.length_cons,List.length_append]at hle;obtain⟨q,hq⟩:∃q,l.length=q+1:=⟨l.length - 1,by omega⟩
 have p1:=h1 l (l.length+1) 0 _ (kS (by decide) _) (by simp only[List.length_cons,List.length_append];omega) (by omega) (a+1+1+1) r3
 have p2:=h2 l (l.length+1) 0 _ (kS (by decide) _) (by simp only[List.length_cons,List.length_append];omega) (by omega) (a+1+1+1+w1.length+1) r5
 have p3:=anw (q:=q) (o:=0) h3 hn (by omega) r6
 rw[←hq]at p3;have n1:hS ((2,acX)::(2,t)::sg [61]::(w1++sg [46,46]::(w2++sg [123]::(w3++sg [125]::r)))) [105,102]=false:=rfl;have n2:hS ((2,acX)::(2,t)::sg [61]::(w1++sg [46,46]::(w2++sg [123]::(w3++sg [125]::r)))) [102,111,114]=true:=rfl;show stG l (lev 600 l (l.length+1)).1 (acN 600 l (zV 600 l l.length)) a 0=_;unfold stG;rw[aR,hr,n1,if_neg (by decide),aR,hr,n2,if_pos rfl]
 unfold ahF;rw[ou,r1,qJ ht,if_pos rfl,aR,r2,if_pos (by rfl),abq r1,p1]
 dsimp only
 rw[aR,r4,if_pos (by rfl),p2]
 dsimp only
 rw[p3];show Res.ok _ _=_
 congr 1;simp;omega
theorem bg.dd{r:List UInt8}{ws:List Wrd}(h:bg r ws):bg (46::46::r) (Go.Proofs.YtegehclknhmkgaaGreatDoor.sg [46,46]::ws):=by
 have w46:wrd 46=false∧srt 46≠1:=by unfold wrd srt;decide
 have run46:∀r:List UInt8,run (46::r)=0:=fun r=>by unfold run;rw[List.takeWhile_cons,w46.1];rfl
 refine .cons (w:=Go.Proofs.YtegehclknhmkgaaGreatDoor.sg [46,46]) (t:=r) (by rw[ajV w46.2 (by decide)];rfl) ?_ (fun e=>by have e':(3:Int)=0:=e;omega) (fun e=>by cases e) h
 show fst (46::46::r)=_;unfold fst;rw[run46,List.take_zero,num0,if_neg (by decide),nam0,if_neg (by decide),if_pos ⟨by simp,.inr (.inr (.inr rfl))⟩];rfl
theorem adH:nam [115]=true:=by unfold nam run wrd srt;decide
theorem ak8:nam [105]=true:=by unfold nam run wrd srt;decide
theorem am6:nam acX=true:=by unfold nam run wrd srt;decide
theorem tx_s:tx 2 [115]=true:=by
 have h:=adH;have h2:ownB [115]=false:=by rfl
 unfold tx fV;rw[h2];simp[h]
theorem tx_i:tx 2 [105]=true:=by
 have h:=ak8;have h2:ownB [105]=false:=by rfl
 unfold tx fV;rw[h2];simp[h]
theorem afi:aO 0=[48]:=by unfold aO;rw[if_pos rfl]
theorem num_0:num [48]=true:=by have h:=mH (x:=0) (by rw[afi];decide);rwa [afi]at h
theorem lv_z{z:Int}(h:(aO z.natAbs).length≤2000):LV (zS z) (zWd z):=LV.zS h
theorem PW.plusN{t u:List UInt8}(ht:tx 2 t=true)(hu:tx 2 u=true):PW ((2,t)::sg [43]::[(2,u)]) (.mk 4 [] [.mk 2 t [],.mk 2 u []]):=fun l f o r hr hf ho a ha=>by
 have ha:rst l a=(2,t)::sg [43]::(2,u)::r:=ha;have e1:=gL ha;have e2:=gL e1;have e3:=gL e2;have hpos:1≤((2,t)::sg [43]::[(2,u)]++r).length:=by simp
 obtain⟨f,rfl⟩:∃k,f=k+1:=⟨f - 1,by omega⟩
 show wB l (unG 600 l (lev 600 l f).1 (lev 600 l f).2) a o=_;have hh:∀{w:List UInt8} (hw:tx 2 w=true) (r':List Wrd),hS ((2,w)::r') [45]=false:=fun {w} hw r'=>by
  show (!decide ((2:Int)=1)&&decide (w=[45]))=false;simp[aiH hw (c:=45) (m:=[]) (by decide)]
 have q1:lU 600 l (lev 600 l f).1 a o= .ok (.mk 2 t []) (a+1):=by
  rw[lK ha,if_neg (show¬(2:Int)=1 by decide),qJ ht,if_pos rfl,if_neg (fun e=>by
   have e':(!decide ((3:Int)=1)&&decide (([43]:List UInt8)=[40]))=true:=e;exact absurd e' (by decide))]
 have q2:lU 600 l (lev 600 l f).1 (a+1+1) o= .ok (.mk 2 u []) (a+1+1+1):=by
  rw[lK e2,if_neg (show¬(2:Int)=1 by decide),qJ hu,if_pos rfl,if_neg (by rw[hr _ (by decide)];decide)]
 have u1:unG 600 l (lev 600 l f).1 (lev 600 l f).2 a o= .ok (.mk 2 t []) (a+1):=rQ q1 (by rw[ha];exact hh ht _) (by rw[e1];rfl) (by rw[e1];rfl)
 have u2:unG 600 l (lev 600 l f).1 (lev 600 l f).2 (a+1+1) o= .ok (.mk 2 u []) (a+1+1+1):=rQ q2 (by rw[e2];exact hh hu _) (by rw[e3];exact hr _ (by decide)) (by rw[e3];exact hr _ (by decide))
 have p1:zM l (unG 600 l (lev 600 l f).1 (lev 600 l f).2) a o= .ok (.mk 2 t []) (a+1):=qO u1 (by rw[e1];rfl) (by rw[e1];rfl)
 have p2:zM l (unG 600 l (lev 600 l f).1 (lev 600 l f).2) (a+1+1) o= .ok (.mk 2 u []) (a+1+1+1):=qO u2 (by rw[e3];exact hr _ (by decide)) (by rw[e3];exact hr _ (by decide))
 have hc:=amV (l:=l) (s1:=[43]) (s2:=[45]) (x:=4) (y:=5) p1 (by rw[e1];rfl) p2 (by rw[e3];exact hr _ (by decide)) (by rw[e3];exact hr _ (by decide))
 have hx:wB l (unG 600 l (lev 600 l f).1 (lev 600 l f).2) a o= .ok (.mk 4 [] [.mk 2 t [],.mk 2 u []]) (a+1+1+1):=abn hc (by rw[e3];exact hr _ (by decide)) (by rw[e3];exact hr _ (by decide)) (by rw[e3];exact hr _ (by decide)) (by rw[e3];exact hr _ (by decide))
 exact hx
abbrev yM:List UInt8:=[115,32,61,32,48,59,32,102,111,114,32,105,32,61,32]
abbrev xW:List UInt8:=[32,46,46,32]
abbrev uJ:List UInt8:=[32,123,32,115,32,61,32,115,32,43,32,105,59,32,125,32,115,59]
abbrev wSum:List Wrd:=(2,[115])::sg [61]::([(2,[115]),sg [43],(2,[105])]++[sg [59]])
abbrev wFor(z1 z2:Int):List Wrd:=(2,acX)::(2,[105])::sg [61]::(zWd z1++sg [46,46]::(zWd z2++sg [123]::(wSum++[sg [125]])))
theorem al6{z1 z2:Int}(h1:(aO z1.natAbs).length≤2000)(h2:(aO z2.natAbs).length≤2000):bg (yM++(zS z1++(xW++(zS z2++uJ)))) ((2,[115])::sg [61]::(1,[48])::sg [59]::(wFor z1 z2++[(2,[115]),sg [59]])):=by
 have s59:=eP.2.2.2.1;have s123:=eP.2.2.2.2.2.2.2.2.1;have s125:=eP.2.2.2.2.2.2.2.2.2;have a1:bg [59] [sg [59]]:=bg.sg s59 (.nil List.drop_nil);have a2:bg [32,115,59] [(2,[115]),sg [59]]:=bg.sp nR (bg.nam (w:=[115]) adH (aaf (rV s59)) a1);have a3:bg [32,125,32,115,59] [sg [125],(2,[115]),sg [59]]:=bg.sp nR (bg.sg s125 a2);have a4:bg [59,32,125,32,115,59] [sg [59],sg [125],(2,[115]),sg [59]]:=bg.sg s59 a3;have a5:bg [32,105,59,32,125,32,115,59] [(2,[105]),sg [59],sg [125],(2,[115]),sg [59]]:=bg.sp nR (bg.nam (w:=[105]) ak8 (aaf (rV s59)) a4);have a6:bg [32,43,32,105,59,32,125,32,115,59] [sg [43],(2,[105]),sg [59],sg [125],(2,[115]),sg [59]]:=bg.sp nR (bg.sg sg43 a5);have a7:bg [32,115,32,43,32,105,59,32,125,32,115,59] [(2,[115]),sg [43],(2,[105]),sg [59],sg [125],(2,[115]),sg [59]]:=bg.sp nR (bg.nam (w:=[115]) adH (aeh _) a6);have a8:bg [32,61,32,115,32,43,32,105,59,32,125,32,115,59] [sg [61],(2,[115]),sg [43],(2,[105]),sg [59],sg [125],(2,[115]),sg [59]]:=bg.sp nR (bg.asg a7);have a9:bg [32,115,32,61,32,115,32,43,32,105,59,32,125,32,115,59] [(2,[115]),sg [61],(2,[115]),sg [43],(2,[105]),sg [59],sg [125],(2,[115]),sg [59]]:=bg.sp nR (bg.nam (w:=[115]) adH (aeh _) a8);have b1:bg uJ (sg [123]::(2,[115])::sg [61]::(2,[115])::sg [43]::(2,[105])::sg [59]::sg [125]::[(2,[115]),sg [59]]):=bg.sp nR (bg.sg s123 a9);have b2:=lv_z h2 _ _ (aeh _) b1;have b3:=bg.sp nR (bg.dd (bg.sp nR b2));have b4:=lv_z h1 _ _ (aeh _) b3;have c1:=bg.sp nR (bg.asg (bg.sp nR b4));have c2:=bg.sp nR (bg.nam (w:=[105]) ak8 (aeh _) c1);have c3:=bg.sp nR (bg.nam (w:=acX) am6 (aeh _) c2);have c4:=bg.sg s59 c3;have c5:=bg.sp nR (bg.num (w:=[48]) num_0 (aaf (rV s59)) c4);have c6:=bg.sp nR (bg.asg c5);have c7:=bg.nam (w:=[115]) adH (aeh _) c6;have e:(2,[115])::sg [61]::(1,[48])::sg [59]::(wFor z1 z2++[(2,[115]),sg [59]])=(2,[115])::sg [61]::(1,[48])::sg [59]::(2,acX)::(2,[105])::sg [61]::(zWd z1++sg [46,46]::(zWd z2++sg [123]::(2,[115])::sg [61]::(2,[115])::sg [43]::(2,[105])::sg [59]::sg [125]::[(2,[115]),sg [59]])):=by simp
 rw[e];exact c7
section
theorem agH{x y:Int}:nZ x y≤0↔x≤y:=by
 unfold nZ
 split
 ·omega
 ·split <;> omega
attribute [local irreducible] IntKind.wrap Go1 Reg WP aN aQ bM bI aL aC aj ah aT Sat
attribute [local irreducible] dz bU bV dA bT qv dN mf PrP qOk zOk vP dZ lz vF cq rqv fT dJ eD bX gD jn sq aO qS zS tS tbS plS mdS zmd dF eG nmC qB abk nZ
theorem VI.int{Bt:Nat}(hBt:64000≤Bt){z:Int}(hz:z.natAbs < WB ^ 1):VI Bt 1 (vI z):=by
 obtain⟨s,_,h⟩:=VI.num (B:=Bt) (K:=1) hBt (Nat.le_refl 1) (by decide) (RB.ofI hz (Nat.le_refl 1))
 exact⟨h.n,h.b,uN (vI z) (fun _=>0) ⟨fun h=>by have h':(1:Int)=2:=h;omega,fun h=>by have h':(1:Int)=3:=h;omega,fun h=>by have h':(1:Int)=4:=h;omega,fun h=>by have h':(1:Int)=5:=h;omega⟩ (Nat.zero_le _) (Nat.zero_le _) (fun x hx=>by cases hx)⟩
theorem dU{z:Int}(h:z.natAbs≤1000000000):z.natAbs < WB ^ 1:=by rw[Nat.pow_one,bY];omega
theorem aau{z:Int}(h:z.natAbs≤1000000000):PureOK Tryz.prog 193 [.agg (q4A (rq (cq (z:Rat))))] (.tup [.agg (zN z),.one (.c (.val (.bool true)))]):=by
 have cw:=ag8 (RB.ofI (dU h) (Nat.le_refl 1)) (by decide)
 rw[if_pos (Rat.den_intCast z),decide_eq_true (Rat.den_intCast z),Rat.num_intCast]at cw;exact cw
set_option maxRecDepth 20000 in
set_option maxHeartbeats 4000000 in
theorem aox{Bt:Nat}(hBt:64000≤Bt)(hB0:Bt≤1000000000){t:List UInt8}{m1 m2 blk:Nd}{z1 z2:Int}{k1 k2 kb cnt:Nat}(σ:Nat→Ms)(hz1:z1.natAbs≤1000000)(hz2:z2.natAbs≤1000000)(hcn:cnt≤1000000)
  (h1:EX Bt (σ 0).1 m1 k1 (vI z1)) (h2:EX Bt (σ 0).1 m2 k2 (vI z2)) (hlt:∀j,j < cnt→z1+(j:Int)≤z2) (hend:¬z1+(cnt:Int)≤z2)
  (hb:∀j,j < cnt→ST Bt blk kb (eG (σ j).1 t (vI (z1+(j:Int))),(σ j).2) (σ (j+1))) (F:Nat) (hF:F+(k1+k2+cnt*(2+kb))≤1000000000):
  ah Tryz.prog 143 [.ptr 81 0,.agg (ndM (.mk 21 t [m1,m2,blk]))] (MP (F+(k1+k2+cnt*(2+kb))) Bt (σ 0).1 (σ 0).2.1 (σ 0).2.2) ⟨.tup [],MQ F Bt (σ cnt).1 (σ cnt).2.1 (σ cnt).2.2⟩:=by
 have w1:=aau (z:=z1) (by omega)
 have w2:=aau (z:=z2) (by omega)
 have o1:=ajt;have e0:[vI z1,vI z2][0]? =some (vI z1):=rfl;have e1:[vI z1,vI z2][1]? =some (vI z2):=rfl;have e2:[m1,m2,blk][2]? =some blk:=rfl
 haveI b2:Bd z2 1:=⟨dU (by omega)⟩
 have hcb:cnt*(2+kb)≤1000000000:=by omega
 obtain⟨u,hu⟩:∃u,u=wrt (σ 0).2.2:=⟨_,rfl⟩;have cA:=AL.two h1 h2 (F+cnt*(2+kb)) u (σ 0).2.1 (σ 0).2.2 (by omega)
 rw[show F+(k1+k2+cnt*(2+kb))=F+cnt*(2+kb)+(k1+k2)by omega]
 refine ah.fnA Tryz.func143 Tryz.results143 Tryz.ntmps143 rfl rfl rfl rfl rfl rfl rfl rfl (fun w0 T B E0 hB=>?_)
 refine qE rfl rfl rfl rfl rfl ?_;rw[←hu];cases u <;> (
  refine SX.goM ?_;refine SX.G.jX (j:=0) (r:=aF 3 ndE [m1,m2,blk]) ?_ rfl rfl rfl (by decide) (by show (2:Int)≤((3:Nat):Int);decide)
  refine SX.goM ?_;refine W.lC (fun j fu=>j≤cnt∧fu=F+(cnt - j)*(2+kb)) (fun j fu=>[(0,.ptr 81 0),(3,.ptr 3 0),(7,.ptr 7 0),(9,.ptr 9 0)]) (fun j fu=>[(3,.box 86 (ndM (.mk 21 t [m1,m2,blk]))),(7,.box 27 (zN z2)),(9,.box 27 (zN (z1+(j:Int)))),(81,.abs (kE fu Bt (σ j).1 (σ j).2.1 (σ j).2.2))]) (fun j fu=>cnt - j) 0 (F+cnt*(2+kb)) ⟨Nat.zero_le _,rfl⟩ (fun j fu ⟨hj,hfu⟩=>?_)
   (by
    refine St.wK (rF hu rfl rfl rfl) ?_;rw[show z1+((0:Nat):Int)=z1 by simp]
    exact W.le)
  by_cases h:j < cnt
  ·have hle:=hlt j h;have hzj:(z1+(j:Int)).natAbs≤1000000:=by omega
   obtain⟨f',hf'⟩:∃f',f'=F+(cnt - (j+1))*(2+kb):=⟨_,rfl⟩;have hfe:fu=f'+kb+1+1:=by
    obtain⟨m,hm⟩:∃m,cnt - j=m+1:=⟨cnt - j - 1,by omega⟩
    rw[hfu,hf',hm,show cnt - (j+1)=m by omega,Nat.succ_mul];omega
   have hfl:f'≤F+cnt*(2+kb):=by
    rw[hf'];exact Nat.add_le_add_left (Nat.mul_le_mul_right _ (by omega)) _
   have hkb:kb+2≤cnt*(2+kb):=by
    have:=Nat.mul_le_mul_right (2+kb) (show 1≤cnt by omega)
    omega
   have hfl2:f'+kb+1+1≤1000000000:=by
    have h3:fu≤F+cnt*(2+kb):=by rw[hfu];exact Nat.add_le_add_left (Nat.mul_le_mul_right _ (by omega)) _
    omega
   subst hfe
   haveI bj:Bd (z1+(j:Int)) 1:=⟨dU (by omega)⟩
   have cw:PureOK Tryz.prog 187 [.agg (zN (z1+(j:Int)))] (.agg (vlA (vI (z1+(j:Int))))):=aaw (q:=z2v (z1+(j:Int))) (ZQ.made (dU (by omega))) (Nat.le_refl 1) (by decide)
   obtain⟨ut,hut⟩:∃ut:Bool,Hide (ut=true):=⟨true,⟨rfl⟩⟩;have ct:ah Tryz.prog 139 [.ptr 81 0,.v (.int .i64 1)] (MP (f'+kb+1+1) Bt (σ j).1 (σ j).2.1 (σ j).2.2) ⟨.v (.bool ut),MQ (f'+kb+1) Bt (σ j).1 (σ j).2.1 (σ j).2.2⟩:=by rw[hut.out];exact wG (f'+kb+1) Bt _ _ _ hfl2
   have hcmp:nZ (z1+(j:Int)) z2≤0:=agH.2 hle;refine SX.goM ?_;have hu2:=hut.out;refine W.agC [(0,.ptr 81 0),(3,.ptr 3 0),(7,.ptr 7 0),(9,.ptr 9 0)] [(3,.box 86 (ndM (.mk 21 t [m1,m2,blk]))),(7,.box 27 (zN z2)),(9,.box 27 (zN (z1+(j:Int)))),(81,.abs (kE (f'+kb+1) Bt (σ j).1 (σ j).2.1 (σ j).2.2))] ?_ ?_
   ·refine SX.goM ?_;exact W.le
   refine SX.WP.seq ?_;refine W.agC [(0,.ptr 81 0),(3,.ptr 3 0),(7,.ptr 7 0),(9,.ptr 9 0)] [(3,.box 86 (ndM (.mk 21 t [m1,m2,blk]))),(7,.box 27 (zN z2)),(9,.box 27 (zN (z1+(j:Int)))),(81,.abs (kE f' Bt (σ (j+1)).1 (σ (j+1)).2.1 (σ (j+1)).2.2))] ?_ ?_
   ·refine SX.WP.block ?_;refine SX.WP.seq ?_;refine qE rfl rfl rfl rfl rfl ?_;obtain⟨u2,hw⟩:∃u2,u2=wrt (σ j).2.2:=⟨_,rfl⟩;rw[←hw];have cc:=yR (f'+kb) Bt 1 (σ j).1 u2 (σ j).2.1 (σ j).2.2 (VI.int hBt (z:=z1+(j:Int)) (dU (by omega))) hB0 (by omega)
    have cS:=hb j h f' (by omega)
    refine W.agC [(0,.ptr 81 0),(3,.ptr 3 0),(7,.ptr 7 0),(9,.ptr 9 0)] [(3,.box 86 (ndM (.mk 21 t [m1,m2,blk]))),(7,.box 27 (zN z2)),(9,.box 27 (zN (z1+(j:Int)))),(81,.abs (kE (f'+kb) Bt (eG (σ j).1 t (vI (z1+(j:Int)))) (σ j).2.1 (σ j).2.2))] ?_ ?_
    ·cases u2 <;> (
      refine SX.WP.ajq 3 81 9 _ 73 (.it (.one (.own 82))) rfl rfl rfl rfl (SX.anx (by kernel_rfl)) (SX.aoZ [72] (by decide) (by kernel_rfl)) ?_
      refine SX.goM ?_;refine⟨SX.akR (by kernel_rfl),rfl,fun s2 hs2 ht2=>?_,by kernel_rfl,?_⟩
      ·have h72:=ht2 72 (by decide)
       rcases hs2 with h|h <;> exact SX.G.alE rfl rfl rfl (h72.trans rfl) h rfl
      refine SX.goM ?_;refine St.wK (rF (nm:=eG (σ j).1 t (vI (z1+(j:Int)))) hw rfl (by rw[afU];rfl) rfl) ?_
      exact W.le
     )
    ·refine SX.goM ?_;exact W.le
   refine SX.WP.seq ?_;refine SX.WP.seq ?_;refine W.agC [(0,.ptr 81 0),(3,.ptr 3 0),(7,.ptr 7 0),(86,.agg (zN (z1+(j:Int))))] [(3,.box 86 (ndM (.mk 21 t [m1,m2,blk]))),(7,.box 27 (zN z2)),(81,.abs (kE f' Bt (σ (j+1)).1 (σ (j+1)).2.1 (σ (j+1)).2.2))] ?_ ?_
   ·refine SX.goM ?_;exact W.le
   have e9:z1+(j:Int)+1=z1+((j+1:Nat):Int):=by omega
   have cAdd:PureOK Tryz.prog 194 [.agg (zN (z1+(j:Int))),.agg (zN 1)] (.agg (zN (z1+((j+1:Nat):Int)))):=by rw[←e9];exact aiZ.h (by omega)
   refine SX.goM ?_;exact W.kG (j+1) f' ⟨h,hf'⟩ (by omega)
  ·obtain rfl:j=cnt:=by omega
   have hcmp:¬nZ (z1+(j:Int)) z2≤0:=fun h2=>hend (agH.1 h2)
   haveI bj:Bd (z1+(j:Int)) 1:=⟨dU (by omega)⟩
   rw[Nat.sub_self,Nat.zero_mul,Nat.add_zero]at hfu;subst hfu;refine SX.goM ?_;exact gG (xs:=[]) trivial ⟨rfl,trivial⟩
 )
theorem ST.for{Bt:Nat}(hBt:64000≤Bt)(hB0:Bt≤1000000000){t:List UInt8}{m1 m2 blk:Nd}{z1 z2:Int}{k1 k2 kb cnt:Nat}(σ:Nat→Ms)(hz1:z1.natAbs≤1000000)(hz2:z2.natAbs≤1000000)(hcn:cnt≤1000000)
  (h1:EX Bt (σ 0).1 m1 k1 (vI z1)) (h2:EX Bt (σ 0).1 m2 k2 (vI z2)) (hlt:∀j,j < cnt→z1+(j:Int)≤z2) (hend:¬z1+(cnt:Int)≤z2)
  (hb:∀j,j < cnt→ST Bt blk kb (eG (σ j).1 t (vI (z1+(j:Int))),(σ j).2) (σ (j+1))):ST Bt (.mk 21 t [m1,m2,blk]) (k1+k2+cnt*(2+kb)+1) (σ 0) (σ cnt):=fun F hF=>by
 have c1:=wG (F+(k1+k2+cnt*(2+kb))) Bt (σ 0).1 (σ 0).2.1 (σ 0).2.2 (by omega)
 have cE:=aox hBt hB0 σ hz1 hz2 hcn h1 h2 hlt hend hb F (by omega)
 rw[show F+(k1+k2+cnt*(2+kb)+1)=F+(k1+k2+cnt*(2+kb))+1 from rfl,vH]
 refine ah.fnA Tryz.func87 Tryz.results87 Tryz.ntmps87 rfl rfl rfl rfl rfl rfl rfl rfl (fun w0 T B E0 hB=>?_)
 refine SX.goM ?_;exact gG (xs:=[]) trivial ⟨rfl,trivial⟩
end
section
theorem BL.three{B:Nat}{n n' n3:Nd}{k k' k3:Nat}{σ σ1 σ2 σ':Ms}(h:ST B n k σ σ1)(h':ST B n' k' σ1 σ2)(h3:ST B n3 k3 σ2 σ'):BL B [n,n',n3] (k+(k'+k3)) σ σ':=by
 have:=abj B [n,n',n3] [k,k',k3] (fun i=>if i=0 then σ else if i=1 then σ1 else if i=2 then σ2 else σ') rfl (Nat.le_of_ble_eq_true rfl) (fun i m l h1 h2=>by
  match i,h1,h2 with
  |0,h1,h2=>cases h1;cases h2;exact h
  |1,h1,h2=>cases h1;cases h2;exact h'
  |2,h1,h2=>cases h1;cases h2;exact h3)
 simpa using this
def iJ(z:Int):Nat→Int
 |0=>0
 |j+1=>iJ z j+(z+(j:Int))
theorem wR{z:Int}(h:z.natAbs≤60):∀j,j≤120→(iJ z j).natAbs≤j*180
 |0,_=>Nat.zero_le _
 |j+1,hj=>by
  have:=wR h j (by omega)
  unfold iJ;omega
def nmS(z:Int):Nat→Nms
 |0=>[([115],vI 0)]
 |j+1=>[([115],vI (iJ z (j+1))),([105],vI (z+(j:Int)))]
theorem nmS_i(z:Int):∀j:Nat,eG (nmS z j) [105] (vI (z+(j:Int)))=[([115],vI (iJ z j)),([105],vI (z+(j:Int)))]
 |0=>by unfold nmS iJ eG;rw[if_neg (by decide)];rfl
 |j+1=>by unfold nmS eG;rw[if_neg (by decide)];unfold eG;rw[if_pos rfl]
theorem nmS_s(z:Int)(j:Nat):eG [([115],vI (iJ z j)),([105],vI (z+(j:Int)))] [115] (vI (iJ z j+(z+(j:Int))))=nmS z (j+1):=by
 unfold eG;rw[if_pos rfl];rfl
theorem aoQ(z:Int)(j:Nat):dF [([115],vI (iJ z j)),([105],vI (z+(j:Int)))] [115]=some (vI (iJ z j)):=by unfold dF;rw[if_pos rfl]
theorem apo(z:Int)(j:Nat):dF [([115],vI (iJ z j)),([105],vI (z+(j:Int)))] [105]=some (vI (z+(j:Int))):=by
 unfold dF;rw[if_neg (by decide)];unfold dF;rw[if_pos rfl]
theorem aoL(z:Int)(j:Nat):dF (nmS z j) [115]=some (vI (iJ z j)):=by
 cases j with
 |zero=>unfold nmS dF;rw[if_pos rfl];rfl
 |succ j=>unfold nmS dF;rw[if_pos rfl]
theorem apH(z:Int):qS (z:Rat)=zS z:=by rw[qX,if_pos (Rat.den_intCast _),Rat.num_intCast]
theorem jP{x:Nat}(h:x≤1000000000):(aO x).length≤21:=by
 have:=je (x:=x) (k:=1) (by rw[Nat.pow_one,bY];omega)
 omega
abbrev qy:Nd:= .mk 4 [] [.mk 2 [115] [],.mk 2 [105] []]
abbrev adV:Nd:= .mk 22 [] [.mk 18 [115] [qy]]
abbrev aoi(z1 z2:Int):Nd:= .mk 21 [105] [zNd z1,zNd z2,adV]
attribute [local irreducible] IntKind.wrap Go1 Reg WP aN aQ bM bI aL aC aj ah aT Sat
attribute [local irreducible] dz bU bV dA bT qv dN mf PrP qOk zOk vP dZ lz vF cq rqv fT dJ eD bX gD jn sq aO qS zS tS tbS plS mdS zmd dF eG nmC qB abk iJ nmS
theorem aiV{Bt:Nat}(hBt:64000≤Bt)(hB0:Bt≤1000000000){z:Int}(hz:z.natAbs≤60){j:Nat}(hj:j < 120)(la:Vl)(tx:List UInt8):
  ST Bt adV 8 (eG (nmS z j) [105] (vI (z+(j:Int))),la,tx) (nmS z (j+1),la,tx):=by
 have hs:=wR hz j (by omega)
 have b1:(iJ z j).natAbs≤1000000000:=by omega
 have b2:(z+(j:Int)).natAbs≤1000000000:=by omega
 have b3:(iJ z j+(z+(j:Int))).natAbs≤1000000000:=by omega
 rw[nmS_i,←nmS_s];have x1:=EX.name hB0 (n:= .mk 2 [115] []) rfl (aoQ z j) (VI.int hBt (dU b1));have x2:=EX.name hB0 (n:= .mk 2 [105] []) rfl (apo z j) (VI.int hBt (dU b2));have cB:=aiE (RB.ofI (dU b1) (Nat.le_refl 1)) (RB.ofI (dU b2) (Nat.le_refl 1)) (by decide)
 rw[←Rat.intCast_add]at cB;have x3:=EX.opr hB0 (n:=qy) ⟨fun h=>by have h':(4:Int)=1:=h;omega,fun h=>by have h':(4:Int)=2:=h;omega,fun h=>by have h':(4:Int)=14:=h;omega⟩ (AL.two x1 x2) (akk (n:=qy) ⟨show (4:Int)≤4 by decide,show (4:Int)≤12 by decide⟩ cB) (VI.int hBt (dU b3))
 exact ST.block (n:=adV) rfl (BL.one (ST.set (n:= .mk 18 [115] [qy]) (la:=la) (tx:=tx) rfl rfl x3))
theorem akG{z1 z2:Int}(h1:z1.natAbs≤59)(h2:z2.natAbs≤59){cnt:Nat}(hlt:∀j,j < cnt→z1+(j:Int)≤z2)(hend:¬z1+(cnt:Int)≤z2)(hc:cnt≤119):
  PureOK Tryz.prog 7 [.v (str (yM++(zS z1++(xW++(zS z2++uJ))))),.agg abZ] (.tup [.one (.c (.val (str (zS (iJ z1 cnt)++[10])))),eNo 0]):=by
 have hs:=wR (z:=z1) (by omega) cnt (by omega)
 have l1:=jP (x:=z1.natAbs) (by omega)
 have l2:=jP (x:=z2.natAbs) (by omega)
 have hz:∀z:Int,(aO z.natAbs).length≤21→(zS z).length≤22:=fun z h=>by
  unfold zS
  split
  ·first|(rw[List.length_cons];omega)|(simp;omega)|(simp at*;omega)
  ·omega
 have lz1:=hz z1 l1;have lz2:=hz z2 l2;have lzs:=hz (iJ z1 cnt) (jP (by omega))
 obtain⟨k0,hk0,hE0⟩:=xV (B:=1000000) (K:=1) (by decide) (by decide) (by decide) (by decide) (x:=0) (by rw[Nat.pow_one];exact aU)
 obtain⟨k1,hk1,hE1⟩:=afu (B:=1000000) (K:=1) (by decide) (by decide) (by decide) (by decide) (dU (z:=z1) (by omega))
 obtain⟨k2,hk2,hE2⟩:=afu (B:=1000000) (K:=1) (by decide) (by decide) (by decide) (by decide) (dU (z:=z2) (by omega))
 rw[afi]at hk0 hE0;have hk0:k0≤2:=hk0;have e0:(((0:Nat):Int):Rat)=((0:Int):Rat):=rfl;have s1:=ST.set (nm:=[]) (la:=v0) (tx:=[]) (n:= .mk 18 [115] [nmN [48]]) rfl rfl (hE0 []);have en:eG ([]:Nms) [115] (vI ((0:Nat):Int))=nmS z1 0:=by unfold eG nmS;rfl
 rw[show (Nd.mk 18 [115] [nmN [48]]).text=[115]from rfl,en]at s1
 have s2:=ST.for (Bt:=1000000) (by decide) (by decide) (t:=[105]) (m1:=zNd z1) (m2:=zNd z2) (blk:=adV) (z1:=z1) (z2:=z2) (k1:=k1) (k2:=k2) (kb:=8) (cnt:=cnt) (fun j=>(nmS z1 j,v0,[])) (by omega) (by omega) (by omega) (hE1 _) (hE2 _) hlt hend (fun j hj=>aiV (by decide) (by decide) (by omega) (by omega) v0 [])
 have bS:(iJ z1 cnt).natAbs≤1000000000:=by omega
 have x3:=EX.name (B:=1000000) (by decide) (n:= .mk 2 [115] []) rfl (aoL z1 cnt) (VI.int (by decide) (dU bS))
 have cP:=zw (RB.ofI (dU bS) (Nat.le_refl 1)) (by decide)
 rw[apH]at cP;have s3:=ST.show (nm:=nmS z1 cnt) (la:=v0) (tx:=[]) (n:= .mk 19 [] [.mk 2 [115] []]) rfl rfl x3 cP (by rw[List.length_nil];omega)
 have hbl:=BL.three s1 s2 s3;have hL:=al6 (z1:=z1) (z2:=z2) (by omega) (by omega)
 have d1:=ags z1;have d2:=ags z2;have dn:∀t,dep (.mk 2 t [])≤0:=fun t=>by rw[uK];exact Nat.le_refl 0
 have dp:dep qy≤1:=jI (d:=0) fun n hn=>by
  rcases List.mem_cons.1 hn with rfl|hn
  ·exact dn _
  ·rw[List.mem_singleton]at hn;subst hn;exact dn _
 have ds:dep (.mk 18 [115] [qy])≤2:=jI (d:=1) fun n hn=>by rw[List.mem_singleton]at hn;subst hn;exact dp
 have db:dep adV≤3:=jI (d:=2) fun n hn=>by rw[List.mem_singleton]at hn;subst hn;exact ds
 have df:dep (aoi z1 z2)≤4:=jI (d:=3) fun n hn=>by
  rcases List.mem_cons.1 hn with rfl|hn
  ·omega
  ·rcases List.mem_cons.1 hn with rfl|hn
   ·omega
   ·rw[List.mem_singleton]at hn;subst hn;exact db
 have d0:dep (.mk 18 [115] [nmN [48]])≤4:=Nat.le_trans (jI (d:=0) fun n hn=>by rw[List.mem_singleton]at hn;subst hn;rw[qR];exact Nat.le_refl 0) (by decide)
 have d9:dep (.mk 19 [] [.mk 2 [115] []])≤4:=Nat.le_trans (jI (d:=0) fun n hn=>by rw[List.mem_singleton]at hn;subst hn;exact dn _) (by decide)
 have S1:=SW.set tx_s (PW.num [48]) (by rw[qR];exact Nat.zero_le _)
 have S2:=SW.for tx_i (PW.z z1) (PW.z z2) (by omega) (by omega) (SWg.set tx_s (PW.plusN tx_s tx_i) (by show dep qy≤200;omega)) (fun r'=>rfl)
 have S3:=SW.show (PW.nam tx_s) (by have:=dn [115];omega) (fun r=>⟨rfl,rfl,rfl⟩)
 obtain⟨ts,e1,e2,e3⟩:=xR (s:=yM++(zS z1++(xW++(zS z2++uJ)))) (ks:=[((2,[115])::sg [61]::([(1,[48])]++[sg [59]]),.mk 18 [115] [nmN [48]]),(wFor z1 z2,aoi z1 z2),([(2,[115])]++[sg [59]],.mk 19 [] [.mk 2 [115] []])]) (by simpa using hL) (by simp only[List.length_append,List.length_cons,List.length_nil];omega) (fun k hk=>by
  rcases List.mem_cons.1 hk with rfl|hk
  ·exact⟨S1,by simp⟩
  ·rcases List.mem_cons.1 hk with rfl|hk
   ·exact⟨S2,by simp⟩
   ·rw[List.mem_singleton]at hk;subst hk;exact⟨S3,by simp⟩) (Nat.le_trans (rD (d:=4) fun n hn=>by
   rcases List.mem_cons.1 hn with rfl|hn
   ·exact d0
   ·rcases List.mem_cons.1 hn with rfl|hn
    ·exact df
    ·have e:=List.mem_singleton.1 hn;subst e;exact d9) (by decide))
 have hcc:cnt*(2+8)≤1190:=by omega
 obtain⟨F,hF⟩:∃F,1000000=F+(k0+1+(k1+k2+cnt*(2+8)+1+(1+1+1))):=⟨1000000 - (k0+1+(k1+k2+cnt*(2+8)+1+(1+1+1))),by omega⟩
 have cp:=yu (F:=F+(k0+1+(k1+k2+cnt*(2+8)+1+(1+1+1)))) (B:=1000000) (D:=200) (Nat.le_refl _) (by simp only[List.length_append,List.length_cons,List.length_nil];omega) e1 e2 e3
 have h:=agx cp hbl (by omega) (by simp)
 rw[←hF]at h;simpa using h
end
section
theorem aj8(n:Int):(n.tmod 60).natAbs≤59:=by
 rcases Int.le_total 0 n with h0|h0
 ·obtain⟨m,rfl⟩:∃m:Nat,n=m:=⟨n.toNat,by omega⟩
  rw[show (60:Int)=((60:Nat):Int)from rfl,rM]
  omega
 ·obtain⟨m,rfl⟩:∃m:Nat,n= -(m:Int):=⟨(-n).toNat,by omega⟩
  rw[Int.neg_tmod,show (60:Int)=((60:Nat):Int)from rfl,rM]
  omega
theorem ao8(z:Int):iJ z 0=0:=rfl
theorem aoS(z:Int)(j:Nat):iJ z (j+1)=iJ z j+(z+(j:Int)):=rfl
attribute [local irreducible] IntKind.wrap Go1 Reg WP aN aQ bM bI aL aC aj ah aT Sat
attribute [local irreducible] dz bU bV dA bT qv dN mf PrP qOk zOk vP dZ lz vF cq rqv fT dJ eD bX gD jn sq aO qS zS tS tbS plS mdS zmd dF eG nmC qB abk iJ nmS
set_option maxRecDepth 20000 in
set_option maxHeartbeats 4000000 in
theorem ajf{a b z1 z2:Int}(ha:a.tmod 60=z1)(hb:b.tmod 60=z2)(h1:z1.natAbs≤59)(h2:z2.natAbs≤59):PureOK Tryz.prog 3 [.v (.int .i16 a),.v (.int .i16 b)] (.v (.bool true)):=by
 obtain⟨cnt,hc⟩:∃cnt,cnt=(z2 - z1+1).toNat:=⟨_,rfl⟩;have hlt:∀j:Nat,j < cnt→z1+(j:Int)≤z2:=fun j hj=>by omega
 have hend:¬z1+(cnt:Int)≤z2:=by omega
 have hc9:cnt≤119:=by omega
 have R:=akG h1 h2 hlt hend hc9;have e:yM++(zS z1++(xW++(zS z2++uJ)))=(((yM++zS z1)++xW)++zS z2)++uJ:=by simp only[List.append_assoc]
 rw[e]at R;have l1:=jP (x:=z1.natAbs) (by omega)
 have l2:=jP (x:=z2.natAbs) (by omega)
 have hz:∀z:Int,(aO z.natAbs).length≤21→(zS z).length≤22:=fun z h=>by
  unfold zS
  split
  ·first|(rw[List.length_cons];omega)|(simp;omega)|(simp at*;omega)
  ·omega
 have lz1:=hz z1 l1;have lz2:=hz z2 l2;have hs:=wR (z:=z1) (by omega)
 have hsc:=hs cnt (by omega)
 have lzs:=hz (iJ z1 cnt) (jP (by omega))
 have aw:=afg;have P:=vV
 haveI b1:Bd z1 1:=⟨dU (by omega)⟩
 haveI b2:Bd z2 1:=⟨dU (by omega)⟩
 haveI b3:Bd (iJ z1 cnt) 1:=⟨dU (by omega)⟩
 have o1:PureOK Tryz.prog 6 [.v (.int .i64 z1)] (.agg (zN z1)):=wQ.h ⟨by omega,by omega⟩
 have o2:PureOK Tryz.prog 6 [.v (.int .i64 z2)] (.agg (zN z2)):=wQ.h ⟨by omega,by omega⟩
 have o3:PureOK Tryz.prog 6 [.v (.int .i64 (iJ z1 cnt))] (.agg (zN (iJ z1 cnt))):=wQ.h ⟨by omega,by omega⟩
 have p1:PureOK Tryz.prog 5 [.agg (zN z1)] (.v (str (zS z1))):=(qH (k:=1)).h (by decide)
 have p2:PureOK Tryz.prog 5 [.agg (zN z2)] (.v (str (zS z2))):=(qH (k:=1)).h (by decide)
 have p3:PureOK Tryz.prog 5 [.agg (zN (iJ z1 cnt))] (.v (str (zS (iJ z1 cnt)))):=(qH (k:=1)).h (by decide)
 have hq:decide (zS (iJ z1 cnt)++[10]=zS (iJ z1 cnt)++[10])=true:=decide_eq_true rfl;have s0:=ao8 z1;refine PureOK.fnF Tryz.func3 Tryz.results3 Tryz.ntmps3 rfl rfl rfl (by simp[AV.ids,AV0.ids,Atom.ids]) rfl (fun w0 T B E0 hB=>?_)
 refine SX.goM ?_;refine W.loop (fun j:Nat=>j≤cnt) (fun j=>[(6,.v (.int .i64 z2)),(8,.v (str (zS (iJ z1 cnt)++[10]))),(9,.v (.int .i64 0)),(10,.v (.int .i64 (iJ z1 j))),(11,.v (.int .i64 (z1+(j:Int))))]) (fun _=>[]) (fun j=>cnt - j) 0 (Nat.zero_le _) (fun j hj=>?_)
  (by
   rw[s0,show z1+((0:Nat):Int)=z1 by simp]
   exact W.le)
 by_cases h:j < cnt
 ·have hle:=hlt j h;have hsj:=hs j (by omega)
  have e1:=aoS z1 j;refine SX.goM ?_;exact W.next (j+1) h (by omega)
 ·obtain rfl:j=cnt:=by omega
  refine SX.goM ?_;exact bK hq
theorem RunLoops_ok(a:Int)(ha: -32768≤a∧a≤32767)(b:Int)(hb: -32768≤b∧b≤32767):PureOK Tryz.prog 3 [.v (.int .i16 a),.v (.int .i16 b)] (.v (.bool true)):=
 ajf rfl rfl (aj8 a) (aj8 b)
end
end Go.Proofs.YtegehclknhmkgaaGreatDoor