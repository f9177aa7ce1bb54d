import Derived.Test.YtmgfiodmdfaclaaGreatDoorA39
import Derived.Test.YtmgfiodmdfaclaaGreatDoorA19
set_option linter.unusedVariables false
set_option linter.unusedSimpArgs false
set_option linter.unusedSectionVars false
namespace Go.Proofs.YtmgfiodmdfaclaaGreatDoor
open Go.RowKit QM SX LA
section
theorem zF{f:Nd→Nd}{q:Res}{n:Nd}{b:Nat}(h:gM f q= .ok n b):∃m,n=f m:=by
 cases q with
 |ok m a=>cases h;exact⟨m,rfl⟩
 |bad e p m a o=>cases h
theorem apM{l:List Tok}{U:Gr}{a o b:Nat}{n:Nd}(h:rG l U a o= .ok n b)(hop:OP n):kE l U a o= .ok n b:=by
 unfold rG at h;cases hs:kE l U a o with
 |bad e p m a' o'=>rw[hs]at h;cases h
 |ok m c=>
  rw[hs]at h;have h':(if isS l c [61,61]then gM (fun k=> .mk 9 [] [m,k]) (kE l U (c+1) o)else if isS l c [33,61]then gM (fun k=> .mk 10 [] [m,k]) (kE l U (c+1) o)else if isS l c [60]then gM (fun k=> .mk 11 [] [m,k]) (kE l U (c+1) o)else if isS l c [60,61]then gM (fun k=> .mk 12 [] [m,k]) (kE l U (c+1) o)else Res.ok m c)= .ok n b:=h
  have hno:∀(x:Int) (ks:List Nd),9≤x→x≤12→n≠ .mk x [] ks:=fun x ks h1 h2 e=>by
   rw[e]at hop;rcases hop with h3|h3
   ·have h4:x≤8:=h3;omega
   ·have h4:13≤x:=h3;omega
  split at h'
  ·obtain⟨k,e⟩:=zF h';exact absurd e (hno 9 _ (by decide) (by decide))
  ·split at h'
   ·obtain⟨k,e⟩:=zF h';exact absurd e (hno 10 _ (by decide) (by decide))
   ·split at h'
    ·obtain⟨k,e⟩:=zF h';exact absurd e (hno 11 _ (by decide) (by decide))
    ·split at h'
     ·obtain⟨k,e⟩:=zF h';exact absurd e (hno 12 _ (by decide) (by decide))
     ·exact h'
theorem PW.eq{t:List UInt8}(ht:tx 2 t=true){ws:List Wrd}{m:Nd}(h:PW ws m)(hop:OP m):PW ((2,t)::sg [61,61]::ws) (.mk 9 [] [.mk 2 t [],m]):=fun l f o r hr hf ho a ha=>by
 have ha:rst l a=(2,t)::sg [61,61]::(ws++r):=ha;have e1:=jw ha;have e2:=jw e1;have hlen:((2,t)::sg [61,61]::ws++r).length=(ws++r).length+2:=rfl;rw[hlen]at hf;obtain⟨f,rfl⟩:∃k,f=k+1:=⟨f - 1,by omega⟩
 have hd:=wW (o:=9) (t:=[]) (k:=m) (ks:=[.mk 2 t [],m]) (by simp)
 have hm:rG l (unG 600 l (lev 600 l f).1 (lev 600 l f).2) (a+1+1) o= .ok m (a+1+1+ws.length):=h l (f+1) o r hr (by omega) (by omega) (a+1+1) e2
 have hs:=apM hm hop;have hp:oJ 600 l (lev 600 l f).1 a o= .ok (.mk 2 t []) (a+1):=by
  rw[oo ha,if_neg (show¬(2:Int)=1 by decide),agB ht,if_pos rfl,if_neg (fun e=>by
   have e':(!decide ((3:Int)=1)&&decide (([61,61]:List UInt8)=[40]))=true:=e;exact absurd e' (by decide))]
 have hh:hS (rst l a) [45]=false:=by
  rw[ha];show (!decide ((2:Int)=1)&&decide (t=[45]))=false;simp[ark ht (c:=45) (m:=[]) (by decide)]
 have hl:kE l (unG 600 l (lev 600 l f).1 (lev 600 l f).2) a o= .ok (.mk 2 t []) (a+1):=pJ (pJ (aa7 hp hh (by rw[e1];rfl) (by rw[e1];rfl)) (by rw[e1];rfl) (by rw[e1];rfl)) (by rw[e1];rfl) (by rw[e1];rfl)
 show rG l (unG 600 l (lev 600 l f).1 (lev 600 l f).2) a o=_;unfold rG;rw[hl];show (if isS l (a+1) [61,61]then _ else _)=_
 rw[bf,e1,if_pos (by rfl),hs]
 show Res.ok _ _=_;have hfin:a+1+1+ws.length=a+((2,t)::sg [61,61]::ws).length:=by simp;omega
 rw[hfin]
theorem PW.plus(t u:List UInt8):PW ((1,t)::sg [43]::[(1,u)]) (.mk 4 [] [nmN t,nmN u]):=fun l f o r hr hf ho a ha=>by
 have ha:rst l a=(1,t)::sg [43]::(1,u)::r:=ha;have e1:=jw ha;have e2:=jw e1;have e3:=jw e2;have hpos:1≤((1,t)::sg [43]::[(1,u)]++r).length:=by simp
 obtain⟨f,rfl⟩:∃k,f=k+1:=⟨f - 1,by omega⟩
 show rG l (unG 600 l (lev 600 l f).1 (lev 600 l f).2) a o=_;have u1:=aaY (f:=f) (o:=o) ha rfl rfl (lev 600 l f).2;have u2:=aaY (f:=f) (o:=o) e2 (hr _ (by decide)) (hr _ (by decide)) (lev 600 l f).2
 have p1:abm l (unG 600 l (lev 600 l f).1 (lev 600 l f).2) a o= .ok (nmN t) (a+1):=pJ u1 (by rw[e1];rfl) (by rw[e1];rfl)
 have p2:abm l (unG 600 l (lev 600 l f).1 (lev 600 l f).2) (a+1+1) o= .ok (nmN u) (a+1+1+1):=pJ u2 (by rw[e3];exact hr _ (by decide)) (by rw[e3];exact hr _ (by decide))
 have hc:=aqK (l:=l) (s1:=[43]) (s2:=[45]) (x:=4) (y:=5) p1 (by rw[e1];rfl) p2 (by rw[e3];exact hr _ (by decide)) (by rw[e3];exact hr _ (by decide))
 have hx:rG l (unG 600 l (lev 600 l f).1 (lev 600 l f).2) a o= .ok (.mk 4 [] [nmN t,nmN u]) (a+1+1+1):=acT hc (by rw[e3];exact hr _ (by decide)) (by rw[e3];exact hr _ (by decide)) (by rw[e3];exact hr _ (by decide)) (by rw[e3];exact hr _ (by decide))
 exact hx
theorem al8:wrd 61=false∧srt 61≠1:=by unfold wrd srt;decide
theorem arj(r:List UInt8):run (61::r)=0:=by unfold run;rw[List.takeWhile_cons,al8.1];rfl
theorem num0:num []=false:=by unfold num;rfl
theorem nam0:nam []=false:=by unfold nam;rfl
theorem dW.asg{r:List UInt8}{ws:List Wrd}(h:dW (32::r) ws):dW (61::32::r) (Go.Proofs.YtmgfiodmdfaclaaGreatDoor.sg [61]::ws):=by
 refine .cons (w:=Go.Proofs.YtmgfiodmdfaclaaGreatDoor.sg [61]) (t:=32::r) (by rw[amC al8.2 (by decide)];rfl) ?_ (fun e=>by have e':(3:Int)=0:=e;omega) (fun e=>by cases e) h
 show fst (61::32::r)=_;unfold fst;rw[arj,List.take_zero,num0,if_neg (by decide),nam0,if_neg (by decide),if_neg ?_,show (61::32::r:List UInt8).take 1=[61]from rfl,if_pos (by unfold sg1;decide)]
 rintro⟨_,h9⟩;have e:(61::32::r:List UInt8).take 2=[61,32]:=rfl;rw[e]at h9
 revert h9;decide
theorem dW.eq2{r:List UInt8}{ws:List Wrd}(h:dW r ws):dW (61::61::r) (Go.Proofs.YtmgfiodmdfaclaaGreatDoor.sg [61,61]::ws):=by
 refine .cons (w:=Go.Proofs.YtmgfiodmdfaclaaGreatDoor.sg [61,61]) (t:=r) (by rw[amC al8.2 (by decide)];rfl) ?_ (fun e=>by have e':(3:Int)=0:=e;omega) (fun e=>by cases e) h
 show fst (61::61::r)=_;unfold fst;rw[arj,List.take_zero,num0,if_neg (by decide),nam0,if_neg (by decide),if_pos ⟨by simp,.inl rfl⟩];rfl
theorem anr:nam [120]=true:=by unfold nam run wrd srt;decide
theorem tx_x:tx 2 [120]=true:=by
 have h:=anr;have h2:ownB [120]=false:=by rfl
 unfold tx iF;rw[h2];simp[h]
theorem nw32(r:List UInt8):NW (32::r):=akp (by unfold wrd srt;decide)
theorem agZ:srt 32=1:=by unfold srt;decide
theorem sg43:sgc 43=true:=by unfold sgc wrd sg1 srt;decide
theorem adM{x:Nat}(h:x≠0)(h2:x < 10):aH x=[UInt8.ofNat (48+x)]:=by
 unfold aH;rw[if_neg h,oI h,show x / 10=0 by omega,jT,show x % 10=x by omega];rfl
theorem aha:aH 2=[50]:=adM (by decide) (by decide)
theorem agV:aH 3=[51]:=adM (by decide) (by decide)
theorem ar0:aH 5=[53]:=adM (by decide) (by decide)
theorem ai1:aH 1=[49]:=adM (by decide) (by decide)
theorem num_2:num [50]=true:=by have h:=lq (x:=2) (by rw[aha];decide);rwa [aha]at h
theorem num_3:num [51]=true:=by have h:=lq (x:=3) (by rw[agV];decide);rwa [agV]at h
abbrev afv(s:List UInt8):List UInt8:=s++[59]
abbrev aeV(s:List UInt8):List UInt8:=[120,32,61,32]++(s++([59,32,120,32,61,61,32]++(s++[59])))
abbrev tSum:List UInt8:=[50,32,43,32,51,59]
theorem afY{s:List UInt8}{ws:List Wrd}(h:LV s ws):dW (afv s) (ws++[sg [59]]):=by
 have:=LV.end h eD.2.2.2.1 [] [] (.inl rfl) (.nil List.drop_nil);simpa using this
theorem aoO{s:List UInt8}{ws:List Wrd}(h:LV s ws):dW (aeV s) ((2,[120])::sg [61]::(ws++sg [59]::(2,[120])::sg [61,61]::(ws++[sg [59]]))):=by
 have a1:=afY h;have a2:dW ([32,120,32,61,61,32]++(s++[59])) ((2,[120])::sg [61,61]::(ws++[sg [59]])):=dW.sp agZ (dW.nam (w:=[120]) anr (nw32 _) (dW.sp agZ (dW.eq2 (dW.sp agZ a1))));have a3:dW ([59,32,120,32,61,61,32]++(s++[59])) (sg [59]::(2,[120])::sg [61,61]::(ws++[sg [59]])):=dW.sg eD.2.2.2.1 a2;have a4:=h _ _ (akp (ael eD.2.2.2.1)) a3;exact dW.nam (w:=[120]) anr (nw32 _) (dW.sp agZ (dW.asg (dW.sp agZ a4)))
theorem aqv:dW tSum [(1,[50]),sg [43],(1,[51]),sg [59]]:=
 dW.num (w:=[50]) num_2 (nw32 _) (dW.sp agZ (dW.sg sg43 (dW.sp agZ (dW.num (w:=[51]) num_3 (akp (ael eD.2.2.2.1)) (dW.sg eD.2.2.2.1 (.nil List.drop_nil))))))
end
section
attribute [local irreducible] IntKind.wrap Go1 Reg WP aQ aR bO bN aN aB aj ah aV Sat
attribute [local irreducible] bS bV bX dx bW qv redS mf PrP qOk zOk vP dL lz vF cq rqv fC dn dI pScale mulV jn sq aH qS zS tS tbS plS mdS vW j6
theorem ahw{v:Vl}(hF:PureOK Tryz.prog 27 [.agg (vlA v)] (.v (.bool true))){s:List UInt8}(c:PureOK Tryz.prog 45 [.agg (vlA v)] (.v (str s))):
  PureOK Tryz.prog 24 [.agg (vlA v)] (.tup [.one (.c (.val (str s))),eNo 0]):=by
 refine PureOK.fnF Tryz.func24 Tryz.results24 Tryz.ntmps24 rfl rfl rfl (by simp[AV.ids,AV0.ids,Atom.ids]) rfl (fun w0 T B E0 hB=>?_)
 refine SX.goM ?_;exact .ok (aB.mk2 (aj.tmp rfl) (aj.tmp rfl))
section
end
end
section
theorem BL.one{B:Nat}{n:Nd}{k:Nat}{σ σ':Ms}(h:ST B n k σ σ'):BL B [n] k σ σ':=by
 have:=aiZ B [n] [k] (fun i=>if i=0 then σ else σ') rfl (Nat.le_of_ble_eq_true rfl) (fun i n' k' h1 h2=>by
  match i,h1,h2 with
  |0,h1,h2=>cases h1;cases h2;exact h)
 simpa using this
theorem BL.two{B:Nat}{n n':Nd}{k k':Nat}{σ σ1 σ':Ms}(h:ST B n k σ σ1)(h':ST B n' k' σ1 σ'):BL B [n,n'] (k+k') σ σ':=by
 have:=aiZ B [n,n'] [k,k'] (fun i=>if i=0 then σ else if i=1 then σ1 else σ') rfl (Nat.le_of_ble_eq_true rfl) (fun i m l h1 h2=>by
  match i,h1,h2 with
  |0,h1,h2=>cases h1;cases h2;exact h
  |1,h1,h2=>cases h1;cases h2;exact h')
 simpa using this
attribute [local irreducible] bS bV bX dx bW qv redS mf PrP qOk zOk vP dL lz vF cq rqv fC dn dI pScale mulV jn sq aH qS zS tS tbS plS mdS zmd eU iR nmC qB
theorem asq:PureOK Tryz.prog 24 [.agg (vlA (eF 1))] (.tup [.one (.c (.val (str [49]))),eNo 0]):=by
 have hb:(1:Int).natAbs < WB ^ 1:=by rw[Nat.pow_one,aX];decide
 have h:=aaI (RB.ofI (z:=1) hb (Nat.le_refl 1)) (by decide)
 have e:qS ((1:Int):Rat)=[49]:=by
  rw[qa9,if_pos (Rat.den_intCast _),Rat.num_intCast];exact(og 1).trans ai1
 rw[e]at h;exact h
section
variable{B K Fu c d:Nat}{s:List UInt8}{v:Vl}(hB:64000≤B)(hB0:B≤1000000000)(hF0:Fu≤1000000000)(hR:RD B s v c d)(hd:d≤190)(hP:PureOK Tryz.prog 24 [.agg (vlA v)] (.tup [.one (.c (.val (str s))),eNo 0]))(hl:s.length≤19500)
include hB hB0 hF0 hR hd hP hl
theorem anh(hF:c*s.length+1≤Fu):PureOK Tryz.prog 13 [.v (str (afv s)),.agg (ze Fu B 200)] (.tup [.one (.c (.val (str (s++[10])))),eNo 0])∧PureOK Tryz.prog 8 [.v (str (afv s)),.agg (ze Fu B 200)] (.tup [.agg (vlA v),eNo 0]):=by
 obtain⟨ws,m,k,hlv,hpw,hfw,hdp,hk,hex,hop⟩:=hR.h;have hL:=afY hlv;have hls:(afv s).length=s.length+1:=by show (s++[59]).length=_;rw[List.length_append];rfl
 have hSW:=SW.show hpw (by omega) hfw.2.2
 have hd1:dep (.mk 19 [] [m])≤191:=kD (d:=190) fun n hn=>by
  have e:=List.mem_singleton.1 hn;subst e;omega
 obtain⟨ts,e1,e2,e3⟩:=uH (s:=afv s) (ks:=[(ws++[sg [59]],.mk 19 [] [m])]) (by simpa using hL) (by omega) (fun k hk=>by
  rw[List.mem_singleton]at hk;subst hk;exact⟨hSW,by simp⟩) (Nat.le_trans (rA (d:=191) fun n hn=>by
   have e:=List.mem_singleton.1 hn;subst e;exact hd1) (by decide))
 have hst:=ST.show (nm:=[]) (la:=v0) (tx:=[]) (n:= .mk 19 [] [m]) rfl rfl (hex []) hP (by rw[List.length_nil];omega)
 have hbl:=BL.one hst;obtain⟨F,rfl⟩:∃F,Fu=F+(k+1):=⟨Fu - (k+1),by omega⟩
 have cp:=uP (F:=F+(k+1)) (B:=B) (D:=200) (Nat.le_refl _) (by omega) e1 e2 e3
 exact⟨adl cp hbl (by omega) (by simp),ake rfl cp hbl (by omega)⟩
theorem an5{n:Nat}(hK:K≤90)(hn:n≤15)(hv:Cv K n v)(hz:∃z:Nat,z≤s.length∧VI B z v)(hF:2*(c*s.length)+2*s.length+20≤Fu)(hl2:s.length≤9500):PureOK Tryz.prog 13 [.v (str (aeV s)),.agg (ze Fu B 200)] (.tup [.one (.c (.val (str [49,10]))),eNo 0]):=by
 obtain⟨z,hz1,hz2⟩:=hz;obtain⟨ws,m,k,hlv,hpw,hfw,hdp,hk,hex,hop⟩:=hR.h;have hL:=aoO hlv;have hls:(aeV s).length=2*s.length+12:=by
  show ([120,32,61,32]++(s++([59,32,120,32,61,61,32]++(s++[59])))).length=_;simp;omega
 have hS1:=SW.set tx_x hpw (by omega)
 have hde:dep (.mk 9 [] [.mk 2 [120] [],m])≤191:=kD (d:=190) fun n hn=>by
  rcases List.mem_cons.1 hn with rfl|hn
  ·rw[aa4];exact Nat.zero_le _
  ·have e:=List.mem_singleton.1 hn;subst e;omega
 have hd1:dep (.mk 18 [120] [m])≤191:=kD (d:=190) fun n hn=>by
  have e:=List.mem_singleton.1 hn;subst e;omega
 have hd2:dep (.mk 19 [] [.mk 9 [] [.mk 2 [120] [],m]])≤192:=kD (d:=191) fun n hn=>by
  have e:=List.mem_singleton.1 hn;subst e;exact hde
 have hS2:=SW.show (PW.eq tx_x hpw hop) (by omega) (fun r=>⟨rfl,rfl,rfl⟩)
 obtain⟨ts,e1,e2,e3⟩:=uH (s:=aeV s) (ks:=[((2,[120])::sg [61]::(ws++[sg [59]]),.mk 18 [120] [m]),(((2,[120])::sg [61,61]::ws)++[sg [59]],.mk 19 [] [.mk 9 [] [.mk 2 [120] [],m]])]) (by simpa using hL) (by omega) (fun k hk=>by
  rcases List.mem_cons.1 hk with rfl|hk
  ·exact⟨hS1,by simp⟩
  ·rw[List.mem_singleton]at hk;subst hk;exact⟨hS2,by simp⟩) (Nat.le_trans (rA (d:=192) fun n hn=>by
   rcases List.mem_cons.1 hn with rfl|hn
   ·exact Nat.le_trans hd1 (by decide)
   ·have e:=List.mem_singleton.1 hn;subst e;exact hd2) (by decide))
 have hs1:=ST.set (nm:=[]) (la:=v0) (tx:=[]) (n:= .mk 18 [120] [m]) rfl rfl (hex []);have hb1:(1:Int).natAbs < WB ^ 1:=by rw[Nat.pow_one,aX];decide
 obtain⟨y,hy1,hy2⟩:=VI.num (B:=B) (K:=1) hB (Nat.le_refl 1) (by decide) (RB.ofI (z:=1) hb1 (Nat.le_refl 1))
 have ey:(qS ((1:Int):Rat)).length=1:=by
  rw[qa9,if_pos (Rat.den_intCast _),Rat.num_intCast];exact congrArg List.length ((og 1).trans ai1)
 have hF1:=hv.F (by omega) hn
 have cS:=ae3 (by omega) n n v v hv hv
 rw[aaW]at cS;have cB:PureOK Tryz.prog 216 [.v (.int .i64 9),.agg (vlA v),.agg (vlA v)] (.tup [.agg (vlA (eF ((1:Int):Rat))),eNo 0]):=aoq hF1 hF1 cS;have hlk:eU (iR [] [120] v) [120]=some v:=by unfold iR eU;rfl
 have hxe:=EX.name hB0 (nm:=iR [] [120] v) (n:= .mk 2 [120] []) rfl hlk hz2;have hee:=EX.opr hB0 (nm:=iR [] [120] v) (n:= .mk 9 [] [.mk 2 [120] [],m]) ⟨fun h=>by have h':(9:Int)=1:=h;omega,fun h=>by have h':(9:Int)=2:=h;omega,fun h=>by have h':(9:Int)=14:=h;omega⟩ (AL.two hxe (hex _)) (ahy (n:= .mk 9 [] [.mk 2 [120] [],m]) ⟨show (4:Int)≤9 by decide,show (9:Int)≤12 by decide⟩ cB) hy2
 have hs2:=ST.show (nm:=iR [] [120] v) (la:=v0) (tx:=[]) (n:= .mk 19 [] [.mk 9 [] [.mk 2 [120] [],m]]) rfl rfl hee asq (by decide)
 have hbl:=BL.two hs1 hs2;obtain⟨F,rfl⟩:∃F,Fu=F+(k+1+(y+(z+1+k)+1+1)):=⟨Fu - (k+1+(y+(z+1+k)+1+1)),by omega⟩
 have cp:=uP (F:=F+(k+1+(y+(z+1+k)+1+1))) (B:=B) (D:=200) (Nat.le_refl _) (by omega) e1 e2 e3
 exact adl cp hbl (by omega) (by simp)
end
end
section
attribute [local irreducible] IntKind.wrap Go1 Reg WP aQ aR bO bN aN aB aj ah aV Sat
attribute [local irreducible] bS bV bX dx bW qv redS mf PrP qOk zOk vP dL lz vF cq rqv fC dn dI pScale mulV jn sq aH qS zS tS tbS plS mdS zmd eU iR nmC qB
abbrev plenty:List Atom:=ze 1000000 1000000 200
theorem uR:PureOK Tryz.prog 9 [] (.agg plenty):=by
 refine PureOK.fnF Tryz.func9 Tryz.results9 Tryz.ntmps9 rfl rfl rfl (by simp[AV.ids,AV0.ids,Atom.ids]) rfl (fun w0 T B E0 hB=>?_)
 refine SX.goM ?_;exact nC (aj.aT rfl rfl rfl) rfl
theorem af5{s t:List UInt8}(h:PureOK Tryz.prog 13 [.v (str s),.agg plenty] (.tup [.one (.c (.val (str t))),eNo 0])):PureOK Tryz.prog 11 [.v (str s),.v (str t)] (.v (.bool true)):=by
 have c:=uR;have h2:decide (t=t)=true:=decide_eq_true rfl;refine PureOK.fnF Tryz.func11 Tryz.results11 Tryz.ntmps11 rfl rfl rfl (by simp[AV.ids,AV0.ids,Atom.ids]) rfl (fun w0 T B E0 hB=>?_)
 refine SX.goM ?_;exact aG h2
theorem am9{v:Vl}{s:List UInt8}{e:Int}(h:PureOK Tryz.prog 24 [.agg (vlA v)] (.tup [.one (.c (.val (str s))),eNo e])):PureOK Tryz.prog 7 [.agg (vlA v)] (.v (str s)):=by
 refine PureOK.fnF Tryz.func7 Tryz.results7 Tryz.ntmps7 rfl rfl rfl (by simp[AV.ids,AV0.ids,Atom.ids]) rfl (fun w0 T B E0 hB=>?_)
 refine SX.goM ?_;exact iN rfl
theorem ap9:PureOK Tryz.prog 13 [.v (str tSum),.agg plenty] (.tup [.one (.c (.val (str [53,10]))),eNo 0]):=by
 have b2:2 < WB ^ 1:=by rw[Nat.pow_one,aX];decide
 have b3:3 < WB ^ 1:=by rw[Nat.pow_one,aX];decide
 have b5:(5:Int).natAbs < WB ^ 1:=by rw[Nat.pow_one,aX];decide
 obtain⟨k2,hk2,hE2⟩:=uS (B:=1000000) (K:=1) (by decide) (by decide) (by decide) (by decide) b2
 obtain⟨k3,hk3,hE3⟩:=uS (B:=1000000) (K:=1) (by decide) (by decide) (by decide) (by decide) b3
 rw[aha]at hk2 hE2;rw[agV]at hk3 hE3;have l2:([50]:List UInt8).length=1:=rfl;have l3:([51]:List UInt8).length=1:=rfl;have e5:qS ((5:Int):Rat)=[53]:=by
  rw[qa9,if_pos (Rat.den_intCast _),Rat.num_intCast];exact(og 5).trans ar0
 obtain⟨y,hy1,hy2⟩:=VI.num (B:=1000000) (K:=1) (by decide) (Nat.le_refl 1) (by decide) (RB.ofI (z:=5) b5 (Nat.le_refl 1))
 rw[e5]at hy1;have l5:([53]:List UInt8).length=1:=rfl;have cP:=aaI (RB.ofI (z:=5) b5 (Nat.le_refl 1)) (by decide)
 rw[e5]at cP;have hr2:RB ((2:Int):Rat) 1:=RB.ofI (z:=2) b2 (Nat.le_refl 1);have hr3:RB ((3:Int):Rat) 1:=RB.ofI (z:=3) b3 (Nat.le_refl 1);have cB:=ajS hr2 hr3 (by decide)
 rw[show ((2:Int):Rat)+((3:Int):Rat)=((5:Int):Rat)by decide+kernel]at cB
 have hE:=EX.opr (B:=1000000) (by decide) (nm:=[]) (n:= .mk 4 [] [nmN [50],nmN [51]]) ⟨fun h=>by have h':(4:Int)=1:=h;omega,fun h=>by have h':(4:Int)=2:=h;omega,fun h=>by have h':(4:Int)=14:=h;omega⟩ (AL.two (hE2 []) (hE3 [])) (ahy (n:= .mk 4 [] [nmN [50],nmN [51]]) ⟨show (4:Int)≤4 by decide,show (4:Int)≤12 by decide⟩ cB) hy2
 have hst:=ST.show (nm:=[]) (la:=v0) (tx:=[]) (n:= .mk 19 [] [.mk 4 [] [nmN [50],nmN [51]]]) rfl rfl hE cP (by decide)
 have hbl:=BL.one hst;have hd:dep (.mk 4 [] [nmN [50],nmN [51]])≤1:=kD (d:=0) fun n hn=>by
  rcases List.mem_cons.1 hn with rfl|hn
  ·rw[qV];exact Nat.le_refl 0
  ·rw[List.mem_singleton]at hn;subst hn;rw[qV];exact Nat.le_refl 0
 have hd1:dep (.mk 19 [] [.mk 4 [] [nmN [50],nmN [51]]])≤2:=kD (d:=1) fun n hn=>by
  have e:=List.mem_singleton.1 hn;subst e;exact hd
 have hSW:=SW.show (PW.plus [50] [51]) (by omega) (FW.num _ _).2.2
 obtain⟨ts,e1,e2,e3⟩:=uH (s:=tSum) (ks:=[([(1,[50]),sg [43],(1,[51])]++[sg [59]],.mk 19 [] [.mk 4 [] [nmN [50],nmN [51]]])]) aqv (by decide) (fun k hk=>by
  rw[List.mem_singleton]at hk;subst hk;exact⟨hSW,by decide⟩) (Nat.le_trans (rA (d:=2) fun n hn=>by
   have e:=List.mem_singleton.1 hn;subst e;exact hd1) (by decide))
 obtain⟨F,hF⟩:∃F,1000000=F+(y+(k2+k3)+1+1):=⟨1000000 - (y+(k2+k3)+1+1),by omega⟩
 have cp:=uP (F:=F+(y+(k2+k3)+1+1)) (B:=1000000) (D:=200) (Nat.le_refl _) (by decide) e1 e2 e3
 have h:=adl cp hbl (by omega) (by decide)
 rw[←hF]at h;exact h
theorem qd:PureOK Tryz.prog 4 [] (.v (.bool true)):=by
 have c:=uR;have h:=ap9;refine PureOK.fnF Tryz.func4 Tryz.results4 Tryz.ntmps4 rfl rfl rfl (by simp[AV.ids,AV0.ids,Atom.ids]) rfl (fun w0 T B E0 hB=>?_)
 refine SX.goM ?_;exact aG rfl
section
variable{u:Vl}
theorem aoU(F:PureOK Tryz.prog 5 [.agg (vlA u),.v (.int .i64 3)] (.v (.bool false))):PureOK Tryz.prog 3 [.agg (vlA u)] (.v (.bool true)):=by
 have a:=qd;refine PureOK.fnF Tryz.func3 Tryz.results3 Tryz.ntmps3 rfl rfl rfl (by simp[AV.ids,AV0.ids,Atom.ids]) rfl (fun w0 T B E0 hB=>?_)
 refine SX.goM ?_;exact aG rfl
theorem apc(F:PureOK Tryz.prog 5 [.agg (vlA u),.v (.int .i64 3)] (.v (.bool true)))(G:PureOK Tryz.prog 6 [.agg (vlA u),.v (.int .i64 20)] (.v (.bool false))):PureOK Tryz.prog 3 [.agg (vlA u)] (.v (.bool true)):=by
 have a:=qd;refine PureOK.fnF Tryz.func3 Tryz.results3 Tryz.ntmps3 rfl rfl rfl (by simp[AV.ids,AV0.ids,Atom.ids]) rfl (fun w0 T B E0 hB=>?_)
 refine SX.goM ?_;exact aG rfl
theorem ao2(F:PureOK Tryz.prog 5 [.agg (vlA u),.v (.int .i64 3)] (.v (.bool true)))(G:PureOK Tryz.prog 6 [.agg (vlA u),.v (.int .i64 20)] (.v (.bool true)))(T0:PureOK Tryz.prog 7 [.agg (vlA u)] (.v (str (tS u))))(h:9000 < (tS u).length)(h2:(tS u).length≤10000000000):PureOK Tryz.prog 3 [.agg (vlA u)] (.v (.bool true)):=by
 have a:=qd;refine PureOK.fnF Tryz.func3 Tryz.results3 Tryz.ntmps3 rfl rfl rfl (by simp[AV.ids,AV0.ids,Atom.ids]) rfl (fun w0 T B E0 hB=>?_)
 refine SX.goM ?_;exact aG rfl
set_option maxRecDepth 20000 in
set_option maxHeartbeats 4000000 in
theorem ar4(F:PureOK Tryz.prog 5 [.agg (vlA u),.v (.int .i64 3)] (.v (.bool true)))(G:PureOK Tryz.prog 6 [.agg (vlA u),.v (.int .i64 20)] (.v (.bool true)))(T0:PureOK Tryz.prog 7 [.agg (vlA u)] (.v (str (tS u))))(h:(tS u).length≤9000)
  (R:PureOK Tryz.prog 12 [.agg (vlA u)] (.v (str (tS u)))) (V:PureOK Tryz.prog 8 [.v (str (tS u++[59])),.agg plenty] (.tup [.agg (vlA u),eNo 0])) (S:PureOK Tryz.prog 10 [.agg (vlA u),.agg (vlA u)] (.v (.bool true)))
  (s1:PureOK Tryz.prog 11 [.v (str (tS u++[59])),.v (str (tS u++[10]))] (.v (.bool true))) (s2:PureOK Tryz.prog 11 [.v (str (((([120,32,61,32]++tS u)++[59,32,120,32,61,61,32])++tS u)++[59])),.v (str [49,10])] (.v (.bool true))):
  PureOK Tryz.prog 3 [.agg (vlA u)] (.v (.bool true)):=by
 have a:=qd;have P:=uR;refine PureOK.fnF Tryz.func3 Tryz.results3 Tryz.ntmps3 rfl rfl rfl (by simp[AV.ids,AV0.ids,Atom.ids]) rfl (fun w0 T B E0 hB=>?_)
 refine SX.goM ?_;exact aG rfl
end
theorem TopPrints_ok(u:Vl)(hu:rW u):PureOK Tryz.prog 3 [.agg (vlA u)] (.v (.bool true)):=by
 have hF:=ajy 3 u (by decide)
 by_cases hw:vW 3 u
 ·have F:=hF.1 hw;have z1:=vZ.few hw hu;have G:=abH _ 20 u z1 (by decide)
  cases h1:vF 20 u with
  |false=>
   rw[h1]at G;exact apc F G
  |true=>
   rw[h1]at G;have C1:=Cv.of hw hu h1;have l1:=Nat.le_trans (tS_le 3 hw C1) (show tB 3≤10000000000 by decide)
   have F1:=C1.F (by decide) (by decide)
   have p1:=ahw F1 (alH 4 C1 (by decide) l1)
   have T0:=am9 p1;by_cases h:(tS u).length≤9000
   ·have r1:=adD 4 C1 (by decide) (by omega)
    have S:=an9 C1 C1 (by decide) (by decide) (by decide)
    rw[aaW]at S;have hR:=RD.of (B:=1000000) (K:=2) (by decide) (by decide) (by decide) (by decide) C1 (by decide) (by omega)
    have h3:=anh (B:=1000000) (Fu:=1000000) (by decide) (by decide) (by decide) hR (by decide) p1 (by omega) (by omega)
    have hz:=VI.of (B:=1000000) C1 (by decide) (by decide) (by omega) (by decide)
    have h4:=an5 (B:=1000000) (Fu:=1000000) (K:=2) (by decide) (by decide) (by decide) hR (by decide) p1 (by omega) (by decide) (by decide) C1 hz (by omega) (by omega)
    have e:aeV (tS u)=(((([120,32,61,32]++tS u)++[59,32,120,32,61,61,32])++tS u)++[59]):=by
     show [120,32,61,32]++(tS u++([59,32,120,32,61,61,32]++(tS u++[59])))=_;simp only[List.append_assoc]
    rw[e]at h4;exact ar4 F G T0 h r1 h3.2 S (af5 h3.1) (af5 h4)
   ·exact ao2 F G T0 (by omega) l1
 ·exact aoU (hF.2 hw)
end
end Go.Proofs.YtmgfiodmdfaclaaGreatDoor