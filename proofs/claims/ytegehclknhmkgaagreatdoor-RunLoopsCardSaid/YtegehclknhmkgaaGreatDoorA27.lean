import Derived.Test.YtegehclknhmkgaaGreatDoorA26
import Derived.Test.YtegehclknhmkgaaGreatDoorA23
import Derived.Test.YtegehclknhmkgaaGreatDoorA22
import Derived.Test.YtegehclknhmkgaaGreatDoorA17
set_option linter.unusedVariables false
set_option linter.unusedSimpArgs false
set_option linter.unusedSectionVars false
namespace Go.Proofs.YtegehclknhmkgaaGreatDoor
open Go.RowKit QM SX LA
section
theorem ac7{t s:List UInt8}(h:tx 2 t=true)(hs:ownB s=true):t≠s:=fun e=>by
 have:=alM h;rw[e,hs]at this;cases this
theorem tY{t s:List UInt8}(h:tx 2 t=true)(hs:ownB s=true)(r:List Wrd):hS ((2,t)::r) s=false:=by
 show (!decide ((2:Int)=1)&&decide (t=s))=false;simp[ac7 h hs]
def SW(ws:List Wrd)(n:Nd):Prop:=∀(l:List Tok) (a:Nat) (r:List Wrd),rst l a=ws++r→zV 600 l (l.length+1) a 0= .ok n (a+ws.length)
def HX(ws:List Wrd):Prop:=∀r,hS (ws++sg [59]::r) [105,102]=false∧hS (ws++sg [59]::r) [102,111,114]=false∧(hN (ws++sg [59]::r)&&hS ((ws++sg [59]::r).drop 1) [61])=false
theorem xA{l:List Tok}{a:Nat}{u:List Wrd}(h:rst l a=u):u.length≤l.length:=by
 rw[←h];unfold rst;rw[List.length_drop,List.length_map];omega
theorem SW.show{ws:List Wrd}{m:Nd}(h:PW ws m)(hd:dep m≤200)(hx:HX ws):SW (ws++[sg [59]]) (.mk 19 [] [m]):=fun l a r hr=>by
 have hr:rst l a=ws++sg [59]::r:=by rw[hr];simp
 obtain⟨h1,h2,h3⟩:=hx r;have hle:=xA hr;have he:acv (sg [59]::r):=kS (by decide) r
 have hm:=h l (l.length+1) 0 (sg [59]::r) he (by omega) (by omega) a hr
 have hend:=gy hr;show stG l (lev 600 l (l.length+1)).1 _ a 0=_;have h31:(kX l a&&isS l (a+1) [61])=false:=by
  rw[ou,aR,hr,←h3];unfold rst at hr ⊢;rw[←List.drop_drop,hr]
 unfold stG;rw[aR,hr,h1,if_neg (by decide),aR,hr,h2,if_neg (by decide),h31,if_neg (by decide),hm]
 show (if isS l (a+ws.length) [59]then _ else _)=_
 rw[aR,hend,if_pos (by rfl)]
 congr 1;simp;omega
theorem SW.set{t:List UInt8}{ws:List Wrd}{m:Nd}(ht:tx 2 t=true)(h:PW ws m)(hd:dep m≤200):SW ((2,t)::sg [61]::(ws++[sg [59]])) (.mk 18 t [m]):=fun l a r hr=>by
 have hr:rst l a=(2,t)::sg [61]::(ws++sg [59]::r):=by rw[hr];simp
 have hle:=xA hr;have he:acv (sg [59]::r):=kS (by decide) r
 have r1:=gL hr;have r2:=gL r1;rw[List.length_cons,List.length_cons]at hle;have hm:=h l (l.length+1) 0 (sg [59]::r) he (by omega) (by omega) (a+1+1) r2
 have hend:=gy r2;have n1:hS ((2,t)::sg [61]::(ws++sg [59]::r)) [105,102]=false:=tY ht (by rfl) _
 have n2:hS ((2,t)::sg [61]::(ws++sg [59]::r)) [102,111,114]=false:=tY ht (by rfl) _
 have h31:(kX l a&&isS l (a+1) [61])=true:=by
  rw[ou,aR,hr,r1,qJ ht];rfl
 show stG l (lev 600 l (l.length+1)).1 _ a 0=_;unfold stG;rw[aR,hr,n1,if_neg (by decide),aR,hr,n2,if_neg (by decide),h31,if_pos rfl,abq hr,hm]
 show (if isS l (a+1+1+ws.length) [59]then _ else _)=_
 rw[aR,hend,if_pos (by rfl)]
 congr 1;simp;omega
theorem ad8{l:List Tok}:∀(ks:List WN) (acc:List Nd) (g a:Nat),(∀k∈ks,SW k.1 k.2∧1≤k.1.length)→
  ks.length < g→rst l a=(ks.map (·.1)).flatten→a+(ks.map (·.1)).flatten.length=l.length→sW l (zV 600 l (l.length+1)) g acc a 0= .ok (.mk 0 [] (acc++kN ks)) l.length
 |[],acc,g,a,hk,hg,h,hl=>by
  obtain⟨g,rfl⟩:∃k,g=k+1:=⟨g - 1,by simp at hg;omega⟩
  have hl:a=l.length:=by simpa using hl
  rw[sW]
  dsimp only
  rw[if_neg (by omega),hl];simp
 |k::ks,acc,g,a,hk,hg,h,hl=>by
  rw[List.length_cons]at hg;obtain⟨g,rfl⟩:∃k,g=k+1:=⟨g - 1,by omega⟩
  obtain⟨k3,hp⟩:=hk k (by simp)
  have h:rst l a=k.1++(ks.map (·.1)).flatten:=by rw[h];simp
  rw[List.map_cons,List.flatten_cons,List.length_append]at hl;rw[sW]
  dsimp only
  rw[if_pos (by omega),k3 l a _ h]
  dsimp only
  rw[ad8 ks (acc++[k.2]) g (a+k.1.length) (fun x hx=>hk x (by simp[hx])) (by omega) (gy h) (by omega)]
  simp
theorem adS:∀{ks:List WN},(∀k∈ks,1≤k.1.length)→ks.length≤(ks.map (·.1)).flatten.length
 |[],_=>by simp
 |k::ks,h=>by
  have:=h k (by simp)
  have:=adS (ks:=ks) fun x hx=>h x (by simp[hx])
  simp only[List.map_cons,List.flatten_cons,List.length_append,List.length_cons];omega
theorem ac6{l:List Tok}{ks:List WN}(hw:l.map kt=(ks.map (·.1)).flatten)(ht:l.all fV=true)(hk:∀k∈ks,SW k.1 k.2∧1≤k.1.length)(hd:jQ (kN ks)≤200):qF l 200=(kN ks,0,0):=by
 have hlen:l.length=(ks.map (·.1)).flatten.length:=by rw[←List.length_map (f:=kt),hw]
 have hg:=adS fun k hkm=>(hk k hkm).2
 have h0:rst l 0=(ks.map (·.1)).flatten:=by unfold rst;rw[List.drop_zero,hw]
 have hp:adC l= .ok (.mk 0 [] (kN ks)) l.length:=by
  unfold adC;rw[ad8 ks [] (l.length+1) 0 hk (by omega) h0 (by omega)]
  simp
 unfold qF;rw[if_neg (by omega),ht,if_pos rfl,hp]
 show ah8 (kN ks) 200=_;unfold ah8;rw[if_neg (by omega)]
theorem bg.len{s:List UInt8}{ws:List Wrd}(h:bg s ws):ws.length≤s.length∧∀w∈ws,w.2.length≤s.length:=by
 induction h with
 |nil h=>exact⟨Nat.zero_le _,by simp⟩
 | @cons s t w ws h h1 h2 h3 _ ih=>
  have hl:=congrArg List.length h;rw[List.length_drop,List.length_append]at hl;have hw:w.2.length≠0:=by simpa using h3
  refine⟨by rw[List.length_cons];omega,fun x hx=>?_⟩
  rcases List.mem_cons.1 hx with rfl|hx
  ·omega
  ·have:=ih.2 x hx;omega
theorem xR{s:List UInt8}{ks:List WN}(hs:bg s (ks.map (·.1)).flatten)(hl:s.length≤20000)(hk:∀k∈ks,SW k.1 k.2∧1≤k.1.length)(hd:jQ (kN ks)≤200):∃ts,ach s=(ts,0,0)∧(ts.length≤1000000∧∀t∈ts,t.text.length≤9223372036854775807)∧qF ts 200=(kN ks,0,0):=by
 obtain⟨ts,h1,h2,h3⟩:=hs.R hl;have hb:=hs.len;refine⟨ts,h1,⟨?_,fun t ht=>?_⟩,ac6 h2 h3 hk hd⟩
 ·have:=hb.1;rw[←h2,List.length_map]at this;omega
 ·have:=hb.2 (kt t) (h2▸List.mem_map_of_mem ht);have e:(kt t).2=t.text:=rfl;rw[e]at this;omega
theorem afI{α:Type}{f:α→Nat}:∀{l:List α} {x:α},x∈l→f x≤(l.map f).sum
 |y::l,x,h=>by
  rw[List.map_cons,List.sum_cons];rcases List.mem_cons.1 h with rfl|h
  ·omega
  ·have:=afI (f:=f) h;omega
theorem nQ{α:Type}{f g:α→Nat}:∀{l:List α},(∀x∈l,f x≤g x)→(l.map f).sum≤(l.map g).sum
 |[],_=>Nat.le_refl _
 |x::l,h=>by
  rw[List.map_cons,List.map_cons,List.sum_cons,List.sum_cons];have h1:=h x List.mem_cons_self;have h2:=nQ (l:=l) fun y hy=>h y (List.mem_cons_of_mem _ hy)
  omega
theorem vQ(s:UInt8):∀l:List (List UInt8),(l.map List.length).sum≤(jn s l).length
 |[]=>Nat.le_refl _
 |[a]=>by simp[jn]
 |a::b::l=>by
  have:=vQ s (b::l);rw[List.map_cons,List.sum_cons];show a.length+((b::l).map List.length).sum≤(a++(s::32::jn s (b::l))).length;rw[List.length_append,List.length_cons,List.length_cons];omega
theorem ag9{l:List (List UInt8)}(h:∀x∈l,1≤x.length):l.length≤(l.map List.length).sum:=by
 have h2:=nQ (f:=fun _=>1) (g:=List.length) (l:=l) h
 have e:(l.map fun _=>1).sum=l.length:=by
  clear h h2
  induction l with
  |nil=>rfl
  |cons a l ih=>rw[List.map_cons,List.sum_cons,ih,List.length_cons];omega
 omega
theorem afm{c:Nat}:∀{r:Nat} {l:List (List UInt8)},l.length=r*c→(∀x∈l,1≤x.length)→r*c≤(((chk c r l).map (jn 44)).map List.length).sum
 |0,l,_,_=>by rw[Nat.zero_mul];exact Nat.zero_le _
 |r+1,l,hl,h=>by
  rw[Nat.succ_mul]at hl ⊢;show _≤(((l.take c::chk c r (l.drop c)).map (jn 44)).map List.length).sum;rw[List.map_cons,List.map_cons,List.sum_cons];have h1:=afm (c:=c) (r:=r) (l:=l.drop c) (by rw[List.length_drop];omega) (fun x hx=>h x (List.mem_of_mem_drop hx))
  have h2:=vQ 44 (l.take c);have h3:=ag9 (l:=l.take c) fun x hx=>h x (List.mem_of_mem_take hx)
  rw[List.length_take]at h3;omega
theorem alW{r c:Nat}{l:List (List UInt8)}(hl:l.length=r*c)(h:∀x∈l,1≤x.length):l.length≤(tbS r c l).length:=by
 unfold tbS
 split
 ·next h0=>
  have:r*c=0:=by rcases h0 with rfl|rfl <;> simp
  omega
 ·have h1:=afm hl h;have h2:=vQ 59 ((chk c r l).map (jn 44));rw[List.length_cons,List.length_append];omega
theorem als{l:List (List UInt8)}(h:∀x∈l,1≤x.length):l.length≤(plS l).length:=by
 have h1:=vQ 44 l;have h2:=ag9 h;unfold plS;rw[List.length_append,List.length_append];omega
theorem aiS(s:List UInt8)(p:Nat):s.length≤(mdS s p).length:=by
 unfold mdS;rw[List.length_append,List.length_append];omega
theorem ne1{l:List UInt8}{c:UInt8}{m:List UInt8}(h:l=c::m):1≤l.length:=by rw[h];simp
theorem qS_1(x:Rat):1≤(qS x).length:=by obtain⟨c,m,h,_⟩:=qS_ne x;exact ne1 h
theorem zS_1(x:Int):1≤(zS x).length:=by obtain⟨c,m,h,_⟩:=anR x;exact ne1 h
theorem aeB(x:Nat):1≤(aO x).length:=by obtain⟨c,m,h,_⟩:=afX x;exact ne1 h
theorem acY{α:Type}{f:α→List UInt8}{l:List α}(h:∀x,1≤(f x).length):∀y∈l.map f,1≤y.length:=fun y hy=>by
 obtain⟨x,_,rfl⟩:=List.mem_map.1 hy;exact h x
theorem aph{l:List Vl}{x:Vl}(h:x∈l):(tS x).length+2≤(tS (acu l)).length:=by
 rw[akV,List.length_cons,List.length_append];have h1:=vQ 44 (l.map tS);have h2:=afI (f:=List.length) (List.mem_map_of_mem (f:=tS) h);have e:([125]:List UInt8).length=1:=rfl;omega
structure IV(d b s:Nat)(v:Vl):Prop where
 n:PureOK Tryz.prog 222 [.agg (vlA v)] (.v (.int .i64 (d:Int)))
 b:PureOK Tryz.prog 238 [.agg (vlA v)] (.v (.int .i64 (b:Int)))
 s:PureOK Tryz.prog 224 [.agg (vlA v)] (.v (.int .i64 (s:Int)))
theorem IV.of{K n:Nat}{v:Vl}(h:Cv K n v)(hK:K≤100)(hn:n≤15):(tS v).length≤100000→∃d b s:Nat,d≤n∧b≤64000∧s≤(tS v).length∧IV d b s v:=by
 induction h with
 | @one n v h=>
  intro hl;cases h with
  |num x h=>
   have hq:=aeP h;refine⟨0,qB x,1,Nat.zero_le _,by omega,by rw[afj];exact qS_1 x,ko _ (fun h=>by have h':(1:Int)=6:=h;omega),ail h (by omega),?_⟩
   exact uN (fq x) (fun _=>0) ⟨fun h=>by have h':(1:Int)=2:=h;omega,fun h=>by have h':(1:Int)=3:=h;omega,fun h=>by have h':(1:Int)=4:=h;omega,fun h=>by have h':(1:Int)=5:=h;omega⟩ (Nat.le_of_ble_eq_true rfl) (Nat.le_of_ble_eq_true rfl) (fun x hx=>by cases hx)
  |mat r c vs hvl hr hc h=>
   have hrc:=Nat.mul_le_mul hr hc;have e:((iI r c vs).a).length=vs.length:=List.length_map _;refine⟨0,_,vs.length,Nat.zero_le _,yF (fun x hx=>?_) (Nat.zero_le _),?_,ko _ (fun h=>by have h':(2:Int)=6:=h;omega),ahs h (by omega) (by omega),?_⟩
   ·obtain⟨y,hy,rfl⟩:=List.mem_map.1 hx;have:=aeP (h y hy);omega
   ·rw[qG];have:=alW (r:=r) (c:=c) (l:=vs.map qS) (by rw[List.length_map];exact hvl) (acY qS_1)
    rwa [List.length_map]at this
   ·have:=aij (iI r c vs) rfl (by rw[e];omega)
    rwa [e]at this
  |pol zs hzl hpn h=>
   have e:((abV zs).po).length=zs.length:=List.length_map _;refine⟨0,_,zs.length,Nat.zero_le _,yF (fun x hx=>?_) (Nat.zero_le _),?_,ko _ (fun h=>by have h':(3:Int)=6:=h;omega),ahK h (by omega) hzl,?_⟩
   ·obtain⟨y,hy,rfl⟩:=List.mem_map.1 hx;have:=pI (h y hy);omega
   ·rw[apg];have:=als (l:=zs.map zS) (acY zS_1)
    rwa [List.length_map]at this
   ·have:=ahy (abV zs) rfl (by rw[e];omega)
    rwa [e]at this
  |fld p r c l hp hll hr hc h=>
   have hrc:=Nat.mul_le_mul hr hc;have hpl:=hp.lt;have hpW:p < WB:=by rw[bY];omega
   refine⟨0,bitLen p,l.length,Nat.zero_le _,?_,?_,ko _ (fun h=>by have h':(4:Int)=6:=h;omega),ahe (ahC p r c l) (.inl rfl) hpW,aht (ahC p r c l) rfl (show l.length≤1000000 by omega)⟩
   ·have:=pI (k:=1) (by rw[Nat.pow_one];exact hpW);omega
   ·rw[apk];have:=alW (r:=r) (c:=c) (l:=l.map aO) (by rw[List.length_map];exact hll) (acY aeB)
    rw[List.length_map]at this;exact Nat.le_trans this (aiS _ _)
  |rng p l hp hll hwn h=>
   have hpl:=hp.lt;have hpW:p < WB:=by rw[bY];omega
   refine⟨0,bitLen p,l.length,Nat.zero_le _,?_,?_,ko _ (fun h=>by have h':(5:Int)=6:=h;omega),ahe (ahT p l) (.inr rfl) hpW,aiy (ahT p l) rfl (show l.length≤1000000 by omega)⟩
   ·have:=pI (k:=1) (by rw[Nat.pow_one];exact hpW);omega
   ·rw[apN];have:=als (l:=l.map aO) (acY aeB);rw[List.length_map]at this;exact Nat.le_trans this (aiS _ _)
 | @lst n l hll h ih=>
  intro hl;obtain⟨g,hg⟩:=ad2 (β:=Nat×Nat×Nat) (P:=fun x t=>t.1≤n∧t.2.1≤64000∧t.2.2≤(tS x).length∧IV t.1 t.2.1 t.2.2 x) (l:=l) (fun x hx=>by
   have hm:=aph hx;obtain⟨d,b,s,h1,h2,h3,h4⟩:=ih x hx (by omega) (by omega)
   exact⟨(d,b,s),h1,h2,h3,h4⟩)
  have hs:(l.map fun x=>(g x).2.2).sum+2≤(tS (acu l)).length:=by
   rw[akV,List.length_cons,List.length_append];have h1:=vQ 44 (l.map tS);have h2:=nQ (f:=fun x=>(g x).2.2) (g:=fun x=>(tS x).length) (l:=l) (fun x hx=>(hg x hx).2.2.1)
   rw[List.map_map]at h1;have h3:(l.map (List.length ∘ tS)).sum=(l.map fun x=>(tS x).length).sum:=rfl
   have e:([125]:List UInt8).length=1:=rfl;omega
  refine⟨1+(l.map fun x=>(g x).1).foldl max 0,(l.map fun x=>(g x).2.1).foldl max 0,1+(l.map fun x=>(g x).2.2).sum,?_,?_,by omega,?_,?_,?_⟩
  ·have:=yF (B:=n) (l:=l.map fun x=>(g x).1) (b:=0) (fun y hy=>by obtain⟨x,hx,rfl⟩:=List.mem_map.1 hy;exact(hg x hx).1) (Nat.zero_le _)
   omega
  ·exact yF (fun y hy=>by obtain⟨x,hx,rfl⟩:=List.mem_map.1 hy;exact(hg x hx).2.1) (Nat.zero_le _)
  ·exact acS (acu l) (fun x=>(g x).1) rfl (show l.length≤1000000 by omega) (fun x hx=>by have:=(hg x hx).1;omega) (fun x hx=>(hg x hx).2.2.2.n)
  ·exact amq (acu l) (fun x=>(g x).2.1) rfl rfl (show l.length≤1000000 by omega) (fun x hx=>(hg x hx).2.1) (fun x hx=>(hg x hx).2.2.2.b)
  ·exact uN (acu l) (fun x=>(g x).2.2) ⟨fun h=>by have h':(6:Int)=2:=h;omega,fun h=>by have h':(6:Int)=3:=h;omega,fun h=>by have h':(6:Int)=4:=h;omega,fun h=>by have h':(6:Int)=5:=h;omega⟩ (show (l.map fun x=>(g x).2.2).sum≤1000000 by omega) (show l.length≤1000000 by omega) (fun x hx=>(hg x hx).2.2.2.s)
theorem VI.of{K n B:Nat}{v:Vl}(h:Cv K n v)(hK:K≤100)(hn:n≤15)(hl:(tS v).length≤100000)(hB:64000≤B):∃s:Nat,s≤(tS v).length∧VI B s v:=by
 obtain⟨d,b,s,h1,h2,h3,h4⟩:=IV.of h hK hn hl;exact⟨s,h3,⟨d,by omega,h4.n⟩,⟨b,by omega,apq (h.F (by omega) hn) h4.b⟩,h4.s⟩
section
theorem je{x k:Nat}(h:x < WB ^ k):(aO x).length≤20*k+1:=by
 unfold aO
 split
 ·simp
 ·have:WB ^ k≤10 ^ (20*k):=by rw[Nat.pow_mul];exact Nat.pow_le_pow_left (by rw[bY];decide) _
  have:=ab5 (Nat.lt_of_lt_of_le h this);omega
attribute [local irreducible] IntKind.wrap Go1 Reg WP aN aQ bM bI aL aC aj ah aT Sat
attribute [local irreducible] dz bU bV dA bT qv dN mf PrP qOk zOk vP dZ lz vF cq rqv fT dJ eD bX gD jn sq aO qS zS tS tbS plS mdS zmd dF eG nmC qB
theorem ajQ{v n:Vl}{e:Int}(hF:PureOK Tryz.prog 32 [.agg (vlA v)] (.v (.bool true)))(h:PureOK Tryz.prog 240 [.agg (vlA v)] (.tup [.agg (vlA n),eNo e])):
  PureOK Tryz.prog 228 [.v (.int .i64 3),.agg (vlA v)] (.tup [.agg (vlA n),eNo e]):=by
 refine PureOK.fnF Tryz.func228 Tryz.results228 Tryz.ntmps228 rfl rfl rfl (by simp[AV.ids,AV0.ids,Atom.ids]) rfl (fun w0 T B E0 hB=>?_)
 refine SX.goM ?_;exact .ok (aC.mk2 (aj.gK rfl rfl rfl) (aj.tmp rfl))
theorem AL.one{B:Nat}{nm:Nms}{m:Nd}{k:Nat}{v:Vl}(h:EX B nm m k v):AL B nm [m] k [v]:=by
 have:=aki B nm [m] [k] [v] rfl rfl (Nat.le_of_ble_eq_true rfl) (fun i n k' v' h1 h2 h3=>by
  match i,h1,h2,h3 with
  |0,h1,h2,h3=>cases h1;cases h2;cases h3;exact h)
 simpa using this
theorem AL.two{B:Nat}{nm:Nms}{m m':Nd}{k k':Nat}{v v':Vl}(h:EX B nm m k v)(h':EX B nm m' k' v'):AL B nm [m,m'] (k+k') [v,v']:=by
 have:=aki B nm [m,m'] [k,k'] [v,v'] rfl rfl (Nat.le_of_ble_eq_true rfl) (fun i n k1 v1 h1 h2 h3=>by
  match i,h1,h2,h3 with
  |0,h1,h2,h3=>cases h1;cases h2;cases h3;exact h
  |1,h1,h2,h3=>cases h1;cases h2;cases h3;exact h')
 simpa using this
section
variable{B K:Nat}(hB:64000≤B)(hB0:B≤1000000000)(h1:1≤K)(hK:K≤90)
include hB hB0 h1 hK
omit hB0 in
theorem VI.num{x:Rat}(hx:RB x K):∃s:Nat,s≤(qS x).length∧VI B s (fq x):=by
 have hl:(tS (fq x)).length≤100000:=by
  rw[afj,qX];have d1:=je hx.n;have d2:=je hx.d;have z1:(zS x.num).length≤(aO x.num.natAbs).length+1:=by unfold zS;split <;> simp
  have z2:(zS (x.den:Int)).length=(aO x.den).length:=by rw[zJ]
  split
  ·omega
  ·rw[List.length_append,List.length_cons];omega
 have h:=VI.of (B:=B) (Cv.one (n:=0) (.num x hx)) (by omega) (by omega) hl hB
 rwa [afj]at h
theorem xV{x:Nat}(hx:x < WB ^ K):∃k:Nat,k≤2*(aO x).length∧∀nm,EX B nm (nmN (aO x)) k (vI x):=by
 have hb:((x:Nat):Int).natAbs < WB ^ K:=hx;have hd:=je hx;obtain⟨s,hs,hv⟩:=VI.num hB h1 hK (RB.ofI hb h1);have e:qS ((x:Int):Rat)=aO x:=by rw[qX,if_pos (Rat.den_intCast _),Rat.num_intCast,zJ]
 rw[e]at hs;have hp:=aeB x;have cZ:=aeC (aO x) (by omega)
 have hz:=al1 (z:=(x:Int)) (k:=K) ⟨hb⟩ (by omega)
 rw[zJ]at hz;rw[hz.1,hz.2]at cZ;have cW:PureOK Tryz.prog 187 [.agg (zN (x:Int))] (.agg (vlA (vI x))):=aaw (q:=z2v (x:Int)) (ZQ.made hb) h1 (by omega)
 exact⟨s+1,by omega,fun nm=>EX.num hB0 (n:=nmN (aO x)) rfl cZ cW hv⟩
theorem afu{z:Int}(hz:z.natAbs < WB ^ K):∃k:Nat,k≤3*(zS z).length∧∀nm,EX B nm (zNd z) k (vI z):=by
 obtain⟨k,hk,hE⟩:=xV hB hB0 h1 hK hz;by_cases h:z < 0
 ·have e1:zNd z= .mk 3 [] [nmN (aO z.natAbs)]:=by unfold zNd;rw[if_pos h]
  have e2:zS z=45::aO z.natAbs:=by unfold zS;rw[if_pos h]
  have e3:(z:Rat)= -(((z.natAbs:Nat):Int):Rat):=by
   rw[←Rat.intCast_neg];congr 1;omega
  have hb:(((z.natAbs:Nat):Int)).natAbs < WB ^ K:=by simpa using hz
  obtain⟨s,hs,hv⟩:=VI.num hB h1 hK (RB.ofI hz h1);have e4:qS (z:Rat)=zS z:=by rw[qX,if_pos (Rat.den_intCast _),Rat.num_intCast]
  rw[e4]at hs;have cN:=ajQ (zn hb h1 (by omega)) (al9 (RB.ofI hb h1) (by omega))
  have e5:fq (-(((z.natAbs:Nat):Int):Rat))=vI z:=by rw[←e3]
  rw[e5]at cN;refine⟨s+k+1,by rw[e2]at hs ⊢;rw[List.length_cons]at*;omega,fun nm=>?_⟩
  rw[e1];exact EX.opr hB0 (n:= .mk 3 [] [nmN (aO z.natAbs)]) ⟨fun h=>by have h':(3:Int)=1:=h;omega,fun h=>by have h':(3:Int)=2:=h;omega,fun h=>by have h':(3:Int)=14:=h;omega⟩ (AL.one (hE nm)) (ajP rfl cN) hv
 ·have e1:zNd z=nmN (aO z.natAbs):=by unfold zNd;rw[if_neg h]
  have e2:zS z=aO z.natAbs:=by unfold zS;rw[if_neg h]
  have e3:((z.natAbs:Nat):Int)=z:=by omega
  rw[e3]at hE;refine⟨k,by rw[e2];omega,fun nm=>?_⟩
  rw[e1];exact hE nm
end
end
section
def FW(ws:List Wrd):Prop:=HD ws [41]∧HD ws [125]∧HX ws
theorem FW.num(t:List UInt8)(r:List Wrd):FW ((1,t)::r):=⟨⟨_,_,rfl,fun r'=>rfl⟩,⟨_,_,rfl,fun r'=>rfl⟩,fun r'=>⟨rfl,rfl,rfl⟩⟩
theorem FW.min(r:List Wrd):FW (sg [45]::r):=⟨⟨_,_,rfl,fun r'=>rfl⟩,⟨_,_,rfl,fun r'=>rfl⟩,fun r'=>⟨rfl,rfl,rfl⟩⟩
theorem FW.mat(r:List Wrd):FW (sg [91]::r):=⟨⟨_,_,rfl,fun r'=>rfl⟩,⟨_,_,rfl,fun r'=>rfl⟩,fun r'=>⟨rfl,rfl,rfl⟩⟩
theorem FW.zero(r:List Wrd):FW ((2,kH)::sg [40]::r):=⟨⟨_,_,rfl,fun r'=>rfl⟩,⟨_,_,rfl,fun r'=>rfl⟩,fun r'=>⟨rfl,rfl,rfl⟩⟩
theorem FW.z(z:Int)(r:List Wrd):FW (zWd z++r):=by
 unfold zWd
 split
 ·exact FW.min _
 ·exact FW.num _ _
def OP(m:Nd):Prop:=m.op≤8∨13≤m.op
theorem op_z(z:Int):OP (zNd z):=by
 unfold zNd
 split
 ·exact .inl (show (3:Int)≤8 by decide)
 ·exact .inl (show (1:Int)≤8 by decide)
structure RD(B:Nat)(s:List UInt8)(v:Vl)(c d:Nat):Prop where
 h:∃(ws:List Wrd) (m:Nd) (k:Nat),LV s ws∧PW ws m∧FW ws∧dep m≤d∧k≤c*s.length∧(∀nm,EX B nm m k v)∧OP m
theorem qR(t:List UInt8):dep (nmN t)=0:=by rw[uK];rfl
theorem ags(z:Int):dep (zNd z)≤1:=by
 unfold zNd
 split
 ·rw[uK];show (if([nmN (aO z.natAbs)]:List Nd).isEmpty then 0 else 1+jQ [nmN (aO z.natAbs)])≤1
  rw[jE,jZ,qR];exact Nat.le_refl 1
 ·rw[qR];omega
theorem rD{d:Nat}:∀{ks:List Nd},(∀k∈ks,dep k≤d)→jQ ks≤d
 |[],_=>by rw[jZ];omega
 |k::ks,h=>by
  rw[jE];have h1:=h k (by simp)
  have h2:=rD (ks:=ks) fun x hx=>h x (by simp[hx])
  omega
theorem jI{o:Int}{t:List UInt8}{ks:List Nd}{d:Nat}(h:∀k∈ks,dep k≤d):dep (.mk o t ks)≤d+1:=by
 rw[uK];show (if ks.isEmpty then 0 else 1+jQ ks)≤d+1
 have:=rD h
 split <;> omega
attribute [local irreducible] dz bU bV dA bT qv dN mf PrP qOk zOk vP dZ lz vF cq rqv fT dJ eD bX gD jn sq aO qS zS tS tbS plS mdS zmd dF eG nmC qB
section
variable{B K:Nat}(hB:64000≤B)(hB0:B≤1000000000)(h1:1≤K)(hK:K≤90)
include hB hB0 h1 hK
theorem RD.q{x:Rat}(hx:RB x K):RD B (qS x) (fq x) 4 2:=by
 obtain⟨kz,hkz,hEz⟩:=afu hB hB0 h1 hK hx.n;obtain⟨kd,hkd,hEd⟩:=xV hB hB0 h1 hK hx.d;have hdn:=je hx.n;have hdd:=je hx.d;obtain⟨s,hs,hv⟩:=VI.num hB h1 hK hx;have hself:=iT x;unfold qv at hself;by_cases h:x.den=1
 ·have e:qS x=zS x.num:=by rw[qX,if_pos h]
  have e2:((x.num:Int):Rat)=x:=by rw[h]at hself;rw[←hself];grind
  have hw:=FW.z x.num [];rw[List.append_nil]at hw;refine⟨zWd x.num,zNd x.num,kz,by rw[e];exact LV.zS (by omega),PW.z _,hw,by have:=ags x.num;omega,by rw[e];omega,fun nm=>?_,op_z _⟩
  have:=hEz nm
  rwa [show vI x.num=fq x from congrArg fq e2]at this
 ·have e:qS x=zS x.num++47::aO x.den:=by rw[qX,if_neg h,zJ]
  have hd0:((x.den:Int):Rat)≠0:=c0 (oM x);have hbn:=RB.ofI hx.n h1;have hbd:RB ((x.den:Int):Rat) K:=RB.ofI (z:=(x.den:Int)) hx.d h1;have cQ:=alB hbn hbd (by omega) hd0
  rw[hself]at cQ;have cB:=alN (zn hx.n h1 (by omega)) (zn (z:=(x.den:Int)) hx.d h1 (by omega)) cQ
  have hlen:(qS x).length=(zS x.num).length+1+(aO x.den).length:=by rw[e,List.length_append,List.length_cons];omega
  refine⟨zWd x.num++sg [47]::[(1,aO x.den)],.mk 7 [] [zNd x.num,nmN (aO x.den)],s+(kz+kd)+1,?_,PW.frac _ _,FW.z _ _,?_,by omega,fun nm=>?_,.inl (show (7:Int)≤8 by decide)⟩
  ·rw[e];exact LV.mid (LV.zS (by omega)) eP.2.1 (LV.num (mH (by omega)))
  ·refine jI (d:=1) fun k hk=>?_
   rcases List.mem_cons.1 hk with rfl|hk
   ·exact ags _
   ·rw[List.mem_singleton]at hk;subst hk;rw[qR];omega
  ·exact EX.opr hB0 (n:= .mk 7 [] [zNd x.num,nmN (aO x.den)]) ⟨fun h=>by have h':(7:Int)=1:=h;omega,fun h=>by have h':(7:Int)=2:=h;omega,fun h=>by have h':(7:Int)=14:=h;omega⟩ (AL.two (hEz nm) (hEd nm)) (akk (n:= .mk 7 [] [zNd x.num,nmN (aO x.den)]) ⟨show (4:Int)≤7 by decide,show (7:Int)≤12 by decide⟩ cB) hv
end
end
section
instance:Inhabited (WN×Nat):=⟨(([],nmN []),0)⟩
structure RG(B:Nat)(s:List UInt8)(v:Vl)(c d:Nat)(g:WN×Nat):Prop where
 lv:LV s g.1.1
 pw:PW g.1.1 g.1.2
 fw:FW g.1.1
 dp:dep g.1.2≤d
 k:g.2≤c*s.length
 ex:∀nm,EX B nm g.1.2 g.2 v
 op:OP g.1.2
theorem RD.g{B:Nat}{s:List UInt8}{v:Vl}{c d:Nat}(h:RD B s v c d):∃g,RG B s v c d g:=by
 obtain⟨ws,m,k,h1,h2,h3,h4,h5,h6,h7⟩:=h.h;exact⟨((ws,m),k),h1,h2,h3,h4,h5,h6,h7⟩
section
variable{α:Type}{B c d:Nat}{l:List α}{s:α→List UInt8}{v:α→Vl}{g:α→WN×Nat}(h:∀x∈l,RG B (s x) (v x) c d (g x))
include h
theorem RG.al(nm:Nms)(hl:l.length≤100000):AL B nm (l.map fun x=>(g x).1.2) ((l.map fun x=>(g x).2).sum) (l.map v):=by
 refine aki B nm _ _ _ (by rw[List.length_map,List.length_map]) (by rw[List.length_map,List.length_map]) (by rw[List.length_map];exact hl) fun i n k w h1 h2 h3=>?_
 rw[List.getElem?_map]at h1 h2 h3
 cases hx:l[i]? with
 |none=>rw[hx]at h1;cases h1
 |some x=>
  rw[hx]at h1 h2 h3;cases h1;cases h2;cases h3;exact(h x (List.mem_of_getElem? hx)).ex nm
theorem RG.sum:(l.map fun x=>(g x).2).sum≤c*(l.map fun x=>(s x).length).sum:=by
 induction l with
 |nil=>exact Nat.zero_le _
 |cons x l ih=>
  rw[List.map_cons,List.map_cons,List.sum_cons,List.sum_cons,Nat.mul_add];have h1:=(h x List.mem_cons_self).k;have h2:=ih fun y hy=>h y (List.mem_cons_of_mem _ hy)
  omega
theorem RG.jn:LV (jn 44 (l.map s)) (jW (l.map fun x=>(g x).1)):=by
 have:=LV.jn eP.2.2.1 (l.map fun x=>(s x,(g x).1.1)) (fun y hy=>by
  obtain⟨x,hx,rfl⟩:=List.mem_map.1 hy;exact(h x hx).lv)
 rw[List.map_map,List.map_map]at this;show LV _ (zh _ ((l.map fun x=>(g x).1).map (·.1)))
 rw[List.map_map];exact this
end
theorem amN:tx 2 kH=true:=by
 have h:=acV.1;have h2:ownB kH=false:=by rfl
 unfold tx fV;rw[h2];simp[h]
theorem adK{α β:Type}(f:α→β)(c:Nat):∀(r:Nat) (l:List α),chk c r (l.map f)=(chk c r l).map (List.map f)
 |0,_=>rfl
 |r+1,l=>by
  show (l.map f).take c::chk c r ((l.map f).drop c)=(l.take c).map f::(chk c r (l.drop c)).map (List.map f);rw[←List.map_take,←List.map_drop,adK f c r]
theorem kY{α:Type}(c:Nat):∀(r:Nat) (l:List α),(chk c r l).length=r
 |0,_=>rfl
 |r+1,l=>by
  show (l.take c::chk c r (l.drop c)).length=_;rw[List.length_cons,kY c r]
theorem ab2{α:Type}{c:Nat}:∀{r i:Nat} {l:List α},i < r→(chk c r l)[i]? =some ((l.drop (i*c)).take c)
 |0,i,l,h=>absurd h (Nat.not_lt_zero _)
 |r+1,0,l,h=>by
  show (l.take c::chk c r (l.drop c))[0]? =_;rw[Nat.zero_mul];rfl
 |r+1,i+1,l,h=>by
  show (l.take c::chk c r (l.drop c))[i+1]? =_;rw[List.getElem?_cons_succ,ab2 (by omega),List.drop_drop]
  congr 3
  rw[Nat.succ_mul];omega
theorem ac3{α:Type}{c:Nat}:∀{r:Nat} {l row:List α} {x:α},row∈chk c r l→x∈row→x∈l
 |0,l,row,x,h,_=>by cases h
 |r+1,l,row,x,h,hx=>by
  rcases List.mem_cons.1 h with rfl|h
  ·exact List.mem_of_mem_take hx
  ·exact List.mem_of_mem_drop (ac3 h hx)
theorem anz{α:Type}{c r:Nat}{l row:List α}(hl:l.length=r*c)(h:row∈chk c r l):row.length=c:=by
 obtain⟨i,hi⟩:=List.mem_iff_getElem?.1 h;have hir:i < r:=by have:=yZ hi;rwa [kY]at this
 rw[ab2 hir]at hi;cases hi;rw[List.length_take,List.length_drop];have:=Nat.mul_le_mul_right c (show i+1≤r by omega)
 rw[Nat.succ_mul]at this;omega
attribute [local irreducible] dz bU bV dA bT qv dN mf PrP qOk zOk vP dZ lz vF cq rqv fT dJ eD bX gD sq aO qS zS tS mdS zmd dF eG nmC qB
section
variable{B K:Nat}(hB:64000≤B)(hB0:B≤1000000000)(h1:1≤K)(hK:K≤90)
include hB hB0 h1 hK
end
end
section
theorem ame{α:Type}{c:Nat}{f:α→Nat}(l:List α):(l.map fun x=>c*f x).sum=c*(l.map f).sum:=by
 induction l with
 |nil=>rfl
 |cons x l ih=>rw[List.map_cons,List.map_cons,List.sum_cons,List.sum_cons,ih,Nat.mul_add]
attribute [local irreducible] dz bU bV dA bT qv dN mf PrP qOk zOk vP dZ lz vF cq rqv fT dJ eD bX gD sq aO qS zS tS zmd dF eG nmC qB
section
variable{B K:Nat}(hB:64000≤B)(hB0:B≤1000000000)(h1:1≤K)(hK:K≤90)
include hB hB0 h1 hK
theorem RD.zero{r c:Nat}(hr:r≤64)(hc:c≤64)(h0:r=0∨c=0):RD B (tbS r c []) (iI r c []) 6 4:=by
 have hw:64 < WB ^ K:=by
  have:=Nat.pow_le_pow_right aU h1;rw[Nat.pow_one]at this;have e:=bY;omega
 have hr':r < WB ^ K:=by omega
 have hc':c < WB ^ K:=by omega
 obtain⟨kr,hkr,hEr⟩:=xV hB hB0 h1 hK hr';obtain⟨kc,hkc,hEc⟩:=xV hB hB0 h1 hK hc';have dr:=je hr';have dc:=je hc';have hrc:r*c=0:=by rcases h0 with rfl|rfl <;> simp
 have e0:tbS r c []=[122,101,114,111,40]++(aO r++([44,32]++(aO c++[41]))):=by unfold tbS;rw[if_pos h0]
 have hlen:(tbS r c []).length=8+(aO r).length+(aO c).length:=by
  rw[e0,List.length_append,List.length_append,List.length_append,List.length_append];have a1:([122,101,114,111,40]:List UInt8).length=5:=rfl;have a2:([44,32]:List UInt8).length=2:=rfl;have a3:([41]:List UInt8).length=1:=rfl;omega
 obtain⟨s,hs,hv⟩:=VI.of (B:=B) (Cv.one (n:=0) (.mat r c [] (by rw[hrc];rfl) hr hc (fun v h=>by cases h):Sh K _)) (by omega) (by omega) (by rw[qG];show (tbS r c []).length≤_;omega) hB
 rw[qG]at hs;have hs':s≤(tbS r c []).length:=hs;have ez:ku c (fun _ _=>0) r=[]:=List.length_eq_zero_iff.1 (by rw[rU];exact hrc)
 have cC:=zX hr hc;rw[ez]at cC;refine⟨(2,kH)::sg [40]::(jW [([(1,aO r)],nmN (aO r)),([(1,aO c)],nmN (aO c))]++[sg [41]]),.mk 13 kH [nmN (aO r),nmN (aO c)],s+(kr+kc)+1,?_,?_,FW.zero _,?_,by omega,fun nm=>?_,.inr (show (13:Int)≤13 by decide)⟩
 ·rw[e0];exact LV.nam (w:=kH) acV.1 eP.2.2.2.2.2.2.1 (LV.midB (LV.num (mH (by omega))) eP.2.2.1 (LV.end (LV.num (mH (by omega))) eP.2.2.2.2.2.2.2.1))
 ·refine PW.call amN (ks:=[([(1,aO r)],nmN (aO r)),([(1,aO c)],nmN (aO c))]) fun k hk=>?_
  rcases List.mem_cons.1 hk with rfl|hk
  ·exact⟨PW.num _,(FW.num _ _).1⟩
  ·rw[List.mem_singleton]at hk;subst hk;exact⟨PW.num _,(FW.num _ _).1⟩
 ·refine Nat.le_trans (jI (d:=0) fun k hk=>?_) (by decide)
  rcases List.mem_cons.1 hk with rfl|hk
  ·rw[qR];exact Nat.le_refl 0
  ·rw[List.mem_singleton]at hk;subst hk;rw[qR];exact Nat.le_refl 0
 ·exact EX.opr hB0 (n:= .mk 13 kH [nmN (aO r),nmN (aO c)]) ⟨fun h=>by have h':(13:Int)=1:=h;omega,fun h=>by have h':(13:Int)=2:=h;omega,fun h=>by have h':(13:Int)=14:=h;omega⟩ (AL.two (hEr nm) (hEc nm)) (ag5 (n:= .mk 13 kH [nmN (aO r),nmN (aO c)]) rfl cC) hv
theorem RD.mat{r c:Nat}{vs:List Rat}(hvl:vs.length=r*c)(hr:r≤64)(hc:c≤64)(h:∀v∈vs,RB v K)(ht:(tbS r c (vs.map qS)).length≤100000):RD B (tbS r c (vs.map qS)) (iI r c vs) 6 4:=by
 by_cases h0:r=0∨c=0
 ·have hrc:r*c=0:=by rcases h0 with rfl|rfl <;> simp
  obtain rfl:vs=[]:=List.length_eq_zero_iff.1 (by omega)
  exact RD.zero hB hB0 h1 hK hr hc h0
 ·obtain⟨g,hg⟩:=ad2 (P:=fun x gx=>RG B (qS x) (fq x) 4 2 gx) (l:=vs) (fun x hx=>(RD.q hB hB0 h1 hK (h x hx)).g)
  have hr1:1≤r:=by omega
  have hc1:1≤c:=by omega
  obtain⟨s,hs,hv⟩:=VI.of (B:=B) (Cv.one (n:=0) (.mat r c vs hvl hr hc h)) (by omega) (by omega) (by rw[qG];exact ht) hB
  rw[qG]at hs;have erows:(chk c r (vs.map qS)).map (jn 44)=(chk c r vs).map fun row=>jn 44 (row.map qS):=by rw[adK,List.map_map];rfl
  have e0:tbS r c (vs.map qS)=91::(jn 59 ((chk c r vs).map fun row=>jn 44 (row.map qS))++[93]):=by unfold tbS;rw[if_neg h0,erows]
  generalize hJ:jn 59 ((chk c r vs).map fun row=>jn 44 (row.map qS))=J at e0
  have hlen:(tbS r c (vs.map qS)).length=J.length+2:=by rw[e0,List.length_cons,List.length_append];rfl
  have hJ1:=vQ 59 ((chk c r vs).map fun row=>jn 44 (row.map qS))
  rw[hJ,List.map_map]at hJ1;have hgr:∀row∈chk c r vs,∀x∈row,RG B (qS x) (fq x) 4 2 (g x):=fun row hrow x hx=>hg x (ac3 hrow hx)
  have hks:((chk c r vs).map fun row=>(row.map fun x=>(g x).2).sum).sum≤4*J.length:=by
   have h2:=nQ (f:=fun row:List Rat=>(row.map fun x=>(g x).2).sum) (g:=fun row=>4*(jn 44 (row.map qS)).length) (l:=chk c r vs) (fun row hrow=>by
    have a1:=RG.sum (hgr row hrow);have a2:=vQ 44 (row.map qS);rw[List.map_map]at a2;have a3:(row.map (List.length ∘ qS)).sum=(row.map fun x=>(qS x).length).sum:=rfl
    omega)
   rw[ame]at h2;have h3:((chk c r vs).map (List.length ∘ fun row=>jn 44 (row.map qS))).sum=((chk c r vs).map fun row=>(jn 44 (row.map qS)).length).sum:=rfl
   omega
  have hrJ:r≤J.length:=by
   have a1:=afm (r:=r) (c:=c) (l:=vs.map qS) (by rw[List.length_map];exact hvl) (acY qS_1)
   rw[erows,List.map_map]at a1;have a2:=Nat.mul_le_mul_left r hc1;omega
  have erow:∀row:List Rat,kN (row.map fun x=>(g x).1)=row.map fun x=>(g x).1.2:=fun row=>List.map_map ..
  have hrne:∀row∈chk c r vs,row.length=c:=fun row hrow=>anz hvl hrow
  refine⟨sg [91]::(jM ((chk c r vs).map fun row=>row.map fun x=>(g x).1)++[sg [93]]),.mk 14 [] (kM ((chk c r vs).map fun row=>row.map fun x=>(g x).1)),s+(((chk c r vs).map fun row=>(row.map fun x=>(g x).2).sum).sum+(kM ((chk c r vs).map fun row=>row.map fun x=>(g x).1)).length)+1,?_,?_,FW.mat _,?_,?_,fun nm=>?_,.inr (show (13:Int)≤14 by decide)⟩
  ·rw[e0,←hJ];have a1:=LV.jn (c:=59) eP.2.2.2.1 ((chk c r vs).map fun row=>(jn 44 (row.map qS),jW (row.map fun x=>(g x).1))) (fun y hy=>by
    obtain⟨row,hrow,rfl⟩:=List.mem_map.1 hy;exact RG.jn (hgr row hrow))
   rw[List.map_map,List.map_map]at a1;have a2:jM ((chk c r vs).map fun row=>row.map fun x=>(g x).1)=zh (sg [59]) ((chk c r vs).map (Prod.snd ∘ fun row=>(jn 44 (row.map qS),jW (row.map fun x=>(g x).1)))):=by
    show zh _ _=_;rw[List.map_map];rfl
   rw[a2];exact LV.sg eP.2.2.2.2.1 (LV.end a1 eP.2.2.2.2.2.1)
  ·refine PW.mat (fun e=>?_) (fun x hx=>?_) (fun x hx k hk=>?_)
   ·have:=congrArg List.length e;rw[List.length_map,kY,List.length_nil]at this;omega
   ·obtain⟨row,hrow,rfl⟩:=List.mem_map.1 hx;intro e;have:=congrArg List.length e;rw[List.length_map,hrne row hrow,List.length_nil]at this;omega
   ·obtain⟨row,hrow,rfl⟩:=List.mem_map.1 hx;obtain⟨y,hy,rfl⟩:=List.mem_map.1 hk;exact(hgr row hrow y hy).pw
  ·refine jI (d:=3) fun n hn=>?_
   obtain⟨x,hx,rfl⟩:=List.mem_map.1 hn;obtain⟨row,hrow,rfl⟩:=List.mem_map.1 hx;refine jI (d:=2) fun k hk=>?_
   rw[erow]at hk;obtain⟨y,hy,rfl⟩:=List.mem_map.1 hk;exact(hgr row hrow y hy).dp
  ·rw[List.length_map,List.length_map,kY];omega
  ·have cM:=aae (L:=(chk c r vs).map fun row=>row.map fq) (r:=r) (c:=c) (K:=K) (vs:=vs) (by rw[List.length_map,kY]) (fun i R hR=>by
    rw[List.getElem?_map]at hR
    have hir:i < r:=by
     cases hx:(chk c r vs)[i]? with
     |none=>rw[hx]at hR;cases hR
     |some y=>have:=yZ hx;rwa [kY]at this
    rw[ab2 hir]at hR;have hR':=Option.some.inj hR;subst hR';have hlt:=Nat.mul_le_mul_right c (show i+1≤r by omega)
    rw[Nat.succ_mul]at hlt;refine⟨by rw[List.length_map,List.length_take,List.length_drop];omega,fun k hk=>⟨vs[i*c+k]'(by omega),List.getElem?_eq_getElem _,?_⟩⟩
    rw[List.getElem?_map,List.getElem?_take_of_lt hk,List.getElem?_drop,List.getElem?_eq_getElem (by omega)];rfl) hvl hr1 hr hc h (by omega)
   refine EX.mat hB0 (n:= .mk 14 [] (kM ((chk c r vs).map fun row=>row.map fun x=>(g x).1))) rfl (fun F u la tx hF=>?_) hv
   refine apB _ ((chk c r vs).map fun row=>(row.map fun x=>(g x).2).sum) _ (by show ((chk c r vs).map _).length=(kM _).length;rw[List.length_map,List.length_map,List.length_map]) (by show _=(kM _).length;rw[List.length_map,List.length_map,List.length_map]) (by show (kM _).length≤_;rw[List.length_map,List.length_map,kY];omega) (fun i n k ws hn hk hw=>?_) cM F u la tx hF
   have hn':(kM ((chk c r vs).map fun row=>row.map fun x=>(g x).1))[i]? =some n:=hn
   rw[List.getElem?_map,List.getElem?_map]at hn'
   rw[List.getElem?_map]at hk hw
   cases hx:(chk c r vs)[i]? with
   |none=>rw[hx]at hk;cases hk
   |some row=>
    rw[hx]at hn' hk hw;cases hn';cases hk;cases hw;have hrow:=List.mem_of_getElem? hx;show AL B nm (kN (row.map fun x=>(g x).1)) _ _
    rw[erow];exact RG.al (hgr row hrow) nm (by rw[hrne row hrow];omega)
end
end
end
section
attribute [local irreducible] dz bU bV dA bT qv dN mf PrP qOk zOk vP dZ lz vF cq rqv fT dJ eD bX gD sq aO qS zS tS zmd dF eG nmC qB
section
variable{B K:Nat}(hB:64000≤B)(hB0:B≤1000000000)(h1:1≤K)(hK:K≤90)
include hB hB0 h1 hK
end
end
section
theorem aog:wrd 61=false∧srt 61≠1:=by unfold wrd srt;decide
theorem run61(r:List UInt8):run (61::r)=0:=by unfold run;rw[List.takeWhile_cons,aog.1];rfl
theorem num0:num []=false:=by unfold num;rfl
theorem nam0:nam []=false:=by unfold nam;rfl
theorem bg.asg{r:List UInt8}{ws:List Wrd}(h:bg (32::r) ws):bg (61::32::r) (Go.Proofs.YtegehclknhmkgaaGreatDoor.sg [61]::ws):=by
 refine .cons (w:=Go.Proofs.YtegehclknhmkgaaGreatDoor.sg [61]) (t:=32::r) (by rw[ajV aog.2 (by decide)];rfl) ?_ (fun e=>by have e':(3:Int)=0:=e;omega) (fun e=>by cases e) h
 show fst (61::32::r)=_;unfold fst;rw[run61,List.take_zero,num0,if_neg (by decide),nam0,if_neg (by decide),if_neg ?_,show (61::32::r:List UInt8).take 1=[61]from rfl,if_pos (by unfold sg1;decide)]
 rintro⟨_,h9⟩;have e:(61::32::r:List UInt8).take 2=[61,32]:=rfl;rw[e]at h9
 revert h9;decide
theorem ak7:nam [120]=true:=by unfold nam run wrd srt;decide
theorem tx_x:tx 2 [120]=true:=by
 have h:=ak7;have h2:ownB [120]=false:=by rfl
 unfold tx fV;rw[h2];simp[h]
theorem aeh(r:List UInt8):NW (32::r):=aaf (by unfold wrd srt;decide)
theorem nR:srt 32=1:=by unfold srt;decide
theorem sg43:sgc 43=true:=by unfold sgc wrd sg1 srt;decide
theorem abT{x:Nat}(h:x≠0)(h2:x < 10):aO x=[UInt8.ofNat (48+x)]:=by
 unfold aO;rw[if_neg h,mJ h,show x / 10=0 by omega,jm,show x % 10=x by omega];rfl
theorem akq:aO 2=[50]:=abT (by decide) (by decide)
theorem apM:aO 3=[51]:=abT (by decide) (by decide)
theorem am0:aO 1=[49]:=abT (by decide) (by decide)
end
section
attribute [local irreducible] IntKind.wrap Go1 Reg WP aN aQ bM bI aL aC aj ah aT Sat
attribute [local irreducible] dz bU bV dA bT qv dN mf PrP qOk zOk vP dZ lz vF cq rqv fT dJ eD bX gD jn sq aO qS zS tS tbS plS mdS vW anM
section
end
end
section
section
theorem BL.one{B:Nat}{n:Nd}{k:Nat}{σ σ':Ms}(h:ST B n k σ σ'):BL B [n] k σ σ':=by
 have:=abj B [n] [k] (fun i=>if i=0 then σ else σ') rfl (Nat.le_of_ble_eq_true rfl) (fun i n' k' h1 h2=>by
  match i,h1,h2 with
  |0,h1,h2=>cases h1;cases h2;exact h)
 simpa using this
theorem BL.two{B:Nat}{n n':Nd}{k k':Nat}{σ σ1 σ':Ms}(h:ST B n k σ σ1)(h':ST B n' k' σ1 σ'):BL B [n,n'] (k+k') σ σ':=by
 have:=abj B [n,n'] [k,k'] (fun i=>if i=0 then σ else if i=1 then σ1 else σ') rfl (Nat.le_of_ble_eq_true rfl) (fun i m l h1 h2=>by
  match i,h1,h2 with
  |0,h1,h2=>cases h1;cases h2;exact h
  |1,h1,h2=>cases h1;cases h2;exact h')
 simpa using this
attribute [local irreducible] dz bU bV dA bT qv dN mf PrP qOk zOk vP dZ lz vF cq rqv fT dJ eD bX gD jn sq aO qS zS tS tbS plS mdS zmd dF eG nmC qB
section
variable{B K Fu c d:Nat}{s:List UInt8}{v:Vl}(hB:64000≤B)(hB0:B≤1000000000)(hF0:Fu≤1000000000)(hR:RD B s v c d)(hd:d≤190)(hP:PureOK Tryz.prog 12 [.agg (vlA v)] (.tup [.one (.c (.val (str s))),eNo 0]))(hl:s.length≤19500)
include hB hB0 hF0 hR hd hP hl
end
end
section
theorem PW.nam{t:List UInt8}(ht:tx 2 t=true):PW [(2,t)] (.mk 2 t []):=
 PW.prim (w:=(2,t)) (u:=[]) (fun r=>by
  show (!decide ((2:Int)=1)&&decide (t=[45]))=false;simp[aiH ht (c:=45) (m:=[]) (by decide)]) fun l f o r hr hf ho a h=>by
 have h:rst l a=(2,t)::r:=by rw[h];simp
 rw[lK h,if_neg (show¬(2:Int)=1 by decide),qJ ht,if_pos rfl,if_neg (by rw[hr];decide)];rfl
theorem agF:nam mE=true:=by unfold nam run wrd srt;decide
theorem apx:tx 2 mE=true:=by
 have h:=agF;have h2:ownB mE=false:=by rfl
 unfold tx fV;rw[h2];simp[h]
theorem ani{s:List UInt8}{ws:List Wrd}(h:LV s ws):bg ([120,32,61,32]++(s++[59,32,100,101,116,40,120,41,59])) ((2,[120])::sg [61]::(ws++sg [59]::(2,mE)::sg [40]::(2,[120])::sg [41]::[sg [59]])):=by
 have a1:bg [59] [sg [59]]:=bg.sg eP.2.2.2.1 (.nil List.drop_nil);have a2:bg [41,59] (sg [41]::[sg [59]]):=bg.sg eP.2.2.2.2.2.2.2.1 a1;have a3:bg [120,41,59] ((2,[120])::sg [41]::[sg [59]]):=bg.nam (w:=[120]) ak7 (aaf (rV eP.2.2.2.2.2.2.2.1)) a2;have a4:bg [40,120,41,59] (sg [40]::(2,[120])::sg [41]::[sg [59]]):=bg.sg eP.2.2.2.2.2.2.1 a3;have a5:bg [100,101,116,40,120,41,59] ((2,mE)::sg [40]::(2,[120])::sg [41]::[sg [59]]):=bg.nam (w:=mE) agF (aaf (rV eP.2.2.2.2.2.2.1)) a4;have a6:bg [59,32,100,101,116,40,120,41,59] (sg [59]::(2,mE)::sg [40]::(2,[120])::sg [41]::[sg [59]]):=bg.sg eP.2.2.2.1 (bg.sp nR a5);have a7:=h _ _ (aaf (rV eP.2.2.2.1)) a6;exact bg.nam (w:=[120]) ak7 (aeh _) (bg.sp nR (bg.asg (bg.sp nR a7)))
abbrev awkZ:List Int:=[1,2,3,4]
abbrev nK:List Rat:=awkZ.map fun z:Int=>(z:Rat)
theorem aos:aO 4=[52]:=abT (by decide) (by decide)
theorem ace{n:Nat}:qS (((n:Nat):Int):Rat)=aO n:=by
 rw[qX,if_pos (Rat.den_intCast _),Rat.num_intCast];exact zJ n
theorem anH:tbS 2 2 (nK.map qS)=[91,49,44,32,50,59,32,51,44,32,52,93]:=by
 have e1:qS ((1:Int):Rat)=[49]:=(ace (n:=1)).trans am0;have e2:qS ((2:Int):Rat)=[50]:=(ace (n:=2)).trans akq;have e3:qS ((3:Int):Rat)=[51]:=(ace (n:=3)).trans apM;have e4:qS ((4:Int):Rat)=[52]:=(ace (n:=4)).trans aos;have e:nK.map qS=[[49],[50],[51],[52]]:=by
  show [qS ((1:Int):Rat),qS ((2:Int):Rat),qS ((3:Int):Rat),qS ((4:Int):Rat)]=_;rw[e1,e2,e3,e4]
 rw[e];rfl
theorem awk_d:abk 2 nK=((-2:Int):Rat):=by
 unfold abk;rw[ajX,adY];decide+kernel
theorem aoo:qS ((-2:Int):Rat)=[45,50]:=by
 rw[qX,if_pos (Rat.den_intCast _),Rat.num_intCast];show (if(-2:Int) < 0 then 45::aO 2 else aO 2)=_
 rw[if_pos (by decide),akq]
abbrev tAwk:List UInt8:=[120,32,61,32,91,49,44,32,50,59,32,51,44,32,52,93,59,32,100,101,116,40,120,41,59]
attribute [local irreducible] IntKind.wrap Go1 Reg WP aN aQ bM bI aL aC aj ah aT Sat
attribute [local irreducible] dz bU bV dA bT qv dN mf PrP qOk zOk vP dZ lz vF cq rqv fT dJ eD bX gD jn sq aO qS zS tS tbS plS mdS zmd dF eG nmC qB abk
abbrev abZ:List Atom:=afl 1000000 1000000 200
theorem vV:PureOK Tryz.prog 8 [] (.agg abZ):=by
 refine PureOK.fnF Tryz.func8 Tryz.results8 Tryz.ntmps8 rfl rfl rfl (by simp[AV.ids,AV0.ids,Atom.ids]) rfl (fun w0 T B E0 hB=>?_)
 refine SX.goM ?_;exact qg (aj.aX rfl rfl rfl) rfl
theorem amn:PureOK Tryz.prog 7 [.v (str tAwk),.agg abZ] (.tup [.one (.c (.val (str [45,50,10]))),eNo 0]):=by
 have hb:∀v∈nK,RB v 1:=fun v hv=>by
  obtain⟨z,hz,rfl⟩:=List.mem_map.1 hv;refine RB.ofI ?_ (Nat.le_refl 1);rw[Nat.pow_one,bY];simp at hz
  rcases hz with rfl|rfl|rfl|rfl <;> decide
 have ls:(tbS 2 2 (nK.map qS)).length=12:=by rw[anH];rfl
 have C1:Cv 1 0 (iI 2 2 nK):= .one (.mat 2 2 _ rfl (by decide) (by decide) hb)
 have hR:=RD.mat (B:=1000000) (K:=1) (by decide) (by decide) (by decide) (by decide) (r:=2) (c:=2) (vs:=nK) rfl (by decide) (by decide) hb (by omega)
 obtain⟨z,hz1,hz2⟩:=VI.of (B:=1000000) C1 (by decide) (by decide) (by
  have e:tS (iI 2 2 nK)=tbS 2 2 (nK.map qS):=qG 2 2 nK;rw[e];omega) (by decide)
 have e:tS (iI 2 2 nK)=tbS 2 2 (nK.map qS):=qG 2 2 nK;rw[e]at hz1;obtain⟨ws,m,k,hlv,hpw,hfw,hdp,hk,hex,hop⟩:=hR.h;have hL:=ani hlv;rw[anH]at hL;have hL:bg tAwk _:=hL;have hS1:=SW.set tx_x hpw (by omega)
 have hd0:dep (.mk 13 mE [.mk 2 [120] []])≤1:=jI (d:=0) fun n hn=>by
  rw[List.mem_singleton]at hn;subst hn;rw[uK];exact Nat.le_refl 0
 have hd1:dep (.mk 18 [120] [m])≤191:=jI (d:=190) fun n hn=>by
  have e:=List.mem_singleton.1 hn;subst e;omega
 have hd2:dep (.mk 19 [] [.mk 13 mE [.mk 2 [120] []]])≤2:=jI (d:=1) fun n hn=>by
  have e:=List.mem_singleton.1 hn;subst e;exact hd0
 have hS2:=SW.show (PW.call apx (ks:=[([(2,[120])],.mk 2 [120] [])]) (fun k hk=>by
  rw[List.mem_singleton]at hk;subst hk;exact⟨PW.nam tx_x,⟨_,_,rfl,fun r'=>rfl⟩⟩)) (by show dep (.mk 13 mE [.mk 2 [120] []])≤200;omega) (fun r=>⟨rfl,rfl,rfl⟩)
 obtain⟨ts,e1,e2,e3⟩:=xR (s:=tAwk) (ks:=[((2,[120])::sg [61]::(ws++[sg [59]]),.mk 18 [120] [m]),(((2,mE)::sg [40]::([(2,[120])]++[sg [41]]))++[sg [59]],.mk 19 [] [.mk 13 mE [.mk 2 [120] []]])]) (by simpa using hL) (by decide) (fun k hk=>by
  rcases List.mem_cons.1 hk with rfl|hk
  ·exact⟨hS1,by simp⟩
  ·rw[List.mem_singleton]at hk;subst hk;exact⟨hS2,by simp⟩) (Nat.le_trans (rD (d:=192) fun n hn=>by
   rcases List.mem_cons.1 hn with rfl|hn
   ·exact Nat.le_trans hd1 (by decide)
   ·have e:=List.mem_singleton.1 hn;subst e;exact Nat.le_trans hd2 (by decide)) (by decide))
 have hs1:=ST.set (nm:=[]) (la:=v0) (tx:=[]) (n:= .mk 18 [120] [m]) rfl rfl (hex []);have hb1:(-2:Int).natAbs < WB ^ 1:=by rw[Nat.pow_one,bY];decide
 obtain⟨y,hy1,hy2⟩:=VI.num (B:=1000000) (K:=1) (by decide) (Nat.le_refl 1) (by decide) (RB.ofI (z:= -2) hb1 (Nat.le_refl 1))
 rw[aoo]at hy1;have hy1:y≤2:=hy1;have cP:=zw (RB.ofI (z:= -2) hb1 (Nat.le_refl 1)) (by decide)
 rw[aoo]at cP;have cC:=abu (n:=2) (K:=1) (vs:=nK) rfl (by decide) hb (by decide) (by decide) (by decide) (by decide) (by decide)
 rw[awk_d]at cC;have hlk:dF (eG [] [120] (iI 2 2 nK)) [120]=some (iI 2 2 nK):=by unfold eG dF;rfl
 have hxe:=EX.name (B:=1000000) (by decide) (nm:=eG [] [120] (iI 2 2 nK)) (n:= .mk 2 [120] []) rfl hlk hz2
 have hee:=EX.opr (B:=1000000) (by decide) (nm:=eG [] [120] (iI 2 2 nK)) (n:= .mk 13 mE [.mk 2 [120] []]) ⟨fun h=>by have h':(13:Int)=1:=h;omega,fun h=>by have h':(13:Int)=2:=h;omega,fun h=>by have h':(13:Int)=14:=h;omega⟩ (AL.one hxe) (ag5 (n:= .mk 13 mE [.mk 2 [120] []]) rfl cC) hy2
 have hs2:=ST.show (nm:=eG [] [120] (iI 2 2 nK)) (la:=v0) (tx:=[]) (n:= .mk 19 [] [.mk 13 mE [.mk 2 [120] []]]) rfl rfl hee cP (by decide)
 have hbl:=BL.two hs1 hs2;obtain⟨F,hF⟩:∃F,1000000=F+(k+1+(y+(z+1)+1+1)):=⟨1000000 - (k+1+(y+(z+1)+1+1)),by omega⟩
 have cp:=yu (F:=F+(k+1+(y+(z+1)+1+1))) (B:=1000000) (D:=200) (Nat.le_refl _) (by decide) e1 e2 e3
 have h:=agx cp hbl (by omega) (by decide)
 rw[←hF]at h;exact h
theorem afg:PureOK Tryz.prog 9 [] (.v (.bool true)):=by
 have c:=vV;have h:=amn;refine PureOK.fnF Tryz.func9 Tryz.results9 Tryz.ntmps9 rfl rfl rfl (by simp[AV.ids,AV0.ids,Atom.ids]) rfl (fun w0 T B E0 hB=>?_)
 refine SX.goM ?_;exact bK rfl
section
variable{u:Vl}
end
end
end
end Go.Proofs.YtegehclknhmkgaaGreatDoor