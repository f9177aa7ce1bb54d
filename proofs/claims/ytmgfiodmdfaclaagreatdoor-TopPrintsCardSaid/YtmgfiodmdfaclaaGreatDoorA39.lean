import Derived.Test.YtmgfiodmdfaclaaGreatDoorA28
import Derived.Test.YtmgfiodmdfaclaaGreatDoorA25
import Derived.Test.YtmgfiodmdfaclaaGreatDoorA24
set_option linter.unusedVariables false
set_option linter.unusedSimpArgs false
set_option linter.unusedSectionVars false
namespace Go.Proofs.YtmgfiodmdfaclaaGreatDoor
open Go.RowKit QM SX LA
section
theorem afy{t s:List UInt8}(h:tx 2 t=true)(hs:ownB s=true):t≠s:=fun e=>by
 have:=ao4 h;rw[e,hs]at this;cases this
theorem aeA{t s:List UInt8}(h:tx 2 t=true)(hs:ownB s=true)(r:List Wrd):hS ((2,t)::r) s=false:=by
 show (!decide ((2:Int)=1)&&decide (t=s))=false;simp[afy h hs]
def SW(ws:List Wrd)(n:Nd):Prop:=∀(l:List Tok) (a:Nat) (r:List Wrd),rst l a=ws++r→agA 600 l (l.length+1) a 0= .ok n (a+ws.length)
def HX(ws:List Wrd):Prop:=∀r,hS (ws++sg [59]::r) [105,102]=false∧hS (ws++sg [59]::r) [102,111,114]=false∧(hN (ws++sg [59]::r)&&hS ((ws++sg [59]::r).drop 1) [61])=false
theorem aii{l:List Tok}{a:Nat}{u:List Wrd}(h:rst l a=u):u.length≤l.length:=by
 rw[←h];unfold rst;rw[List.length_drop,List.length_map];omega
theorem SW.show{ws:List Wrd}{m:Nd}(h:PW ws m)(hd:dep m≤200)(hx:HX ws):SW (ws++[sg [59]]) (.mk 19 [] [m]):=fun l a r hr=>by
 have hr:rst l a=ws++sg [59]::r:=by rw[hr];simp
 obtain⟨h1,h2,h3⟩:=hx r;have hle:=aii hr;have he:af3 (sg [59]::r):=sS (by decide) r
 have hm:=h l (l.length+1) 0 (sg [59]::r) he (by omega) (by omega) a hr
 have hend:=jG hr;show stG l (lev 600 l (l.length+1)).1 _ a 0=_;have h31:(nA l a&&isS l (a+1) [61])=false:=by
  rw[aae,bf,hr,←h3];unfold rst at hr ⊢;rw[←List.drop_drop,hr]
 unfold stG;rw[bf,hr,h1,if_neg (by decide),bf,hr,h2,if_neg (by decide),h31,if_neg (by decide),hm]
 show (if isS l (a+ws.length) [59]then _ else _)=_
 rw[bf,hend,if_pos (by rfl)]
 congr 1;simp;omega
theorem SW.set{t:List UInt8}{ws:List Wrd}{m:Nd}(ht:tx 2 t=true)(h:PW ws m)(hd:dep m≤200):SW ((2,t)::sg [61]::(ws++[sg [59]])) (.mk 18 t [m]):=fun l a r hr=>by
 have hr:rst l a=(2,t)::sg [61]::(ws++sg [59]::r):=by rw[hr];simp
 have hle:=aii hr;have he:af3 (sg [59]::r):=sS (by decide) r
 have r1:=jw hr;have r2:=jw r1;rw[List.length_cons,List.length_cons]at hle;have hm:=h l (l.length+1) 0 (sg [59]::r) he (by omega) (by omega) (a+1+1) r2
 have hend:=jG r2;have n1:hS ((2,t)::sg [61]::(ws++sg [59]::r)) [105,102]=false:=aeA ht (by rfl) _
 have n2:hS ((2,t)::sg [61]::(ws++sg [59]::r)) [102,111,114]=false:=aeA ht (by rfl) _
 have h31:(nA l a&&isS l (a+1) [61])=true:=by
  rw[aae,bf,hr,r1,agB ht];rfl
 show stG l (lev 600 l (l.length+1)).1 _ a 0=_;unfold stG;rw[bf,hr,n1,if_neg (by decide),bf,hr,n2,if_neg (by decide),h31,if_pos rfl,apd hr,hm]
 show (if isS l (a+1+1+ws.length) [59]then _ else _)=_
 rw[bf,hend,if_pos (by rfl)]
 congr 1;simp;omega
theorem afc{l:List Tok}:∀(ks:List WN) (acc:List Nd) (g a:Nat),(∀k∈ks,SW k.1 k.2∧1≤k.1.length)→
  ks.length < g→rst l a=(ks.map (·.1)).flatten→a+(ks.map (·.1)).flatten.length=l.length→vM l (agA 600 l (l.length+1)) g acc a 0= .ok (.mk 0 [] (acc++kN ks)) l.length
 |[],acc,g,a,hk,hg,h,hl=>by
  obtain⟨g,rfl⟩:∃k,g=k+1:=⟨g - 1,by simp at hg;omega⟩
  have hl:a=l.length:=by simpa using hl
  rw[vM]
  dsimp only
  rw[if_neg (by omega),hl];simp
 |k::ks,acc,g,a,hk,hg,h,hl=>by
  rw[List.length_cons]at hg;obtain⟨g,rfl⟩:∃k,g=k+1:=⟨g - 1,by omega⟩
  obtain⟨k3,hp⟩:=hk k (by simp)
  have h:rst l a=k.1++(ks.map (·.1)).flatten:=by rw[h];simp
  rw[List.map_cons,List.flatten_cons,List.length_append]at hl;rw[vM]
  dsimp only
  rw[if_pos (by omega),k3 l a _ h]
  dsimp only
  rw[afc ks (acc++[k.2]) g (a+k.1.length) (fun x hx=>hk x (by simp[hx])) (by omega) (jG h) (by omega)]
  simp
theorem afT:∀{ks:List WN},(∀k∈ks,1≤k.1.length)→ks.length≤(ks.map (·.1)).flatten.length
 |[],_=>by simp
 |k::ks,h=>by
  have:=h k (by simp)
  have:=afT (ks:=ks) fun x hx=>h x (by simp[hx])
  simp only[List.map_cons,List.flatten_cons,List.length_append,List.length_cons];omega
theorem afn{l:List Tok}{ks:List WN}(hw:l.map kt=(ks.map (·.1)).flatten)(ht:l.all iF=true)(hk:∀k∈ks,SW k.1 k.2∧1≤k.1.length)(hd:kK (kN ks)≤200):uE l 200=(kN ks,0,0):=by
 have hlen:l.length=(ks.map (·.1)).flatten.length:=by rw[←List.length_map (f:=kt),hw]
 have hg:=afT fun k hkm=>(hk k hkm).2
 have h0:rst l 0=(ks.map (·.1)).flatten:=by unfold rst;rw[List.drop_zero,hw]
 have hp:afu l= .ok (.mk 0 [] (kN ks)) l.length:=by
  unfold afu;rw[afc ks [] (l.length+1) 0 hk (by omega) h0 (by omega)]
  simp
 unfold uE;rw[if_neg (by omega),ht,if_pos rfl,hp]
 show ak1 (kN ks) 200=_;unfold ak1;rw[if_neg (by omega)]
theorem dW.len{s:List UInt8}{ws:List Wrd}(h:dW s ws):ws.length≤s.length∧∀w∈ws,w.2.length≤s.length:=by
 induction h with
 |nil h=>exact⟨Nat.zero_le _,by simp⟩
 | @cons s t w ws h h1 h2 h3 _ ih=>
  have hl:=congrArg List.length h;rw[List.length_drop,List.length_append]at hl;have hw:w.2.length≠0:=by simpa using h3
  refine⟨by rw[List.length_cons];omega,fun x hx=>?_⟩
  rcases List.mem_cons.1 hx with rfl|hx
  ·omega
  ·have:=ih.2 x hx;omega
theorem uH{s:List UInt8}{ks:List WN}(hs:dW s (ks.map (·.1)).flatten)(hl:s.length≤20000)(hk:∀k∈ks,SW k.1 k.2∧1≤k.1.length)(hd:kK (kN ks)≤200):∃ts,adB s=(ts,0,0)∧(ts.length≤1000000∧∀t∈ts,t.text.length≤9223372036854775807)∧uE ts 200=(kN ks,0,0):=by
 obtain⟨ts,h1,h2,h3⟩:=hs.R hl;have hb:=hs.len;refine⟨ts,h1,⟨?_,fun t ht=>?_⟩,afn h2 h3 hk hd⟩
 ·have:=hb.1;rw[←h2,List.length_map]at this;omega
 ·have:=hb.2 (kt t) (h2▸List.mem_map_of_mem ht);have e:(kt t).2=t.text:=rfl;rw[e]at this;omega
theorem ahE{α:Type}{f:α→Nat}:∀{l:List α} {x:α},x∈l→f x≤(l.map f).sum
 |y::l,x,h=>by
  rw[List.map_cons,List.sum_cons];rcases List.mem_cons.1 h with rfl|h
  ·omega
  ·have:=ahE (f:=f) h;omega
theorem oQ{α:Type}{f g:α→Nat}:∀{l:List α},(∀x∈l,f x≤g x)→(l.map f).sum≤(l.map g).sum
 |[],_=>Nat.le_refl _
 |x::l,h=>by
  rw[List.map_cons,List.map_cons,List.sum_cons,List.sum_cons];have h1:=h x List.mem_cons_self;have h2:=oQ (l:=l) fun y hy=>h y (List.mem_cons_of_mem _ hy)
  omega
theorem ug(s:UInt8):∀l:List (List UInt8),(l.map List.length).sum≤(jn s l).length
 |[]=>Nat.le_refl _
 |[a]=>by simp[jn]
 |a::b::l=>by
  have:=ug s (b::l);rw[List.map_cons,List.sum_cons];show a.length+((b::l).map List.length).sum≤(a++(s::32::jn s (b::l))).length;rw[List.length_append,List.length_cons,List.length_cons];omega
theorem ajb{l:List (List UInt8)}(h:∀x∈l,1≤x.length):l.length≤(l.map List.length).sum:=by
 have h2:=oQ (f:=fun _=>1) (g:=List.length) (l:=l) h
 have e:(l.map fun _=>1).sum=l.length:=by
  clear h h2
  induction l with
  |nil=>rfl
  |cons a l ih=>rw[List.map_cons,List.sum_cons,ih,List.length_cons];omega
 omega
theorem agv{c:Nat}:∀{r:Nat} {l:List (List UInt8)},l.length=r*c→(∀x∈l,1≤x.length)→r*c≤(((chk c r l).map (jn 44)).map List.length).sum
 |0,l,_,_=>by rw[Nat.zero_mul];exact Nat.zero_le _
 |r+1,l,hl,h=>by
  rw[Nat.succ_mul]at hl ⊢;show _≤(((l.take c::chk c r (l.drop c)).map (jn 44)).map List.length).sum;rw[List.map_cons,List.map_cons,List.sum_cons];have h1:=agv (c:=c) (r:=r) (l:=l.drop c) (by rw[List.length_drop];omega) (fun x hx=>h x (List.mem_of_mem_drop hx))
  have h2:=ug 44 (l.take c);have h3:=ajb (l:=l.take c) fun x hx=>h x (List.mem_of_mem_take hx)
  rw[List.length_take]at h3;omega
theorem alC{r c:Nat}{l:List (List UInt8)}(hl:l.length=r*c)(h:∀x∈l,1≤x.length):l.length≤(tbS r c l).length:=by
 unfold tbS
 split
 ·next h0=>
  have:r*c=0:=by rcases h0 with rfl|rfl <;> simp
  omega
 ·have h1:=agv hl h;have h2:=ug 59 ((chk c r l).map (jn 44));rw[List.length_cons,List.length_append];omega
theorem alR{l:List (List UInt8)}(h:∀x∈l,1≤x.length):l.length≤(plS l).length:=by
 have h1:=ug 44 l;have h2:=ajb h;unfold plS;rw[List.length_append,List.length_append];omega
theorem acV(s:List UInt8)(p:Nat):s.length≤(mdS s p).length:=by
 unfold mdS;rw[List.length_append,List.length_append];omega
theorem ne1{l:List UInt8}{c:UInt8}{m:List UInt8}(h:l=c::m):1≤l.length:=by rw[h];simp
theorem qS_1(x:Rat):1≤(qS x).length:=by obtain⟨c,m,h,_⟩:=qS_ne x;exact ne1 h
theorem zS_1(x:Int):1≤(zS x).length:=by obtain⟨c,m,h,_⟩:=ara x;exact ne1 h
theorem agU(x:Nat):1≤(aH x).length:=by obtain⟨c,m,h,_⟩:=ajj x;exact ne1 h
theorem afb{α:Type}{f:α→List UInt8}{l:List α}(h:∀x,1≤(f x).length):∀y∈l.map f,1≤y.length:=fun y hy=>by
 obtain⟨x,_,rfl⟩:=List.mem_map.1 hy;exact h x
theorem alx{l:List Vl}{x:Vl}(h:x∈l):(tS x).length+2≤(tS (kG l)).length:=by
 rw[rM,List.length_cons,List.length_append];have h1:=ug 44 (l.map tS);have h2:=ahE (f:=List.length) (List.mem_map_of_mem (f:=tS) h);have e:([125]:List UInt8).length=1:=rfl;omega
structure IV(d b s:Nat)(v:Vl):Prop where
 n:PureOK Tryz.prog 208 [.agg (vlA v)] (.v (.int .i64 (d:Int)))
 b:PureOK Tryz.prog 235 [.agg (vlA v)] (.v (.int .i64 (b:Int)))
 s:PureOK Tryz.prog 210 [.agg (vlA v)] (.v (.int .i64 (s:Int)))
theorem IV.of{K n:Nat}{v:Vl}(h:Cv K n v)(hK:K≤100)(hn:n≤15):(tS v).length≤100000→∃d b s:Nat,d≤n∧b≤64000∧s≤(tS v).length∧IV d b s v:=by
 induction h with
 | @one n v h=>
  intro hl;cases h with
  |num x h=>
   have hq:=ahr h;refine⟨0,qB x,1,Nat.zero_le _,by omega,by rw[uL];exact qS_1 x,lD _ (fun h=>by have h':(1:Int)=6:=h;omega),ak2 h (by omega),?_⟩
   exact ac7 (eF x) (fun _=>0) ⟨fun h=>by have h':(1:Int)=2:=h;omega,fun h=>by have h':(1:Int)=3:=h;omega,fun h=>by have h':(1:Int)=4:=h;omega,fun h=>by have h':(1:Int)=5:=h;omega⟩ (Nat.le_of_ble_eq_true rfl) (Nat.le_of_ble_eq_true rfl) (fun x hx=>by cases hx)
  |mat r c vs hvl hr hc h=>
   have hrc:=Nat.mul_le_mul hr hc;have e:((gP r c vs).a).length=vs.length:=List.length_map _;refine⟨0,_,vs.length,Nat.zero_le _,aap (fun x hx=>?_) (Nat.zero_le _),?_,lD _ (fun h=>by have h':(2:Int)=6:=h;omega),akL h (by omega) (by omega),?_⟩
   ·obtain⟨y,hy,rfl⟩:=List.mem_map.1 hx;have:=ahr (h y hy);omega
   ·rw[oh];have:=alC (r:=r) (c:=c) (l:=vs.map qS) (by rw[List.length_map];exact hvl) (afb qS_1)
    rwa [List.length_map]at this
   ·have:=akE (gP r c vs) rfl (by rw[e];omega)
    rwa [e]at this
  |pol zs hzl hpn h=>
   have e:((iW zs).po).length=zs.length:=List.length_map _;refine⟨0,_,zs.length,Nat.zero_le _,aap (fun x hx=>?_) (Nat.zero_le _),?_,lD _ (fun h=>by have h':(3:Int)=6:=h;omega),akH h (by omega) hzl,?_⟩
   ·obtain⟨y,hy,rfl⟩:=List.mem_map.1 hx;have:=sK (h y hy);omega
   ·rw[uT];have:=alR (l:=zs.map zS) (afb zS_1)
    rwa [List.length_map]at this
   ·have:=aj9 (iW zs) rfl (by rw[e];omega)
    rwa [e]at this
  |fld p r c l hp hll hr hc h=>
   have hrc:=Nat.mul_le_mul hr hc;have hpl:=hp.lt;have hpW:p < WB:=by rw[aX];omega
   refine⟨0,bitLen p,l.length,Nat.zero_le _,?_,?_,lD _ (fun h=>by have h':(4:Int)=6:=h;omega),ai4 (lI p r c l) (.inl rfl) hpW,aki (lI p r c l) rfl (show l.length≤1000000 by omega)⟩
   ·have:=sK (k:=1) (by rw[Nat.pow_one];exact hpW);omega
   ·rw[uy];have:=alC (r:=r) (c:=c) (l:=l.map aH) (by rw[List.length_map];exact hll) (afb agU)
    rw[List.length_map]at this;exact Nat.le_trans this (acV _ _)
  |rng p l hp hll hwn h=>
   have hpl:=hp.lt;have hpW:p < WB:=by rw[aX];omega
   refine⟨0,bitLen p,l.length,Nat.zero_le _,?_,?_,lD _ (fun h=>by have h':(5:Int)=6:=h;omega),ai4 (lN p l) (.inr rfl) hpW,akl (lN p l) rfl (show l.length≤1000000 by omega)⟩
   ·have:=sK (k:=1) (by rw[Nat.pow_one];exact hpW);omega
   ·rw[u7];have:=alR (l:=l.map aH) (afb agU);rw[List.length_map]at this;exact Nat.le_trans this (acV _ _)
 | @lst n l hll h ih=>
  intro hl;obtain⟨g,hg⟩:=uZ (β:=Nat×Nat×Nat) (P:=fun x t=>t.1≤n∧t.2.1≤64000∧t.2.2≤(tS x).length∧IV t.1 t.2.1 t.2.2 x) (l:=l) (fun x hx=>by
   have hm:=alx hx;obtain⟨d,b,s,h1,h2,h3,h4⟩:=ih x hx (by omega) (by omega)
   exact⟨(d,b,s),h1,h2,h3,h4⟩)
  have hs:(l.map fun x=>(g x).2.2).sum+2≤(tS (kG l)).length:=by
   rw[rM,List.length_cons,List.length_append];have h1:=ug 44 (l.map tS);have h2:=oQ (f:=fun x=>(g x).2.2) (g:=fun x=>(tS x).length) (l:=l) (fun x hx=>(hg x hx).2.2.1)
   rw[List.map_map]at h1;have h3:(l.map (List.length ∘ tS)).sum=(l.map fun x=>(tS x).length).sum:=rfl
   have e:([125]:List UInt8).length=1:=rfl;omega
  refine⟨1+(l.map fun x=>(g x).1).foldl max 0,(l.map fun x=>(g x).2.1).foldl max 0,1+(l.map fun x=>(g x).2.2).sum,?_,?_,by omega,?_,?_,?_⟩
  ·have:=aap (B:=n) (l:=l.map fun x=>(g x).1) (b:=0) (fun y hy=>by obtain⟨x,hx,rfl⟩:=List.mem_map.1 hy;exact(hg x hx).1) (Nat.zero_le _)
   omega
  ·exact aap (fun y hy=>by obtain⟨x,hx,rfl⟩:=List.mem_map.1 hy;exact(hg x hx).2.1) (Nat.zero_le _)
  ·exact aeX (kG l) (fun x=>(g x).1) rfl (show l.length≤1000000 by omega) (fun x hx=>by have:=(hg x hx).1;omega) (fun x hx=>(hg x hx).2.2.2.n)
  ·exact apq (kG l) (fun x=>(g x).2.1) rfl rfl (show l.length≤1000000 by omega) (fun x hx=>(hg x hx).2.1) (fun x hx=>(hg x hx).2.2.2.b)
  ·exact ac7 (kG l) (fun x=>(g x).2.2) ⟨fun h=>by have h':(6:Int)=2:=h;omega,fun h=>by have h':(6:Int)=3:=h;omega,fun h=>by have h':(6:Int)=4:=h;omega,fun h=>by have h':(6:Int)=5:=h;omega⟩ (show (l.map fun x=>(g x).2.2).sum≤1000000 by omega) (show l.length≤1000000 by omega) (fun x hx=>(hg x hx).2.2.2.s)
theorem VI.of{K n B:Nat}{v:Vl}(h:Cv K n v)(hK:K≤100)(hn:n≤15)(hl:(tS v).length≤100000)(hB:64000≤B):∃s:Nat,s≤(tS v).length∧VI B s v:=by
 obtain⟨d,b,s,h1,h2,h3,h4⟩:=IV.of h hK hn hl;exact⟨s,h3,⟨d,by omega,h4.n⟩,⟨b,by omega,arV (h.F (by omega) hn) h4.b⟩,h4.s⟩
section
theorem iZ{x k:Nat}(h:x < WB ^ k):(aH x).length≤20*k+1:=by
 unfold aH
 split
 ·simp
 ·have:WB ^ k≤10 ^ (20*k):=by rw[Nat.pow_mul];exact Nat.pow_le_pow_left (by rw[aX];decide) _
  have:=adY (Nat.lt_of_lt_of_le h this);omega
attribute [local irreducible] IntKind.wrap Go1 Reg WP aQ aR bO bN aN aB aj ah aV Sat
attribute [local irreducible] bS bV bX dx bW qv redS mf PrP qOk zOk vP dL lz vF cq rqv fC dn dI pScale mulV jn sq aH qS zS tS tbS plS mdS zmd eU iR nmC qB
theorem alp{v n:Vl}{e:Int}(hF:PureOK Tryz.prog 27 [.agg (vlA v)] (.v (.bool true)))(h:PureOK Tryz.prog 237 [.agg (vlA v)] (.tup [.agg (vlA n),eNo e])):
  PureOK Tryz.prog 213 [.v (.int .i64 3),.agg (vlA v)] (.tup [.agg (vlA n),eNo e]):=by
 refine PureOK.fnF Tryz.func213 Tryz.results213 Tryz.ntmps213 rfl rfl rfl (by simp[AV.ids,AV0.ids,Atom.ids]) rfl (fun w0 T B E0 hB=>?_)
 refine SX.goM ?_;exact .ok (aB.mk2 (aj.fD rfl rfl rfl) (aj.tmp rfl))
theorem AL.one{B:Nat}{nm:Nms}{m:Nd}{k:Nat}{v:Vl}(h:EX B nm m k v):AL B nm [m] k [v]:=by
 have:=amb B nm [m] [k] [v] rfl rfl (Nat.le_of_ble_eq_true rfl) (fun i n k' v' h1 h2 h3=>by
  match i,h1,h2,h3 with
  |0,h1,h2,h3=>cases h1;cases h2;cases h3;exact h)
 simpa using this
theorem AL.two{B:Nat}{nm:Nms}{m m':Nd}{k k':Nat}{v v':Vl}(h:EX B nm m k v)(h':EX B nm m' k' v'):AL B nm [m,m'] (k+k') [v,v']:=by
 have:=amb B nm [m,m'] [k,k'] [v,v'] rfl rfl (Nat.le_of_ble_eq_true rfl) (fun i n k1 v1 h1 h2 h3=>by
  match i,h1,h2,h3 with
  |0,h1,h2,h3=>cases h1;cases h2;cases h3;exact h
  |1,h1,h2,h3=>cases h1;cases h2;cases h3;exact h')
 simpa using this
section
variable{B K:Nat}(hB:64000≤B)(hB0:B≤1000000000)(h1:1≤K)(hK:K≤90)
include hB hB0 h1 hK
omit hB0 in
theorem VI.num{x:Rat}(hx:RB x K):∃s:Nat,s≤(qS x).length∧VI B s (eF x):=by
 have hl:(tS (eF x)).length≤100000:=by
  rw[uL,qa9];have d1:=iZ hx.n;have d2:=iZ hx.d;have z1:(zS x.num).length≤(aH x.num.natAbs).length+1:=by unfold zS;split <;> simp
  have z2:(zS (x.den:Int)).length=(aH x.den).length:=by rw[og]
  split
  ·omega
  ·rw[List.length_append,List.length_cons];omega
 have h:=VI.of (B:=B) (Cv.one (n:=0) (.num x hx)) (by omega) (by omega) hl hB
 rwa [uL]at h
theorem uS{x:Nat}(hx:x < WB ^ K):∃k:Nat,k≤2*(aH x).length∧∀nm,EX B nm (nmN (aH x)) k (vI x):=by
 have hb:((x:Nat):Int).natAbs < WB ^ K:=hx;have hd:=iZ hx;obtain⟨s,hs,hv⟩:=VI.num hB h1 hK (RB.ofI hb h1);have e:qS ((x:Int):Rat)=aH x:=by rw[qa9,if_pos (Rat.den_intCast _),Rat.num_intCast,og]
 rw[e]at hs;have hp:=agU x;have cZ:=ahn (aH x) (by omega)
 have hz:=aot (z:=(x:Int)) (k:=K) ⟨hb⟩ (by omega)
 rw[og]at hz;rw[hz.1,hz.2]at cZ;have cW:PureOK Tryz.prog 174 [.agg (zN (x:Int))] (.agg (vlA (vI x))):=xG (q:=z2v (x:Int)) (ZQ.made hb) h1 (by omega)
 exact⟨s+1,by omega,fun nm=>EX.num hB0 (n:=nmN (aH x)) rfl cZ cW hv⟩
theorem alV{z:Int}(hz:z.natAbs < WB ^ K):∃k:Nat,k≤3*(zS z).length∧∀nm,EX B nm (zNd z) k (vI z):=by
 obtain⟨k,hk,hE⟩:=uS hB hB0 h1 hK hz;by_cases h:z < 0
 ·have e1:zNd z= .mk 3 [] [nmN (aH z.natAbs)]:=by unfold zNd;rw[if_pos h]
  have e2:zS z=45::aH z.natAbs:=by unfold zS;rw[if_pos h]
  have e3:(z:Rat)= -(((z.natAbs:Nat):Int):Rat):=by
   rw[←Rat.intCast_neg];congr 1;omega
  have hb:(((z.natAbs:Nat):Int)).natAbs < WB ^ K:=by simpa using hz
  obtain⟨s,hs,hv⟩:=VI.num hB h1 hK (RB.ofI hz h1);have e4:qS (z:Rat)=zS z:=by rw[qa9,if_pos (Rat.den_intCast _),Rat.num_intCast]
  rw[e4]at hs;have cN:=alp (rZ hb h1 (by omega)) (anf (RB.ofI hb h1) (by omega))
  have e5:eF (-(((z.natAbs:Nat):Int):Rat))=vI z:=by rw[←e3]
  rw[e5]at cN;refine⟨s+k+1,by rw[e2]at hs ⊢;rw[List.length_cons]at*;omega,fun nm=>?_⟩
  rw[e1];exact EX.opr hB0 (n:= .mk 3 [] [nmN (aH z.natAbs)]) ⟨fun h=>by have h':(3:Int)=1:=h;omega,fun h=>by have h':(3:Int)=2:=h;omega,fun h=>by have h':(3:Int)=14:=h;omega⟩ (AL.one (hE nm)) (alG rfl cN) hv
 ·have e1:zNd z=nmN (aH z.natAbs):=by unfold zNd;rw[if_neg h]
  have e2:zS z=aH z.natAbs:=by unfold zS;rw[if_neg h]
  have e3:((z.natAbs:Nat):Int)=z:=by omega
  rw[e3]at hE;refine⟨k,by rw[e2];omega,fun nm=>?_⟩
  rw[e1];exact hE nm
end
end
section
def FW(ws:List Wrd):Prop:=HD ws [41]∧HD ws [125]∧HX ws
theorem FW.num(t:List UInt8)(r:List Wrd):FW ((1,t)::r):=⟨⟨_,_,rfl,fun r'=>rfl⟩,⟨_,_,rfl,fun r'=>rfl⟩,fun r'=>⟨rfl,rfl,rfl⟩⟩
theorem FW.min(r:List Wrd):FW (sg [45]::r):=⟨⟨_,_,rfl,fun r'=>rfl⟩,⟨_,_,rfl,fun r'=>rfl⟩,fun r'=>⟨rfl,rfl,rfl⟩⟩
theorem FW.mat(r:List Wrd):FW (sg [91]::r):=⟨⟨_,_,rfl,fun r'=>rfl⟩,⟨_,_,rfl,fun r'=>rfl⟩,fun r'=>⟨rfl,rfl,rfl⟩⟩
theorem FW.lst(r:List Wrd):FW (sg [123]::r):=⟨⟨_,_,rfl,fun r'=>rfl⟩,⟨_,_,rfl,fun r'=>rfl⟩,fun r'=>⟨rfl,rfl,rfl⟩⟩
theorem FW.zero(r:List Wrd):FW ((2,lT)::sg [40]::r):=⟨⟨_,_,rfl,fun r'=>rfl⟩,⟨_,_,rfl,fun r'=>rfl⟩,fun r'=>⟨rfl,rfl,rfl⟩⟩
theorem FW.poly(r:List Wrd):FW ((2,jY)::sg [40]::r):=⟨⟨_,_,rfl,fun r'=>rfl⟩,⟨_,_,rfl,fun r'=>rfl⟩,fun r'=>⟨rfl,rfl,rfl⟩⟩
theorem FW.mod(r:List Wrd):FW ((2,iL)::sg [40]::r):=⟨⟨_,_,rfl,fun r'=>rfl⟩,⟨_,_,rfl,fun r'=>rfl⟩,fun r'=>⟨rfl,rfl,rfl⟩⟩
theorem FW.z(z:Int)(r:List Wrd):FW (zWd z++r):=by
 unfold zWd
 split
 ·exact FW.min _
 ·exact FW.num _ _
def OP(m:Nd):Prop:=m.op≤8∨13≤m.op
theorem op_z(z:Int):OP (zNd z):=by
 unfold zNd
 split
 ·exact .inl (show (3:Int)≤8 by decide)
 ·exact .inl (show (1:Int)≤8 by decide)
structure RD(B:Nat)(s:List UInt8)(v:Vl)(c d:Nat):Prop where
 h:∃(ws:List Wrd) (m:Nd) (k:Nat),LV s ws∧PW ws m∧FW ws∧dep m≤d∧k≤c*s.length∧(∀nm,EX B nm m k v)∧OP m
theorem qV(t:List UInt8):dep (nmN t)=0:=by rw[aa4];rfl
theorem anY(z:Int):dep (zNd z)≤1:=by
 unfold zNd
 split
 ·rw[aa4];show (if([nmN (aH z.natAbs)]:List Nd).isEmpty then 0 else 1+kK [nmN (aH z.natAbs)])≤1
  rw[kC,lG,qV];exact Nat.le_refl 1
 ·rw[qV];omega
theorem rA{d:Nat}:∀{ks:List Nd},(∀k∈ks,dep k≤d)→kK ks≤d
 |[],_=>by rw[lG];omega
 |k::ks,h=>by
  rw[kC];have h1:=h k (by simp)
  have h2:=rA (ks:=ks) fun x hx=>h x (by simp[hx])
  omega
theorem kD{o:Int}{t:List UInt8}{ks:List Nd}{d:Nat}(h:∀k∈ks,dep k≤d):dep (.mk o t ks)≤d+1:=by
 rw[aa4];show (if ks.isEmpty then 0 else 1+kK ks)≤d+1
 have:=rA h
 split <;> omega
attribute [local irreducible] bS bV bX dx bW qv redS mf PrP qOk zOk vP dL lz vF cq rqv fC dn dI pScale mulV jn sq aH qS zS tS tbS plS mdS zmd eU iR nmC qB
section
variable{B K:Nat}(hB:64000≤B)(hB0:B≤1000000000)(h1:1≤K)(hK:K≤90)
include hB hB0 h1 hK
theorem RD.int{z:Int}(hz:z.natAbs < WB ^ K):RD B (zS z) (vI z) 3 1:=by
 obtain⟨k,hk,hE⟩:=alV hB hB0 h1 hK hz;have hd:=iZ hz;have hw:=FW.z z [];rw[List.append_nil]at hw;exact⟨zWd z,zNd z,k,LV.zS (by omega),PW.z z,hw,anY z,hk,hE,op_z z⟩
theorem RD.q{x:Rat}(hx:RB x K):RD B (qS x) (eF x) 4 2:=by
 obtain⟨kz,hkz,hEz⟩:=alV hB hB0 h1 hK hx.n;obtain⟨kd,hkd,hEd⟩:=uS hB hB0 h1 hK hx.d;have hdn:=iZ hx.n;have hdd:=iZ hx.d;obtain⟨s,hs,hv⟩:=VI.num hB h1 hK hx;have hself:=kW x;unfold qv at hself;by_cases h:x.den=1
 ·have e:qS x=zS x.num:=by rw[qa9,if_pos h]
  have e2:((x.num:Int):Rat)=x:=by rw[h]at hself;rw[←hself];grind
  have hw:=FW.z x.num [];rw[List.append_nil]at hw;refine⟨zWd x.num,zNd x.num,kz,by rw[e];exact LV.zS (by omega),PW.z _,hw,by have:=anY x.num;omega,by rw[e];omega,fun nm=>?_,op_z _⟩
  have:=hEz nm
  rwa [show vI x.num=eF x from congrArg eF e2]at this
 ·have e:qS x=zS x.num++47::aH x.den:=by rw[qa9,if_neg h,og]
  have hd0:((x.den:Int):Rat)≠0:=c0 (uU x);have hbn:=RB.ofI hx.n h1;have hbd:RB ((x.den:Int):Rat) K:=RB.ofI (z:=(x.den:Int)) hx.d h1;have cQ:=alm hbn hbd (by omega) hd0
  rw[hself]at cQ;have cB:=an7 (rZ hx.n h1 (by omega)) (rZ (z:=(x.den:Int)) hx.d h1 (by omega)) cQ
  have hlen:(qS x).length=(zS x.num).length+1+(aH x.den).length:=by rw[e,List.length_append,List.length_cons];omega
  refine⟨zWd x.num++sg [47]::[(1,aH x.den)],.mk 7 [] [zNd x.num,nmN (aH x.den)],s+(kz+kd)+1,?_,PW.frac _ _,FW.z _ _,?_,by omega,fun nm=>?_,.inl (show (7:Int)≤8 by decide)⟩
  ·rw[e];exact LV.mid (LV.zS (by omega)) eD.2.1 (LV.num (lq (by omega)))
  ·refine kD (d:=1) fun k hk=>?_
   rcases List.mem_cons.1 hk with rfl|hk
   ·exact anY _
   ·rw[List.mem_singleton]at hk;subst hk;rw[qV];omega
  ·exact EX.opr hB0 (n:= .mk 7 [] [zNd x.num,nmN (aH x.den)]) ⟨fun h=>by have h':(7:Int)=1:=h;omega,fun h=>by have h':(7:Int)=2:=h;omega,fun h=>by have h':(7:Int)=14:=h;omega⟩ (AL.two (hEz nm) (hEd nm)) (ahy (n:= .mk 7 [] [zNd x.num,nmN (aH x.den)]) ⟨show (4:Int)≤7 by decide,show (7:Int)≤12 by decide⟩ cB) hv
end
end
section
instance:Inhabited (WN×Nat):=⟨(([],nmN []),0)⟩
structure RG(B:Nat)(s:List UInt8)(v:Vl)(c d:Nat)(g:WN×Nat):Prop where
 lv:LV s g.1.1
 pw:PW g.1.1 g.1.2
 fw:FW g.1.1
 dp:dep g.1.2≤d
 k:g.2≤c*s.length
 ex:∀nm,EX B nm g.1.2 g.2 v
 op:OP g.1.2
theorem RD.g{B:Nat}{s:List UInt8}{v:Vl}{c d:Nat}(h:RD B s v c d):∃g,RG B s v c d g:=by
 obtain⟨ws,m,k,h1,h2,h3,h4,h5,h6,h7⟩:=h.h;exact⟨((ws,m),k),h1,h2,h3,h4,h5,h6,h7⟩
section
variable{α:Type}{B c d:Nat}{l:List α}{s:α→List UInt8}{v:α→Vl}{g:α→WN×Nat}(h:∀x∈l,RG B (s x) (v x) c d (g x))
include h
theorem RG.al(nm:Nms)(hl:l.length≤100000):AL B nm (l.map fun x=>(g x).1.2) ((l.map fun x=>(g x).2).sum) (l.map v):=by
 refine amb B nm _ _ _ (by rw[List.length_map,List.length_map]) (by rw[List.length_map,List.length_map]) (by rw[List.length_map];exact hl) fun i n k w h1 h2 h3=>?_
 rw[List.getElem?_map]at h1 h2 h3
 cases hx:l[i]? with
 |none=>rw[hx]at h1;cases h1
 |some x=>
  rw[hx]at h1 h2 h3;cases h1;cases h2;cases h3;exact(h x (List.mem_of_getElem? hx)).ex nm
theorem RG.sum:(l.map fun x=>(g x).2).sum≤c*(l.map fun x=>(s x).length).sum:=by
 induction l with
 |nil=>exact Nat.zero_le _
 |cons x l ih=>
  rw[List.map_cons,List.map_cons,List.sum_cons,List.sum_cons,Nat.mul_add];have h1:=(h x List.mem_cons_self).k;have h2:=ih fun y hy=>h y (List.mem_cons_of_mem _ hy)
  omega
theorem RG.jn:LV (jn 44 (l.map s)) (jW (l.map fun x=>(g x).1)):=by
 have:=LV.jn eD.2.2.1 (l.map fun x=>(s x,(g x).1.1)) (fun y hy=>by
  obtain⟨x,hx,rfl⟩:=List.mem_map.1 hy;exact(h x hx).lv)
 rw[List.map_map,List.map_map]at this;show LV _ (aau _ ((l.map fun x=>(g x).1).map (·.1)))
 rw[List.map_map];exact this
end
theorem apr:tx 2 jY=true:=by
 have h:=oO.2.1;have h2:ownB jY=false:=by rfl
 unfold tx iF;rw[h2];simp[h]
theorem aq6:tx 2 lT=true:=by
 have h:=oO.1;have h2:ownB lT=false:=by rfl
 unfold tx iF;rw[h2];simp[h]
theorem as4:tx 2 iL=true:=by
 have h:=oO.2.2;have h2:ownB iL=false:=by rfl
 unfold tx iF;rw[h2];simp[h]
theorem agf{α β:Type}(f:α→β)(c:Nat):∀(r:Nat) (l:List α),chk c r (l.map f)=(chk c r l).map (List.map f)
 |0,_=>rfl
 |r+1,l=>by
  show (l.map f).take c::chk c r ((l.map f).drop c)=(l.take c).map f::(chk c r (l.drop c)).map (List.map f);rw[←List.map_take,←List.map_drop,agf f c r]
theorem nu{α:Type}(c:Nat):∀(r:Nat) (l:List α),(chk c r l).length=r
 |0,_=>rfl
 |r+1,l=>by
  show (l.take c::chk c r (l.drop c)).length=_;rw[List.length_cons,nu c r]
theorem acQ{α:Type}{c:Nat}:∀{r i:Nat} {l:List α},i < r→(chk c r l)[i]? =some ((l.drop (i*c)).take c)
 |0,i,l,h=>absurd h (Nat.not_lt_zero _)
 |r+1,0,l,h=>by
  show (l.take c::chk c r (l.drop c))[0]? =_;rw[Nat.zero_mul];rfl
 |r+1,i+1,l,h=>by
  show (l.take c::chk c r (l.drop c))[i+1]? =_;rw[List.getElem?_cons_succ,acQ (by omega),List.drop_drop]
  congr 3
  rw[Nat.succ_mul];omega
theorem af4{α:Type}{c:Nat}:∀{r:Nat} {l row:List α} {x:α},row∈chk c r l→x∈row→x∈l
 |0,l,row,x,h,_=>by cases h
 |r+1,l,row,x,h,hx=>by
  rcases List.mem_cons.1 h with rfl|h
  ·exact List.mem_of_mem_take hx
  ·exact List.mem_of_mem_drop (af4 h hx)
theorem apQ{α:Type}{c r:Nat}{l row:List α}(hl:l.length=r*c)(h:row∈chk c r l):row.length=c:=by
 obtain⟨i,hi⟩:=List.mem_iff_getElem?.1 h;have hir:i < r:=by have:=jZ hi;rwa [nu]at this
 rw[acQ hir]at hi;cases hi;rw[List.length_take,List.length_drop];have:=Nat.mul_le_mul_right c (show i+1≤r by omega)
 rw[Nat.succ_mul]at this;omega
attribute [local irreducible] bS bV bX dx bW qv redS mf PrP qOk zOk vP dL lz vF cq rqv fC dn dI pScale mulV sq aH qS zS tS mdS zmd eU iR nmC qB
section
variable{B K:Nat}(hB:64000≤B)(hB0:B≤1000000000)(h1:1≤K)(hK:K≤90)
include hB hB0 h1 hK
theorem RD.pol{zs:List Int}(hz:∀z∈zs,z.natAbs < WB ^ K)(hl:zs.length≤10000)(hn:pN zs)(ht:(plS (zs.map zS)).length≤100000):RD B (plS (zs.map zS)) (iW zs) 5 2:=by
 obtain⟨g,hg⟩:=uZ (P:=fun z gz=>RG B (zS z) (vI z) 3 1 gz) (l:=zs) (fun z hz'=>(RD.int hB hB0 h1 hK (hz z hz')).g)
 obtain⟨s,hs,hv⟩:=VI.of (B:=B) (Cv.one (n:=0) (.pol zs hl hn hz)) (by omega) (by omega) (by rw[uT];exact ht) hB
 rw[uT]at hs;have hsum:=RG.sum hg;have hlen:(plS (zs.map zS)).length=6+(jn 44 (zs.map zS)).length:=by
  unfold plS;rw[List.length_append,List.length_append];have e1:([112,111,108,121,40]:List UInt8).length=5:=rfl;have e2:([41]:List UInt8).length=1:=rfl;omega
 have hj:=ug 44 (zs.map zS);rw[List.map_map]at hj;have hj2:(zs.map (List.length ∘ zS)).sum=(zs.map fun z=>(zS z).length).sum:=rfl
 refine⟨(2,jY)::sg [40]::(jW (zs.map fun z=>(g z).1)++[sg [41]]),.mk 13 jY (kN (zs.map fun z=>(g z).1)),s+(zs.map fun z=>(g z).2).sum+1,?_,?_,FW.poly _,?_,by omega,fun nm=>?_,.inr (show (13:Int)≤13 by decide)⟩
 ·unfold plS;exact LV.nam (w:=jY) oO.2.1 eD.2.2.2.2.2.2.1 (LV.end (RG.jn hg) eD.2.2.2.2.2.2.2.1)
 ·refine PW.call apr fun k hk=>?_
  obtain⟨z,hz',rfl⟩:=List.mem_map.1 hk;exact⟨(hg z hz').pw,(hg z hz').fw.1⟩
 ·refine kD (d:=1) fun k hk=>?_
  obtain⟨w,hw,rfl⟩:=List.mem_map.1 hk;obtain⟨z,hz',rfl⟩:=List.mem_map.1 hw;exact(hg z hz').dp
 ·have hA:=RG.al hg nm (by omega)
  have e:kN (zs.map fun z=>(g z).1)=zs.map fun z=>(g z).1.2:=List.map_map ..
  rw[e];exact EX.opr hB0 (n:= .mk 13 jY (zs.map fun z=>(g z).1.2)) ⟨fun h=>by have h':(13:Int)=1:=h;omega,fun h=>by have h':(13:Int)=2:=h;omega,fun h=>by have h':(13:Int)=14:=h;omega⟩ hA (adq (n:= .mk 13 jY (zs.map fun z=>(g z).1.2)) rfl (ab8 hz h1 (by omega) hl hn)) hv
end
end
section
theorem RD.mono{B:Nat}{s:List UInt8}{v:Vl}{c d c' d':Nat}(h:RD B s v c d)(hc:c≤c')(hd:d≤d'):RD B s v c' d':=by
 obtain⟨ws,m,k,h1,h2,h3,h4,h5,h6,h7⟩:=h.h;exact⟨ws,m,k,h1,h2,h3,by omega,Nat.le_trans h5 (Nat.mul_le_mul_right _ hc),h6,h7⟩
theorem aq2{α:Type}{c:Nat}{f:α→Nat}(l:List α):(l.map fun x=>c*f x).sum=c*(l.map f).sum:=by
 induction l with
 |nil=>rfl
 |cons x l ih=>rw[List.map_cons,List.map_cons,List.sum_cons,List.sum_cons,ih,Nat.mul_add]
attribute [local irreducible] bS bV bX dx bW qv redS mf PrP qOk zOk vP dL lz vF cq rqv fC dn dI pScale mulV sq aH qS zS tS zmd eU iR nmC qB
section
variable{B K:Nat}(hB:64000≤B)(hB0:B≤1000000000)(h1:1≤K)(hK:K≤90)
include hB hB0 h1 hK
theorem RD.zero{r c:Nat}(hr:r≤64)(hc:c≤64)(h0:r=0∨c=0):RD B (tbS r c []) (gP r c []) 6 4:=by
 have hw:64 < WB ^ K:=by
  have:=Nat.pow_le_pow_right aY h1;rw[Nat.pow_one]at this;have e:=aX;omega
 have hr':r < WB ^ K:=by omega
 have hc':c < WB ^ K:=by omega
 obtain⟨kr,hkr,hEr⟩:=uS hB hB0 h1 hK hr';obtain⟨kc,hkc,hEc⟩:=uS hB hB0 h1 hK hc';have dr:=iZ hr';have dc:=iZ hc';have hrc:r*c=0:=by rcases h0 with rfl|rfl <;> simp
 have e0:tbS r c []=[122,101,114,111,40]++(aH r++([44,32]++(aH c++[41]))):=by unfold tbS;rw[if_pos h0]
 have hlen:(tbS r c []).length=8+(aH r).length+(aH c).length:=by
  rw[e0,List.length_append,List.length_append,List.length_append,List.length_append];have a1:([122,101,114,111,40]:List UInt8).length=5:=rfl;have a2:([44,32]:List UInt8).length=2:=rfl;have a3:([41]:List UInt8).length=1:=rfl;omega
 obtain⟨s,hs,hv⟩:=VI.of (B:=B) (Cv.one (n:=0) (.mat r c [] (by rw[hrc];rfl) hr hc (fun v h=>by cases h):Sh K _)) (by omega) (by omega) (by rw[oh];show (tbS r c []).length≤_;omega) hB
 rw[oh]at hs;have hs':s≤(tbS r c []).length:=hs;have ez:lH c (fun _ _=>0) r=[]:=List.length_eq_zero_iff.1 (by rw[vD];exact hrc)
 have cC:=ab9 hr hc;rw[ez]at cC;refine⟨(2,lT)::sg [40]::(jW [([(1,aH r)],nmN (aH r)),([(1,aH c)],nmN (aH c))]++[sg [41]]),.mk 13 lT [nmN (aH r),nmN (aH c)],s+(kr+kc)+1,?_,?_,FW.zero _,?_,by omega,fun nm=>?_,.inr (show (13:Int)≤13 by decide)⟩
 ·rw[e0];exact LV.nam (w:=lT) oO.1 eD.2.2.2.2.2.2.1 (LV.midB (LV.num (lq (by omega))) eD.2.2.1 (LV.end (LV.num (lq (by omega))) eD.2.2.2.2.2.2.2.1))
 ·refine PW.call aq6 (ks:=[([(1,aH r)],nmN (aH r)),([(1,aH c)],nmN (aH c))]) fun k hk=>?_
  rcases List.mem_cons.1 hk with rfl|hk
  ·exact⟨PW.num _,(FW.num _ _).1⟩
  ·rw[List.mem_singleton]at hk;subst hk;exact⟨PW.num _,(FW.num _ _).1⟩
 ·refine Nat.le_trans (kD (d:=0) fun k hk=>?_) (by decide)
  rcases List.mem_cons.1 hk with rfl|hk
  ·rw[qV];exact Nat.le_refl 0
  ·rw[List.mem_singleton]at hk;subst hk;rw[qV];exact Nat.le_refl 0
 ·exact EX.opr hB0 (n:= .mk 13 lT [nmN (aH r),nmN (aH c)]) ⟨fun h=>by have h':(13:Int)=1:=h;omega,fun h=>by have h':(13:Int)=2:=h;omega,fun h=>by have h':(13:Int)=14:=h;omega⟩ (AL.two (hEr nm) (hEc nm)) (adq (n:= .mk 13 lT [nmN (aH r),nmN (aH c)]) rfl cC) hv
theorem RD.mat{r c:Nat}{vs:List Rat}(hvl:vs.length=r*c)(hr:r≤64)(hc:c≤64)(h:∀v∈vs,RB v K)(ht:(tbS r c (vs.map qS)).length≤100000):RD B (tbS r c (vs.map qS)) (gP r c vs) 6 4:=by
 by_cases h0:r=0∨c=0
 ·have hrc:r*c=0:=by rcases h0 with rfl|rfl <;> simp
  obtain rfl:vs=[]:=List.length_eq_zero_iff.1 (by omega)
  exact RD.zero hB hB0 h1 hK hr hc h0
 ·obtain⟨g,hg⟩:=uZ (P:=fun x gx=>RG B (qS x) (eF x) 4 2 gx) (l:=vs) (fun x hx=>(RD.q hB hB0 h1 hK (h x hx)).g)
  have hr1:1≤r:=by omega
  have hc1:1≤c:=by omega
  obtain⟨s,hs,hv⟩:=VI.of (B:=B) (Cv.one (n:=0) (.mat r c vs hvl hr hc h)) (by omega) (by omega) (by rw[oh];exact ht) hB
  rw[oh]at hs;have erows:(chk c r (vs.map qS)).map (jn 44)=(chk c r vs).map fun row=>jn 44 (row.map qS):=by rw[agf,List.map_map];rfl
  have e0:tbS r c (vs.map qS)=91::(jn 59 ((chk c r vs).map fun row=>jn 44 (row.map qS))++[93]):=by unfold tbS;rw[if_neg h0,erows]
  generalize hJ:jn 59 ((chk c r vs).map fun row=>jn 44 (row.map qS))=J at e0
  have hlen:(tbS r c (vs.map qS)).length=J.length+2:=by rw[e0,List.length_cons,List.length_append];rfl
  have hJ1:=ug 59 ((chk c r vs).map fun row=>jn 44 (row.map qS))
  rw[hJ,List.map_map]at hJ1;have hgr:∀row∈chk c r vs,∀x∈row,RG B (qS x) (eF x) 4 2 (g x):=fun row hrow x hx=>hg x (af4 hrow hx)
  have hks:((chk c r vs).map fun row=>(row.map fun x=>(g x).2).sum).sum≤4*J.length:=by
   have h2:=oQ (f:=fun row:List Rat=>(row.map fun x=>(g x).2).sum) (g:=fun row=>4*(jn 44 (row.map qS)).length) (l:=chk c r vs) (fun row hrow=>by
    have a1:=RG.sum (hgr row hrow);have a2:=ug 44 (row.map qS);rw[List.map_map]at a2;have a3:(row.map (List.length ∘ qS)).sum=(row.map fun x=>(qS x).length).sum:=rfl
    omega)
   rw[aq2]at h2;have h3:((chk c r vs).map (List.length ∘ fun row=>jn 44 (row.map qS))).sum=((chk c r vs).map fun row=>(jn 44 (row.map qS)).length).sum:=rfl
   omega
  have hrJ:r≤J.length:=by
   have a1:=agv (r:=r) (c:=c) (l:=vs.map qS) (by rw[List.length_map];exact hvl) (afb qS_1)
   rw[erows,List.map_map]at a1;have a2:=Nat.mul_le_mul_left r hc1;omega
  have erow:∀row:List Rat,kN (row.map fun x=>(g x).1)=row.map fun x=>(g x).1.2:=fun row=>List.map_map ..
  have hrne:∀row∈chk c r vs,row.length=c:=fun row hrow=>apQ hvl hrow
  refine⟨sg [91]::(jM ((chk c r vs).map fun row=>row.map fun x=>(g x).1)++[sg [93]]),.mk 14 [] (kM ((chk c r vs).map fun row=>row.map fun x=>(g x).1)),s+(((chk c r vs).map fun row=>(row.map fun x=>(g x).2).sum).sum+(kM ((chk c r vs).map fun row=>row.map fun x=>(g x).1)).length)+1,?_,?_,FW.mat _,?_,?_,fun nm=>?_,.inr (show (13:Int)≤14 by decide)⟩
  ·rw[e0,←hJ];have a1:=LV.jn (c:=59) eD.2.2.2.1 ((chk c r vs).map fun row=>(jn 44 (row.map qS),jW (row.map fun x=>(g x).1))) (fun y hy=>by
    obtain⟨row,hrow,rfl⟩:=List.mem_map.1 hy;exact RG.jn (hgr row hrow))
   rw[List.map_map,List.map_map]at a1;have a2:jM ((chk c r vs).map fun row=>row.map fun x=>(g x).1)=aau (sg [59]) ((chk c r vs).map (Prod.snd ∘ fun row=>(jn 44 (row.map qS),jW (row.map fun x=>(g x).1)))):=by
    show aau _ _=_;rw[List.map_map];rfl
   rw[a2];exact LV.sg eD.2.2.2.2.1 (LV.end a1 eD.2.2.2.2.2.1)
  ·refine PW.mat (fun e=>?_) (fun x hx=>?_) (fun x hx k hk=>?_)
   ·have:=congrArg List.length e;rw[List.length_map,nu,List.length_nil]at this;omega
   ·obtain⟨row,hrow,rfl⟩:=List.mem_map.1 hx;intro e;have:=congrArg List.length e;rw[List.length_map,hrne row hrow,List.length_nil]at this;omega
   ·obtain⟨row,hrow,rfl⟩:=List.mem_map.1 hx;obtain⟨y,hy,rfl⟩:=List.mem_map.1 hk;exact(hgr row hrow y hy).pw
  ·refine kD (d:=3) fun n hn=>?_
   obtain⟨x,hx,rfl⟩:=List.mem_map.1 hn;obtain⟨row,hrow,rfl⟩:=List.mem_map.1 hx;refine kD (d:=2) fun k hk=>?_
   rw[erow]at hk;obtain⟨y,hy,rfl⟩:=List.mem_map.1 hk;exact(hgr row hrow y hy).dp
  ·rw[List.length_map,List.length_map,nu];omega
  ·have cM:=abG (L:=(chk c r vs).map fun row=>row.map eF) (r:=r) (c:=c) (K:=K) (vs:=vs) (by rw[List.length_map,nu]) (fun i R hR=>by
    rw[List.getElem?_map]at hR
    have hir:i < r:=by
     cases hx:(chk c r vs)[i]? with
     |none=>rw[hx]at hR;cases hR
     |some y=>have:=jZ hx;rwa [nu]at this
    rw[acQ hir]at hR;have hR':=Option.some.inj hR;subst hR';have hlt:=Nat.mul_le_mul_right c (show i+1≤r by omega)
    rw[Nat.succ_mul]at hlt;refine⟨by rw[List.length_map,List.length_take,List.length_drop];omega,fun k hk=>⟨vs[i*c+k]'(by omega),List.getElem?_eq_getElem _,?_⟩⟩
    rw[List.getElem?_map,List.getElem?_take_of_lt hk,List.getElem?_drop,List.getElem?_eq_getElem (by omega)];rfl) hvl hr1 hr hc h (by omega)
   refine EX.mat hB0 (n:= .mk 14 [] (kM ((chk c r vs).map fun row=>row.map fun x=>(g x).1))) rfl (fun F u la tx hF=>?_) hv
   refine asE _ ((chk c r vs).map fun row=>(row.map fun x=>(g x).2).sum) _ (by show ((chk c r vs).map _).length=(kM _).length;rw[List.length_map,List.length_map,List.length_map]) (by show _=(kM _).length;rw[List.length_map,List.length_map,List.length_map]) (by show (kM _).length≤_;rw[List.length_map,List.length_map,nu];omega) (fun i n k ws hn hk hw=>?_) cM F u la tx hF
   have hn':(kM ((chk c r vs).map fun row=>row.map fun x=>(g x).1))[i]? =some n:=hn
   rw[List.getElem?_map,List.getElem?_map]at hn'
   rw[List.getElem?_map]at hk hw
   cases hx:(chk c r vs)[i]? with
   |none=>rw[hx]at hk;cases hk
   |some row=>
    rw[hx]at hn' hk hw;cases hn';cases hk;cases hw;have hrow:=List.mem_of_getElem? hx;show AL B nm (kN (row.map fun x=>(g x).1)) _ _
    rw[erow];exact RG.al (hgr row hrow) nm (by rw[hrne row hrow];omega)
end
end
end
section
attribute [local irreducible] bS bV bX dx bW qv redS mf PrP qOk zOk vP dL lz vF cq rqv fC dn dI pScale mulV sq aH qS zS tS zmd eU iR nmC qB
section
variable{B K:Nat}(hB:64000≤B)(hB0:B≤1000000000)(h1:1≤K)(hK:K≤90)
include hB hB0 h1 hK
theorem RD.mod{s:List UInt8}{v w:Vl}{p z:Nat}(hp:PrP p)(h:RD B s v 6 4)(cC:PureOK Tryz.prog 214 [.v (str iL),.r (ay 15 vlE [v,vI p])] (.tup [.agg (vlA w),eNo 0]))(hz:z≤(mdS s p).length)(hv:VI B z w):RD B (mdS s p) w 7 5:=by
 have hpl:=hp.lt;have hpW:p < WB ^ K:=by
  have:=Nat.pow_le_pow_right aY h1;rw[Nat.pow_one]at this;have e:=aX;omega
 obtain⟨g,hg⟩:=h.g;obtain⟨kp,hkp,hEp⟩:=uS hB hB0 h1 hK hpW;have dp:=iZ hpW;have e0:mdS s p=[109,111,100,40]++(s++([44,32]++(aH p++[41]))):=rfl;have hlen:(mdS s p).length=7+s.length+(aH p).length:=by
  rw[e0,List.length_append,List.length_append,List.length_append,List.length_append];have a1:([109,111,100,40]:List UInt8).length=4:=rfl;have a2:([44,32]:List UInt8).length=2:=rfl;have a3:([41]:List UInt8).length=1:=rfl;omega
 have hgk:=hg.k;refine⟨(2,iL)::sg [40]::(jW [g.1,([(1,aH p)],nmN (aH p))]++[sg [41]]),.mk 13 iL [g.1.2,nmN (aH p)],z+(g.2+kp)+1,?_,?_,FW.mod _,?_,by omega,fun nm=>?_,.inr (show (13:Int)≤13 by decide)⟩
 ·rw[e0];have a1:=LV.nam (w:=iL) oO.2.2 eD.2.2.2.2.2.2.1 (LV.midB hg.lv eD.2.2.1 (LV.end (LV.num (lq (x:=p) (by omega))) eD.2.2.2.2.2.2.2.1))
  have a2:jW [g.1,([(1,aH p)],nmN (aH p))]++[sg [41]]=g.1.1++sg [44]::([(1,aH p)]++[sg [41]]):=by
   show (g.1.1++sg [44]::[(1,aH p)])++[sg [41]]=_;rw[List.append_assoc];rfl
  rw[a2];exact a1
 ·refine PW.call as4 (ks:=[g.1,([(1,aH p)],nmN (aH p))]) fun k hk=>?_
  rcases List.mem_cons.1 hk with rfl|hk
  ·exact⟨hg.pw,hg.fw.1⟩
  ·rw[List.mem_singleton]at hk;subst hk;exact⟨PW.num _,(FW.num _ _).1⟩
 ·refine kD (d:=4) fun k hk=>?_
  rcases List.mem_cons.1 hk with rfl|hk
  ·exact hg.dp
  ·rw[List.mem_singleton]at hk;subst hk;rw[qV];omega
 ·exact EX.opr hB0 (n:= .mk 13 iL [g.1.2,nmN (aH p)]) ⟨fun h=>by have h':(13:Int)=1:=h;omega,fun h=>by have h':(13:Int)=2:=h;omega,fun h=>by have h':(13:Int)=14:=h;omega⟩ (AL.two (hg.ex nm) (hEp nm)) (adq (n:= .mk 13 iL [g.1.2,nmN (aH p)]) rfl cC) hv
theorem RD.fld{p r c:Nat}{l:List Nat}(hp:PrP p)(hl:l.length=r*c)(hr:r≤64)(hc:c≤64)(h:∀x∈l,x < p)(ht:(mdS (tbS r c (l.map aH)) p).length≤100000):RD B (mdS (tbS r c (l.map aH)) p) (lI p r c l) 7 5:=by
 have hpl:=hp.lt;have hb:∀v∈(l.map fun x:Nat=>(x:Int)).map fun z:Int=>(z:Rat),RB v K:=fun v hv=>by
  obtain⟨z,hz,rfl⟩:=List.mem_map.1 hv;obtain⟨x,hx,rfl⟩:=List.mem_map.1 hz;have hx':=h x hx;refine RB.ofI (z:=(x:Int)) ?_ h1;have:=Nat.pow_le_pow_right aY h1;rw[Nat.pow_one]at this;have e:=aX;show x < _;omega
 have et:((l.map fun x:Nat=>(x:Int)).map fun z:Int=>(z:Rat)).map qS=l.map aH:=by
  rw[List.map_map,List.map_map];refine List.map_congr_left fun x hx=>?_
  show qS ((x:Int):Rat)=aH x;rw[qa9,if_pos (Rat.den_intCast _),Rat.num_intCast,og]
 have hg:=acV (tbS r c (l.map aH)) p;have hM:=RD.mat hB hB0 h1 hK (r:=r) (c:=c) (vs:=(l.map fun x:Nat=>(x:Int)).map fun z:Int=>(z:Rat)) (by rw[List.length_map,List.length_map];exact hl) hr hc hb (by rw[et];omega)
 rw[et]at hM;obtain⟨s,hs,hv⟩:=VI.of (B:=B) (K:=K) (Cv.one (n:=0) (.fld p r c l hp hl hr hc h)) (by omega) (by omega) (by rw[uy];exact ht) hB
 rw[uy]at hs;exact RD.mod hB hB0 h1 hK hp hM (adE hp hl hr hc h) hs hv
theorem RD.rng{p:Nat}{l:List Nat}(hp:PrP p)(hl:l.length≤10000)(hn:wN l)(h:∀x∈l,x < p)(ht:(mdS (plS (l.map aH)) p).length≤100000):RD B (mdS (plS (l.map aH)) p) (lN p l) 7 5:=by
 have hpl:=hp.lt;have hb:∀z∈l.map fun x:Nat=>(x:Int),z.natAbs < WB ^ K:=fun z hz=>by
  obtain⟨x,hx,rfl⟩:=List.mem_map.1 hz;have hx':=h x hx;have:=Nat.pow_le_pow_right aY h1;rw[Nat.pow_one]at this;have e:=aX;show x < _;omega
 have et:(l.map fun x:Nat=>(x:Int)).map zS=l.map aH:=by
  rw[List.map_map];refine List.map_congr_left fun x hx=>?_
  exact og x
 have hg:=acV (plS (l.map aH)) p;have hM:=RD.pol hB hB0 h1 hK (zs:=l.map fun x:Nat=>(x:Int)) hb (by rw[List.length_map];exact hl) (arv hn) (by rw[et];omega)
 rw[et]at hM;obtain⟨s,hs,hv⟩:=VI.of (B:=B) (K:=K) (Cv.one (n:=0) (.rng p l hp hl hn h)) (by omega) (by omega) (by rw[u7];exact ht) hB
 rw[u7]at hs;exact RD.mod hB hB0 h1 hK hp (hM.mono (by decide) (by decide)) (abA hp hl hn h) hs hv
theorem RD.of{n:Nat}{v:Vl}(h:Cv K n v):n≤15→(tS v).length≤100000→RD B (tS v) v (7+n) (5+n):=by
 induction h with
 | @one n v h=>
  intro hn hl;cases h with
  |num x h=>rw[uL];exact(RD.q hB hB0 h1 hK h).mono (by omega) (by omega)
  |mat r c vs hvl hr hc h=>rw[oh]at hl ⊢;exact(RD.mat hB hB0 h1 hK hvl hr hc h hl).mono (by omega) (by omega)
  |pol zs hzl hpn h=>rw[uT]at hl ⊢;exact(RD.pol hB hB0 h1 hK h hzl hpn hl).mono (by omega) (by omega)
  |fld p r c l hp hll hr hc h=>rw[uy]at hl ⊢;exact(RD.fld hB hB0 h1 hK hp hll hr hc h hl).mono (by omega) (by omega)
  |rng p l hp hll hwn h=>rw[u7]at hl ⊢;exact(RD.rng hB hB0 h1 hK hp hll hwn h hl).mono (by omega) (by omega)
 | @lst n l hll h ih=>
  intro hn hl;obtain⟨g,hg⟩:=uZ (P:=fun x gx=>RG B (tS x) x (7+n) (5+n) gx) (l:=l) (fun x hx=>by
   have hm:=alx hx;exact(ih x hx (by omega) (by omega)).g)
  obtain⟨s,hs,hv⟩:=VI.of (B:=B) (Cv.lst l hll h) (by omega) (by omega) hl hB
  have hlen:(tS (kG l)).length=2+(jn 44 (l.map tS)).length:=by
   rw[rM,List.length_cons,List.length_append];have e2:([125]:List UInt8).length=1:=rfl;omega
  have hsum:=RG.sum hg;have hj:=ug 44 (l.map tS);rw[List.map_map]at hj;have hj2:(l.map (List.length ∘ tS)).sum=(l.map fun x=>(tS x).length).sum:=rfl
  have hk1:(7+n)*(l.map fun x=>(tS x).length).sum≤(7+n)*(jn 44 (l.map tS)).length:=Nat.mul_le_mul_left _ (by omega)
  have hk2:(7+(n+1))*(tS (kG l)).length=(7+n)*(jn 44 (l.map tS)).length+(7+n)*2+(tS (kG l)).length:=by
   rw[hlen,←Nat.add_assoc,Nat.add_mul (7+n) 1,Nat.mul_add];omega
  refine⟨sg [123]::(jW (l.map fun x=>(g x).1)++[sg [125]]),.mk 16 [] (kN (l.map fun x=>(g x).1)),s+(l.map fun x=>(g x).2).sum+1,?_,?_,FW.lst _,?_,by omega,fun nm=>?_,.inr (show (13:Int)≤16 by decide)⟩
  ·rw[rM];exact LV.sg eD.2.2.2.2.2.2.2.2.1 (LV.end (RG.jn hg) eD.2.2.2.2.2.2.2.2.2)
  ·refine PW.lst fun k hk=>?_
   obtain⟨x,hx,rfl⟩:=List.mem_map.1 hk;exact⟨(hg x hx).pw,(hg x hx).fw.2.1⟩
  ·refine kD (d:=5+n) fun k hk=>?_
   obtain⟨w,hw,rfl⟩:=List.mem_map.1 hk;obtain⟨x,hx,rfl⟩:=List.mem_map.1 hw;exact(hg x hx).dp
  ·have hA:=RG.al hg nm (by omega)
   rw[List.map_id']at hA;have e:kN (l.map fun x=>(g x).1)=l.map fun x=>(g x).1.2:=List.map_map ..
   rw[e];exact EX.opr hB0 (n:= .mk 16 [] (l.map fun x=>(g x).1.2)) ⟨fun h=>by have h':(16:Int)=1:=h;omega,fun h=>by have h':(16:Int)=2:=h;omega,fun h=>by have h':(16:Int)=14:=h;omega⟩ hA (apL (n:= .mk 16 [] (l.map fun x=>(g x).1.2)) rfl l) hv
end
end
end Go.Proofs.YtmgfiodmdfaclaaGreatDoor