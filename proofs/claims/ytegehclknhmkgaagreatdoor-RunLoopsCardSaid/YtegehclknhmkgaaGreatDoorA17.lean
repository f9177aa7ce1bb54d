import Derived.Test.YtegehclknhmkgaaGreatDoorA16
import Derived.Test.YtegehclknhmkgaaGreatDoorA15
import Derived.Test.YtegehclknhmkgaaGreatDoorA11
import Derived.Test.YtegehclknhmkgaaGreatDoorA10
import Derived.Test.YtegehclknhmkgaaGreatDoorA35
set_option linter.unusedVariables false
set_option linter.unusedSimpArgs false
namespace Go.Proofs.YtegehclknhmkgaaGreatDoor
open Go.RowKit QM SX LA
section
section
theorem vZ0.num{v:Rat}{K:Nat}(h:RB v K)(hK:K≤100000):vZ0 (fq v) where
 q:=⟨agO v,Nat.le_trans (nS h.n) hK,Nat.le_trans (nS (by rw[Int.natAbs_natCast];exact h.d)) hK⟩
 a:=by intro x hx;cases hx
 al:=Nat.zero_le _
 po:=by intro x hx;cases hx
 pol:=Nat.zero_le _
 p:=aU
 fa:=by intro x hx;cases hx
 fal:=Nat.zero_le _
 ri:=by intro x hx;cases hx
 ril:=Nat.zero_le _
 lil:=Nat.zero_le _
theorem vZ.num{v:Rat}{K:Nat}(h:RB v K)(hK:K≤100000):vZ 0 (fq v):=⟨vZ0.num h hK,rfl⟩
theorem aoU(v:Rat):vP (fq v)=0:=(vP0 _).2 ⟨.inl rfl,.inr ⟨rfl,rfl,rfl⟩,.inr rfl,.inr ⟨rfl,rfl,rfl⟩,.inr rfl,.inr (.inr rfl),.inr rfl⟩
theorem aem(d:Nat)(v:Rat):vF d (fq v)=true:=by
 rw[vF_1 (aoU v) rfl];exact(afT (agO v)).2 (by rw[om])
theorem alX(p q:Int):rmk p q=((qv p q).num,((qv p q).den:Int)):=by
 have h2:Nat.Coprime (qv p q).num.natAbs (qv p q).den:=(qv p q).reduced;have hd:=(qv p q).den_nz;have:=Rd.uniq (lX p q) (wS p q) (r:=(qv p q).num) (s:=((qv p q).den:Int)) (by omega) (by unfold Int.gcd;rw[Int.natAbs_natCast];exact h2) (by rw[iH,iT])
 exact Prod.ext this.1 this.2
theorem agq(x:Rat):qv (sgn (cq x).1 (nval WB (cq x).2.1)) (sgn (cq x).2.2.1 (nval WB (cq x).2.2.2))=x:=om x
def qS(v:Rat):List UInt8:=rS (v.num,(v.den:Int))
def qB(v:Rat):Nat:=max (bitLen v.num.natAbs) (bitLen v.den)
attribute [local irreducible] IntKind.wrap Go1 Reg WP aN aQ bM bI aL aC aj ah aT Sat
attribute [local irreducible] dz bU bV dA bT qv dN mf PrP qOk zOk vP dZ lz vF cq rqv
theorem aeX{x0 x1 x2 x3:Atom}{p q:Int}{k m:Nat}[h:ZI [x0,x1] p k][h':ZI [x2,x3] q m](hk:k+m≤1000000):PureOK Tryz.prog 265 [.agg [x0,x1,x2,x3]] (.v (.int .i64 ((max (bitLen (rmk p q).1.natAbs) (bitLen (rmk p q).2.natAbs):Nat):Int))):=by
 refine q1 ⟨_,Tryz.func265,rfl,rfl⟩ fun neg n neg2 n2 hz hz2 hn hn2=>?_
 subst hz;subst hz2;refine PureOK.fnF Tryz.func265 Tryz.results265 Tryz.ntmps265 rfl rfl rfl (by simp[AV.ids,AV0.ids,Atom.ids]) rfl (fun w0 T B E0 hB=>?_)
 refine SX.goM ?_;exact iN rfl
theorem aaY{q:kV}(hk:q.2.1.length+q.2.2.2.length≤1000000):PureOK Tryz.prog 265 [.agg (q4A (rq q))] (.v (.int .i64 (qB (rqv q):Int))):=by
 have h:=aeX (h:=ZI.raw q.1 q.2.1) (h':=ZI.raw q.2.2.1 q.2.2.2) hk;rw[alX]at h
 dsimp only at h
 rw[Int.natAbs_natCast]at h;unfold rqv qB;exact h
theorem zk(v:Rat)(e:Int):PureOK Tryz.prog 266 [.agg (qA v),.v (.bool true),.v (.int .i64 e)] (.tup [.agg (vlA (fq v)),eNo 0]):=by
 refine PureOK.fnF Tryz.func266 Tryz.results266 Tryz.ntmps266 rfl rfl rfl (by simp[AV.ids,AV0.ids,Atom.ids]) rfl (fun w0 T B E0 hB=>?_)
 refine SX.goM ?_;refine .ok (aC.mk2 ((aj.gK rfl rfl rfl).imp ?_) (aj.tmp rfl));exact afY
theorem akD{x y:Rat}{K L:Nat}(hx:RB x K)(hy:RB y L)(hK:K+L≤1000000):PureOK Tryz.prog 259 [.agg (vlA (fq x)),.agg (vlA (fq y))] (.tup [.agg (vlA (fq (x+y))),eNo 0]):=by
 haveI:=Ra.cq hx
 haveI:=Ra.cq hy
 obtain⟨X,cA,hX⟩:=eAdd (q4A (rq (cq x))) (q4A (rq (cq y))) (K:=K) (K':=L) (by omega)
 have e:=hX.nf;subst e;have cN:=zk (x+y) 0;refine PureOK.fnF Tryz.func259 Tryz.results259 Tryz.ntmps259 rfl rfl rfl (by simp[AV.ids,AV0.ids,Atom.ids]) rfl (fun w0 T B E0 hB=>?_)
 refine SX.goM ?_;exact .ok (aC.mk2 (aj.gK rfl rfl rfl) (aj.tmp rfl))
theorem aiE{x y:Rat}{K L:Nat}(hx:RB x K)(hy:RB y L)(hK:K+L≤100000):PureOK Tryz.prog 231 [.v (.int .i64 4),.agg (vlA (fq x)),.agg (vlA (fq y))] (.tup [.agg (vlA (fq (x+y))),eNo 0]):=by
 have c:=akD hx hy (by omega)
 have c1:=mg (vZ.num hx (by omega))
 have c2:=mg (vZ.num hy (by omega))
 rw[aem]at c1 c2;refine PureOK.fnF Tryz.func231 Tryz.results231 Tryz.ntmps231 rfl rfl rfl (by simp[AV.ids,AV0.ids,Atom.ids]) rfl (fun w0 T B E0 hB=>?_)
 refine SX.goM ?_;exact .ok (aC.mk2 (aj.gK rfl rfl rfl) (aj.tmp rfl))
theorem an3{x:Rat}{K:Nat}(hx:RB x K)(hK:K≤100000):PureOK Tryz.prog 53 [.agg (q4A (rq (cq x)))] (.v (str (qS x))):=by
 have hl:=(vZ0.num hx hK).q.2
 dsimp only at hl
 have h:=(aes (h:=ZI.raw (cq x).1 (cq x).2.1) (h':=ZI.raw (cq x).2.2.1 (cq x).2.2.2)).h (by omega)
 rw[alX]at h;rw[agq]at h;exact h
theorem ain{x:Rat}{K:Nat}(hx:RB x K)(hK:K≤100000):PureOK Tryz.prog 33 [.agg (vlA (fq x))] (.v (str (qS x))):=by
 have c:=an3 hx hK;refine PureOK.fnF Tryz.func33 Tryz.results33 Tryz.ntmps33 rfl rfl rfl (by simp[AV.ids,AV0.ids,Atom.ids]) rfl (fun w0 T B E0 hB=>?_)
 refine SX.goM ?_;exact aew rfl
theorem zw{x:Rat}{K:Nat}(hx:RB x K)(hK:K≤100000):PureOK Tryz.prog 12 [.agg (vlA (fq x))] (.tup [.one (.c (.val (str (qS x)))),eNo 0]):=by
 have c:=ain hx hK;have c1:=mg (vZ.num hx hK);rw[aem]at c1;refine PureOK.fnF Tryz.func12 Tryz.results12 Tryz.ntmps12 rfl rfl rfl (by simp[AV.ids,AV0.ids,Atom.ids]) rfl (fun w0 T B E0 hB=>?_)
 refine SX.goM ?_;exact .ok (aC.mk2 (aj.tmp rfl) (aj.tmp rfl))
theorem ail{x:Rat}{K:Nat}(hx:RB x K)(hK:K≤100000):PureOK Tryz.prog 238 [.agg (vlA (fq x))] (.v (.int .i64 (qB x:Int))):=by
 have cO:=akS 0 (by decide) (by decide)
 have cB:PureOK Tryz.prog 35 [.r (bC (0:Int).natAbs)] (.v (.int .i64 0)):=by
  haveI:BdN 0 1:=⟨by rw[bY];decide⟩
  exact(uF (a:= .sat (bC 0))).h (by decide)
 have c:=aaY (q:=cq x) (by have:=(vZ0.num hx hK).q.2;dsimp only at this;omega)
 rw[om]at c;refine PureOK.fnF Tryz.func238 Tryz.results238 Tryz.ntmps238 rfl rfl rfl (by simp[AV.ids,AV0.ids,Atom.ids]) rfl (fun w0 T B E0 hB=>?_)
 refine SX.goM ?_;exact iN rfl
end
section
theorem ama{vs:List Rat}{K:Nat}(h:∀v∈vs,RB v K)(hK:K≤100000):∀x∈vs.map cq,(Sm WB x.2.1∧Sm WB x.2.2.2)∧x.2.1.length≤100000∧x.2.2.2.length≤100000:=fun x hx=>by
 obtain⟨v,hv,rfl⟩:=List.mem_map.1 hx;exact(vZ0.num (h v hv) hK).q
theorem vZ0.mat{r c:Nat}{vs:List Rat}{K:Nat}(h:∀v∈vs,RB v K)(hK:K≤100000)(hl:vs.length≤100000):vZ0 (iI r c vs) where
 q:=⟨⟨Sm.nil,Sm.nil⟩,Nat.zero_le _,Nat.zero_le _⟩
 a:=ama h hK
 al:=by rw[List.length_map];exact hl
 po:=by intro x hx;cases hx
 pol:=Nat.zero_le _
 p:=aU
 fa:=by intro x hx;cases hx
 fal:=Nat.zero_le _
 ri:=by intro x hx;cases hx
 ril:=Nat.zero_le _
 lil:=Nat.zero_le _
theorem aou(r c:Nat)(vs:List Rat):vP (iI r c vs)=0:=(vP0 _).2 ⟨.inr ⟨rfl,rfl,rfl,rfl⟩,.inl rfl,.inr rfl,.inr ⟨rfl,rfl,rfl⟩,.inr rfl,.inr (.inr rfl),.inr rfl⟩
theorem apc(v:Rat):qOk (cq v)=true:=(afT (agO v)).2 (by rw[om])
theorem ac8{r c n:Nat}(hr:r≤64)(hc:c≤64)(hl:n=r*c):dZ (r:Int) (c:Int) n=true:=decide_eq_true ⟨by omega,by omega,by omega,by omega,by rw[hl];simp⟩
theorem aoI(d:Nat){r c:Nat}{vs:List Rat}(hl:vs.length=r*c)(hr:r≤64)(hc:c≤64):vF d (iI r c vs)=true:=by
 rw[vF_2 (aou r c vs) rfl];unfold mOk;rw[Bool.and_eq_true];refine⟨List.all_eq_true.2 fun x hx=>?_,ac8 hr hc (by rw[List.length_map];exact hl)⟩
 obtain⟨v,_,rfl⟩:=List.mem_map.1 hx;exact apc v
attribute [local irreducible] IntKind.wrap Go1 Reg WP aN aQ bM bI aL aC aj ah aT Sat
attribute [local irreducible] dz bU bV dA bT qv dN mf PrP qOk zOk vP dZ lz vF cq rqv
end
end
section
open Go.ChangeShapes Go.WideShapes Go.ChangeAt Go.Joins
section
variable{H:Type}{enc:TypeId×Value→H}{W:World}{base:Nat}{sp:Nat→Bool}{hd:Bool}
end
def vW1(d:Nat)(v:Vl):Prop:=(v.po.length≤5∧∀x∈v.po,x.2.length≤2)∧v.ri.length≤5∧v.li.length≤4∧(v.li.length=0∨d≠0)∧v.p≤4294967296∧(v.q.2.1.length≤2∧v.q.2.2.2.length≤2)∧FewP v.r v.c v.a 4 2∧(v.fr≤4∧v.fc≤4∧v.fa.length≤100)
def vW:Nat→Vl→Prop
 |0,v=>vW1 0 v∧v.li=[]
 |d+1,v=>vW1 (d+1) v∧∀x∈v.li,vW d x
end
section
def pl(zs:List Int):Nat→Nat
 |0=>0
 |k+1=>if zs.getD k 0=0 then pl zs k else k+1
def fT(zs:List Int):Nat:=pl zs zs.length
def dJ(zs:List Int):List Int:=zs.take (fT zs)
def pN(zs:List Int):Prop:=zs.length=0∨zs.getD (zs.length - 1) 0≠0
def tabP(n:Nat)(f:Nat→Int):List Int:=(List.range n).map f
def eD(op:Int→Int→Int)(a b:List Int):List Int:=dJ (tabP (max a.length b.length) fun i=>op (a.getD i 0) (b.getD i 0))
attribute [local irreducible] IntKind.wrap Go1 Reg WP aN aQ bM bI aL aC aj ah aT Sat
attribute [local irreducible] dz bU bV dA bT qv dN mf PrP qOk zOk vP dZ lz vF cq rqv fT
end
section
attribute [local irreducible] IntKind.wrap Go1 Reg WP aN aQ bM bI aL aC aj ah aT Sat
attribute [local irreducible] dz bU bV dA bT qv dN mf PrP qOk zOk vP dZ lz vF cq rqv fT dJ
theorem amJ{P:Program}{f g:FuncId}{a b r:AV}(h:PureOK P f [a,b,.it (.one (.c (.sat (eu g [] []))))] r):PureOK P f [a,b,.it (.one (.clo g []))] r:=
 weakArgs h fun E S w vs hv=>by
  match vs,hv with
  |[u1,u2,u3],⟨h1,h2,h3,_⟩=>exact⟨h1,h2,aj1 h3,trivial⟩
abbrev pSub:=eD (· - ·)
def bX(zs:List Int)(d:Int):List Int:=dJ (zs.map (· *d))
end
section
section
theorem PrP.lt{p:Nat}(h:PrP p):2≤p∧p < 2147483648:=⟨h.1,h.2.1⟩
attribute [local irreducible] IntKind.wrap Go1 Reg WP aN aQ bM bI aL aC aj ah aT Sat
attribute [local irreducible] dz bU bV dA bT qv dN mf PrP qOk zOk vP dZ lz vF cq rqv fT dJ
end
section
def wN(l:List Nat):Prop:=l.length=0∨l.getD (l.length - 1) 0≠0
inductive Sh(K:Nat):Vl→Prop
 |num (x:Rat) (h:RB x K):Sh K (fq x)
 |mat (r c:Nat) (vs:List Rat) (hl:vs.length=r*c) (hr:r≤64) (hc:c≤64) (h:∀v∈vs,RB v K):Sh K (iI r c vs)
 |pol (zs:List Int) (hl:zs.length≤10000) (hn:pN zs) (h:∀z∈zs,z.natAbs < WB ^ K):Sh K (abV zs)
 |fld (p r c:Nat) (l:List Nat) (hp:PrP p) (hl:l.length=r*c) (hr:r≤64) (hc:c≤64) (h:∀x∈l,x < p):Sh K (ahC p r c l)
 |rng (p:Nat) (l:List Nat) (hp:PrP p) (hl:l.length≤10000) (hn:wN l) (h:∀x∈l,x < p):Sh K (ahT p l)
inductive Cv(K:Nat):Nat→Vl→Prop
 |one {n:Nat} {v:Vl} (h:Sh K v):Cv K n v
 |lst {n:Nat} (l:List Vl) (hl:l.length≤10000) (h:∀x∈l,Cv K n x):Cv K (n+1) (acu l)
noncomputable def anM(u v:Vl):Bool:= @decide (u=v) (Classical.propDecidable _)
attribute [local irreducible] IntKind.wrap Go1 Reg WP aN aQ bM bI aL aC aj ah aT Sat
attribute [local irreducible] dz bU bV dA bT qv dN mf PrP qOk zOk vP dZ lz vF cq rqv fT dJ
section
variable{K L:Nat}(hKL:K+L≤100000)
include hKL
end
end
section
theorem apf(z:Int):zOk (cz z)=true:=(abR (anS z)).2 (by rw[uZ])
theorem aoq{zs:List Int}:lz (zs.map cz)=true↔pN zs:=by
 unfold lz pN;rw[Bool.or_eq_true,decide_eq_true_iff,decide_eq_true_iff,List.length_map];by_cases h:zs.length=0
 ·exact⟨fun _=> .inl h,fun _=> .inl h⟩
 ·have e:rzv ((zs.map cz).getD (zs.length - 1) (false,[]))=zs.getD (zs.length - 1) 0:=by
   rw[List.getD_eq_getElem?_getD,List.getD_eq_getElem?_getD,List.getElem?_map,List.getElem?_eq_getElem (show zs.length - 1 < zs.length by omega)]
   exact uZ _
  rw[e]
theorem aoA{l:List Nat}:lw l=true↔wN l:=by
 unfold lw wN;rw[Bool.or_eq_true,decide_eq_true_iff,decide_eq_true_iff]
theorem ag6{p:Nat}{l:List Nat}:l.all (ltp p)=true↔∀x∈l,x < p:=by
 rw[List.all_eq_true];exact⟨fun h x hx=>of_decide_eq_true (h x hx),fun h x hx=>decide_eq_true (h x hx)⟩
theorem apz(zs:List Int):vP (abV zs)=0:=(vP0 _).2 ⟨.inr ⟨rfl,rfl,rfl,rfl⟩,.inr ⟨rfl,rfl,rfl⟩,.inl rfl,.inr ⟨rfl,rfl,rfl⟩,.inr rfl,.inr (.inr rfl),.inr rfl⟩
theorem apb(p r c:Nat)(l:List Nat):vP (ahC p r c l)=0:=(vP0 _).2 ⟨.inr ⟨rfl,rfl,rfl,rfl⟩,.inr ⟨rfl,rfl,rfl⟩,.inr rfl,.inl rfl,.inr rfl,.inl rfl,.inr rfl⟩
theorem apm(p:Nat)(l:List Nat):vP (ahT p l)=0:=(vP0 _).2 ⟨.inr ⟨rfl,rfl,rfl,rfl⟩,.inr ⟨rfl,rfl,rfl⟩,.inr rfl,.inr ⟨rfl,rfl,rfl⟩,.inl rfl,.inr (.inl rfl),.inr rfl⟩
theorem apd(l:List Vl):vP (acu l)=0:=(vP0 _).2 ⟨.inr ⟨rfl,rfl,rfl,rfl⟩,.inr ⟨rfl,rfl,rfl⟩,.inr rfl,.inr ⟨rfl,rfl,rfl⟩,.inr rfl,.inr (.inr rfl),.inl rfl⟩
theorem abw:(Sm WB rq0.2.1∧Sm WB rq0.2.2.2)∧rq0.2.1.length≤100000∧rq0.2.2.2.length≤100000:=⟨⟨Sm.nil,Sm.nil⟩,Nat.zero_le _,Nat.zero_le _⟩
theorem jg{α:Type}{p:α→Prop}:∀x∈([]:List α),p x:=fun x hx=>by cases hx
theorem amZ{zs:List Int}{K:Nat}(h:∀z∈zs,z.natAbs < WB ^ K)(hK:K≤100000)(hl:zs.length≤100000):vZ0 (abV zs) where
 q:=abw
 a:=jg
 al:=Nat.zero_le _
 po:=fun x hx=>by obtain⟨z,hz,rfl⟩:=List.mem_map.1 hx;exact⟨anS z,Nat.le_trans (nS (h z hz)) hK⟩
 pol:=by rw[List.length_map];exact hl
 p:=aU
 fa:=jg
 fal:=Nat.zero_le _
 ri:=jg
 ril:=Nat.zero_le _
 lil:=Nat.zero_le _
theorem PrP.wb{p:Nat}(h:PrP p):p < WB:=by have:=h.2.1;rw[bY];omega
theorem anp{p r c:Nat}{l:List Nat}(hp:PrP p)(h:∀x∈l,x < p)(hl:l.length≤100000):vZ0 (ahC p r c l) where
 q:=abw
 a:=jg
 al:=Nat.zero_le _
 po:=jg
 pol:=Nat.zero_le _
 p:=hp.wb
 fa:=fun x hx=>Nat.lt_trans (h x hx) hp.wb
 fal:=hl
 ri:=jg
 ril:=Nat.zero_le _
 lil:=Nat.zero_le _
theorem anB{p:Nat}{l:List Nat}(hp:PrP p)(h:∀x∈l,x < p)(hl:l.length≤100000):vZ0 (ahT p l) where
 q:=abw
 a:=jg
 al:=Nat.zero_le _
 po:=jg
 pol:=Nat.zero_le _
 p:=hp.wb
 fa:=jg
 fal:=Nat.zero_le _
 ri:=fun x hx=>Nat.lt_trans (h x hx) hp.wb
 ril:=hl
 lil:=Nat.zero_le _
theorem amS{l:List Vl}(hl:l.length≤100000):vZ0 (acu l) where
 q:=abw
 a:=jg
 al:=Nat.zero_le _
 po:=jg
 pol:=Nat.zero_le _
 p:=aU
 fa:=jg
 fal:=Nat.zero_le _
 ri:=jg
 ril:=Nat.zero_le _
 lil:=hl
theorem Sh.z{K:Nat}{v:Vl}(h:Sh K v)(hK:K≤100000):vZ0 v∧v.li=[]:=by
 cases h with
 |num x h=>exact⟨vZ0.num h hK,rfl⟩
 |mat r c vs hl hr hc h=>exact⟨vZ0.mat h hK (by have:=Nat.mul_le_mul hr hc;omega),rfl⟩
 |pol zs hl hn h=>exact⟨amZ h hK (by omega),rfl⟩
 |fld p r c l hp hl hr hc h=>exact⟨anp hp h (by have:=Nat.mul_le_mul hr hc;omega),rfl⟩
 |rng p l hp hl hn h=>exact⟨anB hp h (by omega),rfl⟩
theorem Sh.f{K:Nat}{v:Vl}(h:Sh K v)(d:Nat):vF d v=true:=by
 cases h with
 |num x h=>exact aem d x
 |mat r c vs hl hr hc h=>exact aoI d hl hr hc
 |pol zs hl hn h=>
  rw[vF_3 (apz zs) rfl];unfold pOk;rw[Bool.and_eq_true];exact⟨List.all_eq_true.2 fun x hx=>by obtain⟨z,_,rfl⟩:=List.mem_map.1 hx;exact apf z,aoq.2 hn⟩
 |fld p r c l hp hl hr hc h=>
  rw[vF_4 (apb p r c l) rfl];unfold fOk;rw[Bool.and_eq_true,Bool.and_eq_true];exact⟨decide_eq_true hp,ag6.2 h,ac8 hr hc hl⟩
 |rng p l hp hl hn h=>
  rw[vF_5 (apm p l) rfl];unfold rOk;rw[Bool.and_eq_true,Bool.and_eq_true];exact⟨decide_eq_true hp,ag6.2 h,aoA.2 hn⟩
theorem Sh.zz{K:Nat}{v:Vl}(h:Sh K v)(hK:K≤100000):∀n,vZ n v
 |0=>h.z hK
 |n+1=>⟨(h.z hK).1,by rw[(h.z hK).2];exact jg⟩
theorem Cv.z{K:Nat}(hK:K≤100000):∀{n:Nat} {v:Vl},Cv K n v→vZ n v:=by
 intro n
 induction n with
 |zero=>
  intro v h;cases h with
  |one h=>exact h.zz hK 0
 |succ n ih=>
  intro v h;cases h with
  |one h=>exact h.zz hK _
  |lst l hl h=>exact⟨amS (by omega),fun x hx=>ih (h x hx)⟩
theorem Cv.f{K:Nat}:∀{n:Nat} {v:Vl},Cv K n v→∀d,n < d→vF d v=true:=by
 intro n
 induction n with
 |zero=>
  intro v h d hd;cases h with
  |one h=>exact h.f d
 |succ n ih=>
  intro v h d hd;cases h with
  |one h=>exact h.f d
  |lst l hl h=>
   obtain⟨e,rfl⟩:∃e,d=e+1:=⟨d - 1,by omega⟩
   rw[vF_6 (apd l) rfl];exact List.all_eq_true.2 fun x hx=>ih (h x hx) e (by omega)
attribute [local irreducible] IntKind.wrap Go1 Reg WP aN aQ bM bI aL aC aj ah aT Sat
attribute [local irreducible] dz bU bV dA bT qv dN mf PrP qOk zOk vP dZ lz vF cq rqv fT dJ
theorem Cv.F{K n:Nat}{v:Vl}(h:Cv K n v)(hK:K≤100000)(hn:n≤15):PureOK Tryz.prog 32 [.agg (vlA v)] (.v (.bool true)):=by
 have c:=mg (h.z hK)
 rwa [h.f 20 (by omega)]at c
end
end
end Go.Proofs.YtegehclknhmkgaaGreatDoor
set_option linter.unusedSectionVars false
namespace Go.Proofs.YtegehclknhmkgaaGreatDoor
open Go.RowKit QM SX LA
section
section
def jn(s:UInt8):List (List UInt8)→List UInt8
 |[]=>[]
 |[a]=>a
 |a::b::l=>a++(s::32::jn s (b::l))
def chk{α:Type}(c:Nat):Nat→List α→List (List α)
 |0,_=>[]
 |r+1,l=>l.take c::chk c r (l.drop c)
def tbS(r c:Nat)(l:List (List UInt8)):List UInt8:=
 if r=0∨c=0 then [122,101,114,111,40]++(aO r++([44,32]++(aO c++[41])))else 91::(jn 59 ((chk c r l).map (jn 44))++[93])
def plS(l:List (List UInt8)):List UInt8:=[112,111,108,121,40]++(jn 44 l++[41])
def mdS(s:List UInt8)(p:Nat):List UInt8:=[109,111,100,40]++(s++([44,32]++(aO p++[41])))
mutual
def tS:Vl→List UInt8
 |⟨k,q,r,c,a,po,p,fr,fc,fa,ri,li⟩=>
  if k=1 then qS (rqv q)else if k=2 then tbS r.toNat c.toNat (a.map fun x=>qS (rqv x))else if k=3 then plS (po.map fun x=>zS (rzv x))
  else if k=4 then mdS (tbS fr.toNat fc.toNat (fa.map aO)) p else if k=5 then mdS (plS (ri.map aO)) p else 123::(jn 44 (tL li)++[125])
def tL:List Vl→List (List UInt8)
 |[]=>[]
 |v::l=>tS v::tL l
end
theorem anN:∀l:List Vl,tL l=l.map tS
 |[]=>by rw[tL];rfl
 |v::l=>by rw[tL,anN l];rfl
theorem afj(x:Rat):tS (fq x)=qS x:=by
 show tS ⟨1,cq x,0,0,[],[],0,0,0,[],[],[]⟩=_;rw[tS,if_pos rfl,om]
theorem qG(r c:Nat)(vs:List Rat):tS (iI r c vs)=tbS r c (vs.map qS):=by
 show tS ⟨2,rq0,(r:Int),(c:Int),vs.map cq,[],0,0,0,[],[],[]⟩=_;rw[tS,if_neg (by decide),if_pos rfl,List.map_map,Int.toNat_natCast,Int.toNat_natCast,show (fun x=>qS (rqv x)) ∘ cq=qS from funext fun x=>congrArg qS (om x)]
theorem apg(zs:List Int):tS (abV zs)=plS (zs.map zS):=by
 show tS ⟨3,rq0,0,0,[],zs.map cz,0,0,0,[],[],[]⟩=_;rw[tS,if_neg (by decide),if_neg (by decide),if_pos rfl,List.map_map,show (fun x=>zS (rzv x)) ∘ cz=zS from funext fun x=>congrArg zS (uZ x)]
theorem apk(p r c:Nat)(l:List Nat):tS (ahC p r c l)=mdS (tbS r c (l.map aO)) p:=by
 show tS ⟨4,rq0,0,0,[],[],p,(r:Int),(c:Int),l,[],[]⟩=_;rw[tS,if_neg (by decide),if_neg (by decide),if_neg (by decide),if_pos rfl,Int.toNat_natCast,Int.toNat_natCast]
theorem apN(p:Nat)(l:List Nat):tS (ahT p l)=mdS (plS (l.map aO)) p:=by
 show tS ⟨5,rq0,0,0,[],[],p,0,0,[],l,[]⟩=_;rw[tS,if_neg (by decide),if_neg (by decide),if_neg (by decide),if_neg (by decide),if_pos rfl]
theorem akV(l:List Vl):tS (acu l)=123::(jn 44 (l.map tS)++[125]):=by
 show tS ⟨6,rq0,0,0,[],[],0,0,0,[],[],l⟩=_;rw[tS,if_neg (by decide),if_neg (by decide),if_neg (by decide),if_neg (by decide),if_neg (by decide),anN]
def dgc(c:UInt8):Prop:=48≤c.toNat∧c.toNat≤57
theorem dg_of{d:Nat}(h:d < 10):dgc (UInt8.ofNat (48+d))∧(UInt8.ofNat (48+d)).toNat=48+d:=by
 have:(UInt8.ofNat (48+d)).toNat=48+d:=by rw[UInt8.toNat_ofNat'];omega
 unfold dgc;omega
theorem ao2:∀(n x:Nat),x≤n→∀c∈dig x,dgc c:=by
 intro n
 induction n with
 |zero=>intro x hx c hc;rw[show x=0 by omega,jm]at hc;cases hc
 |succ n ih=>
  intro x hx c hc;by_cases h0:x=0
  ·rw[h0,jm]at hc;cases hc
  ·rw[mJ h0,List.mem_append,List.mem_singleton]at hc;rcases hc with hc|rfl
   ·exact ih (x / 10) (by omega) c hc
   ·exact(dg_of (Nat.mod_lt x (by decide))).1
theorem abf(x:Nat):∀c∈aO x,dgc c:=by
 intro c hc;unfold aO at hc
 split at hc
 ·rw[List.mem_singleton]at hc;subst hc;unfold dgc;decide
 ·exact ao2 x x (Nat.le_refl _) c hc
theorem afX(x:Nat):∃c m,aO x=c::m∧dgc c:=by
 cases h:aO x with
 |nil=>
  unfold aO at h
  split at h
  ·cases h
  ·next h0=>exact absurd h (afv h0)
 |cons c m=>exact⟨c,m,rfl,abf x c (by rw[h];exact List.mem_cons_self ..)⟩
theorem zS_ch(z:Int):∀c∈zS z,c=45∨dgc c:=by
 intro c hc;unfold zS at hc
 split at hc
 ·rw[List.mem_cons]at hc;exact hc.imp id (abf _ c)
 ·exact .inr (abf _ c hc)
theorem anR(z:Int):∃c m,zS z=c::m∧(c=45∨dgc c):=by
 cases h:zS z with
 |nil=>
  unfold zS at h
  split at h
  ·cases h
  ·obtain⟨c,m,e,_⟩:=afX z.natAbs;rw[e]at h;cases h
 |cons c m=>exact⟨c,m,rfl,zS_ch z c (by rw[h];exact List.mem_cons_self ..)⟩
theorem qX(x:Rat):qS x=if x.den=1 then zS x.num else zS x.num++47::zS (x.den:Int):=by
 unfold qS rS
 dsimp only
 by_cases h:x.den=1
 ·rw[if_pos (show (x.den:Int)=1 by omega),if_pos h]
 ·rw[if_neg (show¬(x.den:Int)=1 by omega),if_neg h,List.append_assoc];rfl
theorem qS_ne(x:Rat):∃c m,qS x=c::m∧(c=45∨dgc c):=by
 obtain⟨c,m,e,h⟩:=anR x.num;rw[qX,e]
 split
 ·exact⟨c,m,rfl,h⟩
 ·exact⟨c,_,rfl,h⟩
def Tm(r:List UInt8):Prop:=∀c m,r=c::m→c=44∨c=59∨c=93∨c=41∨c=125
def Tell{α:Type}(A:α→Prop)(T:List UInt8→Prop)(f:α→List UInt8):Prop:=∀x y,A x→A y→∀r s,T r→T s→f x++r=f y++s→x=y∧r=s
section
variable{α:Type}{f:α→List UInt8}(hf:Tell (fun _=>True) Tm f)(hn:∀x,∃c m,f x=c::m∧(c=45∨dgc c))
include hf hn
end
def kd(v:Vl)(d:UInt8):Prop:=(v.k=1∧(d=45∨dgc d))∨(v.k=2∧(d=122∨d=91))∨(v.k=3∧d=112)∨(v.k=4∧d=109)∨(v.k=5∧d=109)∨(v.k=6∧d=123)
end
section
abbrev mq(vs:List Rat):List Q4:=(vs.map cq).map rq
abbrev mz(zs:List Int):List Z2:=(zs.map cz).map rz
theorem aeU(vs:List Rat):(mq vs).length=vs.length:=by rw[List.length_map,List.length_map]
theorem aeL(zs:List Int):(mz zs).length=zs.length:=by rw[List.length_map,List.length_map]
attribute [local irreducible] IntKind.wrap Go1 Reg WP aN aQ bM bI aL aC aj ah aT Sat
attribute [local irreducible] dz bU bV dA bT qv dN mf PrP qOk zOk vP dZ lz vF cq rqv fT dJ eD bX
def apa(r c:Nat)(vs:List Rat)(x:Rat):List Rat:=kC c (fun i k=>vat vs c i k*x) r
theorem al9{x:Rat}{K:Nat}(hx:RB x K)(hK:K≤100000):PureOK Tryz.prog 240 [.agg (vlA (fq x))] (.tup [.agg (vlA (fq (-x))),eNo 0]):=by
 haveI:=Ra.cq hx
 obtain⟨X,cA,hX⟩:=eNeg (q4A (rq (cq x))) (K:=K) (by omega)
 have e:=hX.nf;subst e;have cN:=zk (-x) 0;refine PureOK.fnF Tryz.func240 Tryz.results240 Tryz.ntmps240 rfl rfl rfl (by simp[AV.ids,AV0.ids,Atom.ids]) rfl (fun w0 T B E0 hB=>?_)
 refine SX.goM ?_;refine .ok (aC.mk2 (aj.gK rfl rfl rfl) (aj.tmp rfl))
theorem ag8{x:Rat}{K:Nat}(hx:RB x K)(hK:K≤100000):PureOK Tryz.prog 193 [.agg (q4A (rq (cq x)))] (.tup [.agg (zN (if x.den=1 then x.num else 0)),.one (.c (.val (.bool (decide (x.den=1)))))]):=by
 have hl:=(vZ0.num hx hK).q.2
 dsimp only at hl
 have h:=(zK (h:=ZI.raw (cq x).1 (cq x).2.1) (h':=ZI.raw (cq x).2.2.1 (cq x).2.2.2)).h (by omega)
 unfold oD at h;rw[alX,agq]at h;have e1:((x.den:Int)=1)↔x.den=1:=by omega
 simp only[e1]at h;exact h
section
variable{u v w:Vl}{e:Int}
variable(c1:PureOK Tryz.prog 32 [.agg (vlA u)] (.v (.bool true)))(c2:PureOK Tryz.prog 32 [.agg (vlA v)] (.v (.bool true)))
include c1 c2
theorem alN(c:PureOK Tryz.prog 257 [.agg (vlA u),.agg (vlA v)] (.tup [.agg (vlA w),eNo e])):PureOK Tryz.prog 231 [.v (.int .i64 7),.agg (vlA u),.agg (vlA v)] (.tup [.agg (vlA w),eNo e]):=by
 refine PureOK.fnF Tryz.func231 Tryz.results231 Tryz.ntmps231 rfl rfl rfl (by simp[AV.ids,AV0.ids,Atom.ids]) rfl (fun w0 T B E0 hB=>?_)
 refine SX.goM ?_;refine .ok (aC.mk2 (aj.gK rfl rfl rfl) (aj.tmp rfl))
end
end
section
def gD(i:Int):Vl→Vl
 |⟨k,q,r,c,a,po,p,fr,fc,fa,ri,li⟩=>if k=1 then fq (i*rqv q)else if k=2 then iI r.toNat c.toNat (apa r.toNat c.toNat (a.map rqv) i)else abV (bX (po.map rzv) i)
attribute [local irreducible] IntKind.wrap Go1 Reg WP aN aQ bM bI aL aC aj ah aT Sat
attribute [local irreducible] dz bU bV dA bT qv dN mf PrP qOk zOk vP dZ lz vF cq rqv fT dJ eD bX
structure Muls(v:Vl)(k:Nat):Prop where
 a:PureOK Tryz.prog 256 [.agg (vlA (fq ((k:Int):Rat))),.agg (vlA v)] (.tup [.agg (vlA (gD k v)),eNo 0])
 b:PureOK Tryz.prog 256 [.agg (vlA v),.agg (vlA (fq ((k:Int):Rat)))] (.tup [.agg (vlA (gD k v)),eNo 0])
 h:∃(w:Vl) (e:Int),PureOK Tryz.prog 256 [.agg (vlA (fq (1 / 2))),.agg (vlA v)] (.tup [.agg (vlA w),eNo e])∧((v.k≠3∧e=0)∨(v.k=3∧e=5))
 d:PureOK Tryz.prog 260 [.agg (vlA v),.agg (vlA v)] (.tup [.agg (vlA (gD 0 v)),eNo 0])
 s:∀i,i < k→PureOK Tryz.prog 259 [.agg (vlA (gD (i:Int) v)),.agg (vlA v)] (.tup [.agg (vlA (gD ((i+1:Nat):Int) v)),eNo 0])
 c:∀i,i≤k→Cv 4 0 (gD (i:Int) v)
 kk:∀i,(gD i v).k=v.k
end
section
def sq(c:Nat):Nat→List (List UInt8)→List UInt8
 |_,[]=>[]
 |i,x::l=>(if 0 < i∧i % c=0 then [59,32]else [])++((if 0 < i % c then [44,32]else [])++(x++sq c (i+1) l))
attribute [local irreducible] IntKind.wrap Go1 Reg WP aN aQ bM bI aL aC aj ah aT Sat
attribute [local irreducible] dz bU bV dA bT qv dN mf PrP qOk zOk vP dZ lz vF cq rqv fT dJ eD bX gD jn sq aO qS zS
theorem zJ(n:Nat):zS (n:Int)=aO n:=by unfold zS;rw[if_neg (by omega),Int.natAbs_natCast]
end
end
section
attribute [local irreducible] IntKind.wrap Go1 Reg WP aN aQ bM bI aL aC aj ah aT Sat
attribute [local irreducible] dz bU bV dA bT qv dN mf PrP qOk zOk vP dZ lz vF cq rqv fT dJ eD bX gD vW
section
variable(n:Int){k:Nat}(hn:n.tmod 7=(k:Int))(hk:k≤6){v:Vl}
include hn hk
end
end
section
attribute [local irreducible] IntKind.wrap Go1 Reg WP aN aQ bM bI aL aC aj ah aT Sat
attribute [local irreducible] dz bU bV dA bT qv dN mf PrP qOk zOk vP dZ lz vF cq rqv fT dJ eD bX gD aO jn qS zS
section
variable(v:Vl){i:Nat}
end
end
end Go.Proofs.YtegehclknhmkgaaGreatDoor