import Derived.Test.YtegehclknhmkgaaGreatDoorS10
import Derived.Test.YtegehclknhmkgaaGreatDoorS26
import Derived.Test.YtegehclknhmkgaaGreatDoorS6
set_option linter.unusedVariables false
set_option linter.unusedSimpArgs false
open Go.Proofs.Tryz
namespace Go.Proofs.YtegehclknhmkgaaGreatDoor
open Go.RowKit QM SX LA
theorem atc(z:Int):zOk (cz z)=true:=(zn (aj4 z)).2 (by rw[mX])
theorem anj{zs:List Int}:lz (zs.map cz)=true↔pN zs:=by
 unfold lz pN;rw[Bool.or_eq_true,decide_eq_true_iff,decide_eq_true_iff,zq5];by_cases h:zs.length=0
 ·exact⟨fun _=> .inl h,fun _=> .inl h⟩
 ·have e:rzv ((zs.map cz).getD (zs.length - 1) (false,[]))=zs.getD (zs.length - 1) 0:=by
   rw[zq3,zq3,List.getElem?_map,zq2 (show zs.length - 1 < zs.length by omega)]
   exact mX _
  rw[e]
theorem ao1{l:List Nat}:lw l=true↔wN l:=by
 unfold lw wN;rw[Bool.or_eq_true,decide_eq_true_iff,decide_eq_true_iff]
theorem yU{p:Nat}{l:List Nat}:l.all (ltp p)=true↔∀x∈l,x < p:=by
 rw[List.all_eq_true];exact⟨fun h x hx=>of_decide_eq_true (h x hx),fun h x hx=>decide_eq_true (h x hx)⟩
theorem asY(zs:List Int):vP (iO zs)=0:=(vP0 _).2 ⟨.inr ⟨rfl,rfl,rfl,rfl⟩,.inr ⟨rfl,rfl,rfl⟩,.inl rfl,.inr ⟨rfl,rfl,rfl⟩,.inr rfl,.inr (.inr rfl),.inr rfl⟩
theorem atE(p r c:Nat)(l:List Nat):vP (kS p r c l)=0:=(vP0 _).2 ⟨.inr ⟨rfl,rfl,rfl,rfl⟩,.inr ⟨rfl,rfl,rfl⟩,.inr rfl,.inl rfl,.inr rfl,.inl rfl,.inr rfl⟩
theorem atb(p:Nat)(l:List Nat):vP (lu p l)=0:=(vP0 _).2 ⟨.inr ⟨rfl,rfl,rfl,rfl⟩,.inr ⟨rfl,rfl,rfl⟩,.inr rfl,.inr ⟨rfl,rfl,rfl⟩,.inl rfl,.inr (.inl rfl),.inr rfl⟩
theorem aua(l:List Vl):vP (kG l)=0:=(vP0 _).2 ⟨.inr ⟨rfl,rfl,rfl,rfl⟩,.inr ⟨rfl,rfl,rfl⟩,.inr rfl,.inr ⟨rfl,rfl,rfl⟩,.inr rfl,.inr (.inr rfl),.inl rfl⟩
theorem adx:(Sm WB rq0.2.1∧Sm WB rq0.2.2.2)∧rq0.2.1.length≤100000∧rq0.2.2.2.length≤100000:=⟨⟨Sm.nil,Sm.nil⟩,Nat.zero_le _,Nat.zero_le _⟩
theorem je{α:Type}{p:α→Prop}:∀x∈([]:List α),p x:=fun x hx=>by cases hx
theorem aqb{zs:List Int}{K:Nat}(h:∀z∈zs,z.natAbs < WB ^ K)(hK:K≤100000)(hl:zs.length≤100000):vZ0 (iO zs) where
 q:=adx
 a:=je
 al:=Nat.zero_le _
 po:=fun x hx=>by obtain⟨z,hz,rfl⟩:=List.mem_map.1 hx;exact⟨aj4 z,Nat.le_trans (lg (h z hz)) hK⟩
 pol:=by rw[zq5];exact hl
 p:=aW
 fa:=je
 fal:=Nat.zero_le _
 ri:=je
 ril:=Nat.zero_le _
 lil:=Nat.zero_le _
theorem PrP.wb{p:Nat}(h:PrP p):p < WB:=by have:=h.2.1;rw[bB];omega
theorem apX{p r c:Nat}{l:List Nat}(hp:PrP p)(h:∀x∈l,x < p)(hl:l.length≤100000):vZ0 (kS p r c l) where
 q:=adx
 a:=je
 al:=Nat.zero_le _
 po:=je
 pol:=Nat.zero_le _
 p:=hp.wb
 fa:=fun x hx=>Nat.lt_trans (h x hx) hp.wb
 fal:=hl
 ri:=je
 ril:=Nat.zero_le _
 lil:=Nat.zero_le _
theorem arl{p:Nat}{l:List Nat}(hp:PrP p)(h:∀x∈l,x < p)(hl:l.length≤100000):vZ0 (lu p l) where
 q:=adx
 a:=je
 al:=Nat.zero_le _
 po:=je
 pol:=Nat.zero_le _
 p:=hp.wb
 fa:=je
 fal:=Nat.zero_le _
 ri:=fun x hx=>Nat.lt_trans (h x hx) hp.wb
 ril:=hl
 lil:=Nat.zero_le _
theorem aql{l:List Vl}(hl:l.length≤100000):vZ0 (kG l) where
 q:=adx
 a:=je
 al:=Nat.zero_le _
 po:=je
 pol:=Nat.zero_le _
 p:=aW
 fa:=je
 fal:=Nat.zero_le _
 ri:=je
 ril:=Nat.zero_le _
 lil:=hl
theorem Sh.z{K:Nat}{v:Vl}(h:Sh K v)(hK:K≤100000):vZ0 v∧v.li=[]:=by
 cases h with
 |num x h=>exact⟨vZ0.num h hK,rfl⟩
 |mat r c vs hl hr hc h=>exact⟨vZ0.mat h hK (by have:=Nat.mul_le_mul hr hc;omega),rfl⟩
 |pol zs hl hn h=>exact⟨aqb h hK (by omega),rfl⟩
 |fld p r c l hp hl hr hc h=>exact⟨apX hp h (by have:=Nat.mul_le_mul hr hc;omega),rfl⟩
 |rng p l hp hl hn h=>exact⟨arl hp h (by omega),rfl⟩
theorem Sh.f{K:Nat}{v:Vl}(h:Sh K v)(d:Nat):vF d v=true:=by
 cases h with
 |num x h=>exact ap1 d x
 |mat r c vs hl hr hc h=>exact atI d hl hr hc
 |pol zs hl hn h=>
  rw[vF_3 (asY zs) rfl];unfold pOk;rw[Bool.and_eq_true];exact⟨List.all_eq_true.2 fun x hx=>by obtain⟨z,_,rfl⟩:=List.mem_map.1 hx;exact atc z,anj.2 hn⟩
 |fld p r c l hp hl hr hc h=>
  rw[vF_4 (atE p r c l) rfl];unfold fOk;rw[Bool.and_eq_true,Bool.and_eq_true];exact⟨decide_eq_true hp,yU.2 h,aag hr hc hl⟩
 |rng p l hp hl hn h=>
  rw[vF_5 (atb p l) rfl];unfold rOk;rw[Bool.and_eq_true,Bool.and_eq_true];exact⟨decide_eq_true hp,yU.2 h,ao1.2 hn⟩
theorem Sh.zz{K:Nat}{v:Vl}(h:Sh K v)(hK:K≤100000):∀n,vZ n v
 |0=>h.z hK
 |n+1=>⟨(h.z hK).1,by rw[(h.z hK).2];exact je⟩
theorem Cv.z{K:Nat}(hK:K≤100000):∀{n:Nat} {v:Vl},Cv K n v→vZ n v:=by
 intro n
 induction n with
 |zero=>
  intro v h;cases h with
  |one h=>exact h.zz hK 0
 |succ n ih=>
  intro v h;cases h with
  |one h=>exact h.zz hK _
  |lst l hl h=>exact⟨aql (by omega),fun x hx=>ih (h x hx)⟩
theorem Cv.f{K:Nat}:∀{n:Nat} {v:Vl},Cv K n v→∀d,n < d→vF d v=true:=by
 intro n
 induction n with
 |zero=>
  intro v h d hd;cases h with
  |one h=>exact h.f d
 |succ n ih=>
  intro v h d hd;cases h with
  |one h=>exact h.f d
  |lst l hl h=>
   obtain⟨e,rfl⟩:∃e,d=e+1:=⟨d - 1,by omega⟩
   rw[vF_6 (aua l) rfl];exact List.all_eq_true.2 fun x hx=>ih (h x hx) e (by omega)
theorem abb{α β:Type}{f:α→β}{g:β→α}:∀(l:List β),(∀x∈l,x=f (g x))→l=(l.map g).map f
 |[],_=>rfl
 |x::l,h=>by rw[List.map_cons,List.map_cons,←h x (List.mem_cons_self ..),←abb l fun y hy=>h y (List.mem_cons_of_mem _ hy)]
theorem asB{q:fV}(hs:Sm WB q.2.1∧Sm WB q.2.2.2)(h:q.2.1.length≤2∧q.2.2.2.length≤2):RB (rqv q) 2:=Ra.rb (Ra.rawq hs h) (by decide)
theorem alM{α:Type}{l:List α}(h:l.length=0):l=[]:=List.eq_nil_of_length_eq_zero h
theorem ac0{d e:Nat}{v:Vl}(hw:vW1 d v)(hr:rW v)(hf:vF e v=true):Sh 2 v∨(v=kG v.li∧∃e',e=e'+1∧∀x∈v.li,vF e' x=true):=by
 by_cases hP:vP v=0
 rotate_left
 ·rw[vF_P hP]at hf;cases hf
 have h0:=(vP0 v).1 hP;obtain⟨w1,w2,w3,w4,w5,w6,w7,w8⟩:=hw;obtain⟨r1,r2,r3,r4,r5,r6,r7⟩:=(aaC v).1 hr;have hk:v.k=1∨v.k=2∨v.k=3∨v.k=4∨v.k=5∨v.k=6∨(v.k≠1∧v.k≠2∧v.k≠3∧v.k≠4∧v.k≠5∧v.k≠6):=by omega
 have q0:v.k≠1→v.q=rq0:=fun h=>(adN _).2 (h0.1.resolve_left h)
 have m0:v.k≠2→v.r=0∧v.c=0∧v.a=[]:=fun h=>by have:=h0.2.1.resolve_left h;exact⟨this.1,this.2.1,alM this.2.2⟩
 have p0:v.k≠3→v.po=[]:=fun h=>alM (h0.2.2.1.resolve_left h)
 have f0:v.k≠4→v.fr=0∧v.fc=0∧v.fa=[]:=fun h=>by have:=h0.2.2.2.1.resolve_left h;exact⟨this.1,this.2.1,alM this.2.2⟩
 have i0:v.k≠5→v.ri=[]:=fun h=>alM (h0.2.2.2.2.1.resolve_left h)
 have P0:v.k≠4→v.k≠5→v.p=0:=fun h h'=>(h0.2.2.2.2.2.1.resolve_left h).resolve_left h'
 have l0:v.k≠6→v.li=[]:=fun h=>alM (h0.2.2.2.2.2.2.resolve_left h)
 clear h0;rcases hk with hk|hk|hk|hk|hk|hk|hk
 ·rw[vF_1 hP hk]at hf;have e1:=(zy r1).1 hf;obtain⟨m1,m2,m3⟩:=m0 (by omega);obtain⟨f1,f2,f3⟩:=f0 (by omega)
  have p1:=p0 (by omega);have i1:=i0 (by omega);have P1:=P0 (by omega) (by omega);have l1:=l0 (by omega)
  have rb:=asB r1 w6;obtain⟨k,q,r,c,a,po,p,fr,fc,fa,ri,li⟩:=v
  dsimp only at*
  subst hk m1 m2 m3 f1 f2 f3 p1 i1 P1 l1;rw[e1];exact .inl (.num _ rb)
 ·rw[vF_2 hP hk]at hf;unfold mOk at hf;rw[Bool.and_eq_true]at hf;have e1:∀x∈v.a,x=cq (rqv x):=fun x hx=>(zy (r2 x hx)).1 (List.all_eq_true.1 hf.1 x hx)
  have e2:=of_decide_eq_true hf.2;have rb:∀y∈v.a.map rqv,RB y 2:=fun y hy=>by
   obtain⟨x,hx,rfl⟩:=List.mem_map.1 hy;exact asB (r2 x hx) (aec.len (w:=2) w7 x hx)
  have q1:=q0 (by omega);obtain⟨f1,f2,f3⟩:=f0 (by omega)
  have p1:=p0 (by omega);have i1:=i0 (by omega);have P1:=P0 (by omega) (by omega);have l1:=l0 (by omega)
  obtain⟨k,q,r,c,a,po,p,fr,fc,fa,ri,li⟩:=v
  dsimp only at*
  subst hk q1 f1 f2 f3 p1 i1 P1 l1;obtain⟨n,rfl⟩:∃n:Nat,r=n:=⟨r.toNat,by omega⟩
  obtain⟨m,rfl⟩:∃m:Nat,c=m:=⟨c.toNat,by omega⟩
  have e3:=abb (f:=cq) (g:=rqv) a e1;have e4:(a.map rqv).length=n*m:=by rw[zq5];have:=e2.2.2.2.2;rw[←Int.natCast_mul]at this;omega
  have:=Sh.mat n m (a.map rqv) e4 (by omega) (by omega) rb
  unfold eF at this;rw[←e3]at this;exact .inl this
 ·rw[vF_3 hP hk]at hf;unfold pOk at hf;rw[Bool.and_eq_true]at hf;have e1:∀x∈v.po,x=cz (rzv x):=fun x hx=>(zn (r3 x hx)).1 (List.all_eq_true.1 hf.1 x hx)
  have rb:∀y∈v.po.map rzv,y.natAbs < WB ^ 2:=fun y hy=>by
   obtain⟨x,hx,rfl⟩:=List.mem_map.1 hy;exact(ZQ.raw (b:=x.1) (r3 x hx) (w1.2 x hx)).b
  have q1:=q0 (by omega);obtain⟨f1,f2,f3⟩:=f0 (by omega);obtain⟨m1,m2,m3⟩:=m0 (by omega)
  have i1:=i0 (by omega);have P1:=P0 (by omega) (by omega);have l1:=l0 (by omega)
  obtain⟨k,q,r,c,a,po,p,fr,fc,fa,ri,li⟩:=v
  dsimp only at*
  subst hk q1 f1 f2 f3 m1 m2 m3 i1 P1 l1;have e3:=abb (f:=cz) (g:=rzv) po e1;have e4:pN (po.map rzv):=anj.1 (by rw[←e3];exact hf.2)
  have:=Sh.pol (po.map rzv) (by rw[zq5];omega) e4 rb
  unfold iO at this;rw[←e3]at this;exact .inl this
 ·rw[vF_4 hP hk]at hf;unfold fOk at hf;rw[Bool.and_eq_true,Bool.and_eq_true,decide_eq_true_iff,yU]at hf;have e2:=of_decide_eq_true hf.2.2;have q1:=q0 (by omega);obtain⟨m1,m2,m3⟩:=m0 (by omega)
  have p1:=p0 (by omega);have i1:=i0 (by omega);have l1:=l0 (by omega)
  obtain⟨k,q,r,c,a,po,p,fr,fc,fa,ri,li⟩:=v
  dsimp only at*
  subst hk q1 m1 m2 m3 p1 i1 l1;obtain⟨n,rfl⟩:∃n:Nat,fr=n:=⟨fr.toNat,by omega⟩
  obtain⟨m,rfl⟩:∃m:Nat,fc=m:=⟨fc.toNat,by omega⟩
  have e4:fa.length=n*m:=by have:=e2.2.2.2.2;rw[←Int.natCast_mul]at this;omega
  exact .inl (.fld p n m fa hf.1 e4 (by omega) (by omega) hf.2.1)
 ·rw[vF_5 hP hk]at hf;unfold rOk at hf;rw[Bool.and_eq_true,Bool.and_eq_true,decide_eq_true_iff,yU,ao1]at hf;have q1:=q0 (by omega);obtain⟨m1,m2,m3⟩:=m0 (by omega);obtain⟨f1,f2,f3⟩:=f0 (by omega)
  have p1:=p0 (by omega);have l1:=l0 (by omega)
  obtain⟨k,q,r,c,a,po,p,fr,fc,fa,ri,li⟩:=v
  dsimp only at*
  subst hk q1 m1 m2 m3 f1 f2 f3 p1 l1;exact .inl (.rng p ri hf.1 (by omega) hf.2.2 hf.2.1)
 ·have q1:=q0 (by omega);obtain⟨m1,m2,m3⟩:=m0 (by omega);obtain⟨f1,f2,f3⟩:=f0 (by omega)
  have p1:=p0 (by omega);have i1:=i0 (by omega);have P1:=P0 (by omega) (by omega)
  cases e with
  |zero=>rw[amQ hk]at hf;cases hf
  |succ e=>
   rw[vF_6 hP hk,List.all_eq_true]at hf;obtain⟨k,q,r,c,a,po,p,fr,fc,fa,ri,li⟩:=v
   dsimp only at*
   subst hk q1 m1 m2 m3 f1 f2 f3 p1 i1 P1;exact .inr ⟨rfl,e,rfl,hf⟩
 ·rw[vF_7 hk]at hf;cases hf
theorem Cv.of:∀{d e:Nat} {v:Vl},vW d v→rW v→vF e v=true→Cv 2 (d+1) v:=by
 intro d
 induction d with
 |zero=>
  intro e v h hr hf;rcases ac0 h.one hr hf with h1|⟨h1,e',he,h2⟩
  ·exact .one h1
  ·rw[h1];exact .lst v.li (by rw[h.2];exact Nat.zero_le _) (by rw[h.2];exact je)
 |succ d ih=>
  intro e v h hr hf;rcases ac0 h.one hr hf with h1|⟨h1,e',he,h2⟩
  ·exact .one h1
  ·rw[h1];exact .lst v.li (by have:=h.one.2.2.1;omega) fun x hx=>ih (h.2 x hx) (((aaC v).1 hr).2.2.2.2.2.2 x hx) (h2 x hx)
attribute [local irreducible] IntKind.wrap Go1 Reg WP aS aT bR bO aQ aC ak aj aX Sat
attribute [local irreducible] bT bX bY dw bZ qv dR mf PrP qOk zOk vP dQ lz vF cq rqv eY bW
theorem Cv.F{K n:Nat}{v:Vl}(h:Cv K n v)(hK:K≤100000)(hn:n≤15):ah prog 32 [.agg (vlA v)] (.v (.bool true)):=by
 have c:=xS (h.z hK)
 rwa [h.f 20 (by omega)]at c
theorem ao7{K L n m:Nat}{u v:Vl}(hu:Cv K n u)(hv:Cv L m v)(hK:K+L≤100000)(hn:n≤15)(hm:m≤15):ah prog 14 [.agg (vlA u),.agg (vlA v)] (.v (.bool (jo u v))):=by
 have c:=aoo hK n m u v hu hv;have c1:=hu.F (by omega) hn
 have c2:=hv.F (by omega) hm
 refine ah.fnF func14 results14 ntmps14 rfl rfl rfl (by simp[AV.ids,AV0.ids,Atom.ids]) rfl (fun w0 T B E0 hB=>?_)
 refine SX.goM ?_;exact aJ rfl
end Go.Proofs.YtegehclknhmkgaaGreatDoor
set_option linter.unusedSectionVars false
namespace Go.Proofs.YtegehclknhmkgaaGreatDoor
open Go.RowKit QM SX LA
section
section
def jn(s:UInt8):List (List UInt8)→List UInt8
 |[]=>[]
 |[a]=>a
 |a::b::l=>a++(s::32::jn s (b::l))
def chk{α:Type}(c:Nat):Nat→List α→List (List α)
 |0,_=>[]
 |r+1,l=>l.take c::chk c r (l.drop c)
def tbS(r c:Nat)(l:List (List UInt8)):List UInt8:=
 if r=0∨c=0 then [122,101,114,111,40]++(aO r++([44,32]++(aO c++[41])))else 91::(jn 59 ((chk c r l).map (jn 44))++[93])
def plS(l:List (List UInt8)):List UInt8:=[112,111,108,121,40]++(jn 44 l++[41])
def mdS(s:List UInt8)(p:Nat):List UInt8:=[109,111,100,40]++(s++([44,32]++(aO p++[41])))
mutual
def tS:Vl→List UInt8
 |⟨k,q,r,c,a,po,p,fr,fc,fa,ri,li⟩=>
  if k=1 then qS (rqv q)else if k=2 then tbS r.toNat c.toNat (a.map fun x=>qS (rqv x))else if k=3 then plS (po.map fun x=>zS (rzv x))
  else if k=4 then mdS (tbS fr.toNat fc.toNat (fa.map aO)) p else if k=5 then mdS (plS (ri.map aO)) p else 123::(jn 44 (tL li)++[125])
def tL:List Vl→List (List UInt8)
 |[]=>[]
 |v::l=>tS v::tL l
end
theorem as2:∀l:List Vl,tL l=l.map tS
 |[]=>by rw[tL];rfl
 |v::l=>by rw[tL,as2 l];rfl
theorem xq(x:Rat):tS (fJ x)=qS x:=by
 show tS ⟨1,cq x,0,0,[],[],0,0,0,[],[],[]⟩=_;rw[tS,if_pos rfl,iU]
theorem mY(r c:Nat)(vs:List Rat):tS (eF r c vs)=tbS r c (vs.map qS):=by
 show tS ⟨2,rq0,(r:Int),(c:Int),vs.map cq,[],0,0,0,[],[],[]⟩=_;rw[tS,if_neg (by decide),if_pos rfl,List.map_map,Int.toNat_natCast,Int.toNat_natCast,show (fun x=>qS (rqv x)) ∘ cq=qS from funext fun x=>congrArg qS (iU x)]
theorem wO(zs:List Int):tS (iO zs)=plS (zs.map zS):=by
 show tS ⟨3,rq0,0,0,[],zs.map cz,0,0,0,[],[],[]⟩=_;rw[tS,if_neg (by decide),if_neg (by decide),if_pos rfl,List.map_map,show (fun x=>zS (rzv x)) ∘ cz=zS from funext fun x=>congrArg zS (mX x)]
theorem wP(p r c:Nat)(l:List Nat):tS (kS p r c l)=mdS (tbS r c (l.map aO)) p:=by
 show tS ⟨4,rq0,0,0,[],[],p,(r:Int),(c:Int),l,[],[]⟩=_;rw[tS,if_neg (by decide),if_neg (by decide),if_neg (by decide),if_pos rfl,Int.toNat_natCast,Int.toNat_natCast]
theorem wz(p:Nat)(l:List Nat):tS (lu p l)=mdS (plS (l.map aO)) p:=by
 show tS ⟨5,rq0,0,0,[],[],p,0,0,[],l,[]⟩=_;rw[tS,if_neg (by decide),if_neg (by decide),if_neg (by decide),if_neg (by decide),if_pos rfl]
theorem sW(l:List Vl):tS (kG l)=123::(jn 44 (l.map tS)++[125]):=by
 show tS ⟨6,rq0,0,0,[],[],0,0,0,[],[],l⟩=_;rw[tS,if_neg (by decide),if_neg (by decide),if_neg (by decide),if_neg (by decide),if_neg (by decide),as2]
def dgc(c:UInt8):Prop:=48≤c.toNat∧c.toNat≤57
theorem dg_of{d:Nat}(h:d < 10):dgc (UInt8.ofNat (48+d))∧(UInt8.ofNat (48+d)).toNat=48+d:=by
 have:(UInt8.ofNat (48+d)).toNat=48+d:=by rw[UInt8.toNat_ofNat'];omega
 unfold dgc;omega
theorem aun:∀(n x:Nat),x≤n→∀c∈dig x,dgc c:=by
 intro n
 induction n with
 |zero=>intro x hx c hc;rw[show x=0 by omega,jC]at hc;cases hc
 |succ n ih=>
  intro x hx c hc;by_cases h0:x=0
  ·rw[h0,jC]at hc;cases hc
  ·rw[nk h0,List.mem_append,List.mem_singleton]at hc;rcases hc with hc|rfl
   ·exact ih (x / 10) (by omega) c hc
   ·exact(dg_of (Nat.mod_lt x (by decide))).1
theorem ady(x:Nat):∀c∈aO x,dgc c:=by
 intro c hc;unfold aO at hc
 split at hc
 ·rw[List.mem_singleton]at hc;subst hc;unfold dgc;decide
 ·exact aun x x (Nat.le_refl _) c hc
theorem aiF(x:Nat):∃c m,aO x=c::m∧dgc c:=by
 cases h:aO x with
 |nil=>
  unfold aO at h
  split at h
  ·cases h
  ·next h0=>exact absurd h (ahr h0)
 |cons c m=>exact⟨c,m,rfl,ady x c (by rw[h];exact List.mem_cons_self ..)⟩
theorem zS_ch(z:Int):∀c∈zS z,c=45∨dgc c:=by
 intro c hc;unfold zS at hc
 split at hc
 ·rw[List.mem_cons]at hc;exact hc.imp id (ady _ c)
 ·exact .inr (ady _ c hc)
theorem arQ(z:Int):∃c m,zS z=c::m∧(c=45∨dgc c):=by
 cases h:zS z with
 |nil=>
  unfold zS at h
  split at h
  ·cases h
  ·obtain⟨c,m,e,_⟩:=aiF z.natAbs;rw[e]at h;cases h
 |cons c m=>exact⟨c,m,rfl,zS_ch z c (by rw[h];exact List.mem_cons_self ..)⟩
theorem rU(x:Rat):qS x=if x.den=1 then zS x.num else zS x.num++47::zS (x.den:Int):=by
 unfold qS rS
 dsimp only
 by_cases h:x.den=1
 ·rw[if_pos (show (x.den:Int)=1 by omega),if_pos h]
 ·rw[if_neg (show¬(x.den:Int)=1 by omega),if_neg h,List.append_assoc];rfl
theorem qS_ne(x:Rat):∃c m,qS x=c::m∧(c=45∨dgc c):=by
 obtain⟨c,m,e,h⟩:=arQ x.num;rw[rU,e]
 split
 ·exact⟨c,m,rfl,h⟩
 ·exact⟨c,_,rfl,h⟩
def Tm(r:List UInt8):Prop:=∀c m,r=c::m→c=44∨c=59∨c=93∨c=41∨c=125
def Tell{α:Type}(A:α→Prop)(T:List UInt8→Prop)(f:α→List UInt8):Prop:=∀x y,A x→A y→∀r s,T r→T s→f x++r=f y++s→x=y∧r=s
section
variable{α:Type}{f:α→List UInt8}(hf:Tell (fun _=>True) Tm f)(hn:∀x,∃c m,f x=c::m∧(c=45∨dgc c))
include hf hn
end
def kd(v:Vl)(d:UInt8):Prop:=(v.k=1∧(d=45∨dgc d))∨(v.k=2∧(d=122∨d=91))∨(v.k=3∧d=112)∨(v.k=4∧d=109)∨(v.k=5∧d=109)∨(v.k=6∧d=123)
end
section
abbrev mq(vs:List Rat):List Q4:=(vs.map cq).map rq
abbrev mz(zs:List Int):List Z2:=(zs.map cz).map rz
theorem ahq(vs:List Rat):(mq vs).length=vs.length:=by rw[zq5,zq5]
theorem ahI(zs:List Int):(mz zs).length=zs.length:=by rw[zq5,zq5]
attribute [local irreducible] IntKind.wrap Go1 Reg WP aS aT bR bO aQ aC ak aj aX Sat
attribute [local irreducible] bT bX bY dw bZ qv dR mf PrP qOk zOk vP dQ lz vF cq rqv eY bW dL dh
def aub(r c:Nat)(vs:List Rat)(x:Rat):List Rat:=kE c (fun i k=>vat vs c i k*x) r
theorem aov{x:Rat}{K:Nat}(hx:RB x K)(hK:K≤100000):ah prog 240 [.agg (vlA (fJ x))] (.tup [.agg (vlA (fJ (-x))),eNo 0]):=by
 haveI:=Ra.cq hx
 obtain⟨X,cA,hX⟩:=eNeg (q4A (rq (cq x))) (K:=K) (by omega)
 have e:=hX.nf;subst e;have cN:=aeT (-x) 0;refine ah.fnF func240 results240 ntmps240 rfl rfl rfl (by simp[AV.ids,AV0.ids,Atom.ids]) rfl (fun w0 T B E0 hB=>?_)
 refine SX.goM ?_;refine .ok (aC.mk2 (ak.gJ rfl rfl rfl) (ak.tmp rfl))
theorem aqc{x:Rat}{K:Nat}(hx:RB x K)(hK:K≤100000):ah prog 193 [.agg (q4A (rq (cq x)))] (.tup [.agg (zN (if x.den=1 then x.num else 0)),.one (.c (.val (.bool (decide (x.den=1)))))]):=by
 have hl:=(vZ0.num hx hK).q.2
 dsimp only at hl
 have h:=(sN (h:=ZI.raw (cq x).1 (cq x).2.1) (h':=ZI.raw (cq x).2.2.1 (cq x).2.2.2)).h (by omega)
 unfold qJ at h;rw[amN,aic]at h;have e1:((x.den:Int)=1)↔x.den=1:=by omega
 simp only[e1]at h;exact h
section
variable{u v w:Vl}{e:Int}
variable(c1:ah prog 32 [.agg (vlA u)] (.v (.bool true)))(c2:ah prog 32 [.agg (vlA v)] (.v (.bool true)))
include c1 c2
theorem ao0(c:ah prog 257 [.agg (vlA u),.agg (vlA v)] (.tup [.agg (vlA w),eNo e])):ah prog 231 [.v (.int .i64 7),.agg (vlA u),.agg (vlA v)] (.tup [.agg (vlA w),eNo e]):=by
 refine ah.fnF func231 results231 ntmps231 rfl rfl rfl (by simp[AV.ids,AV0.ids,Atom.ids]) rfl (fun w0 T B E0 hB=>?_)
 refine SX.goM ?_;refine .ok (aC.mk2 (ak.gJ rfl rfl rfl) (ak.tmp rfl))
end
end
section
def gD(i:Int):Vl→Vl
 |⟨k,q,r,c,a,po,p,fr,fc,fa,ri,li⟩=>if k=1 then fJ (i*rqv q)else if k=2 then eF r.toNat c.toNat (aub r.toNat c.toNat (a.map rqv) i)else iO (dh (po.map rzv) i)
attribute [local irreducible] IntKind.wrap Go1 Reg WP aS aT bR bO aQ aC ak aj aX Sat
attribute [local irreducible] bT bX bY dw bZ qv dR mf PrP qOk zOk vP dQ lz vF cq rqv eY bW dL dh
structure Muls(v:Vl)(k:Nat):Prop where
 a:ah prog 256 [.agg (vlA (fJ ((k:Int):Rat))),.agg (vlA v)] (.tup [.agg (vlA (gD k v)),eNo 0])
 b:ah prog 256 [.agg (vlA v),.agg (vlA (fJ ((k:Int):Rat)))] (.tup [.agg (vlA (gD k v)),eNo 0])
 h:∃(w:Vl) (e:Int),ah prog 256 [.agg (vlA (fJ (1 / 2))),.agg (vlA v)] (.tup [.agg (vlA w),eNo e])∧((v.k≠3∧e=0)∨(v.k=3∧e=5))
 d:ah prog 260 [.agg (vlA v),.agg (vlA v)] (.tup [.agg (vlA (gD 0 v)),eNo 0])
 s:∀i,i < k→ah prog 259 [.agg (vlA (gD (i:Int) v)),.agg (vlA v)] (.tup [.agg (vlA (gD ((i+1:Nat):Int) v)),eNo 0])
 c:∀i,i≤k→Cv 4 0 (gD (i:Int) v)
 kk:∀i,(gD i v).k=v.k
end
section
def txC(s:List UInt8):List CA:=[.val (str s)]
def sq(c:Nat):Nat→List (List UInt8)→List UInt8
 |_,[]=>[]
 |i,x::l=>(if 0 < i∧i % c=0 then [59,32]else [])++((if 0 < i % c then [44,32]else [])++(x++sq c (i+1) l))
theorem aoQ(c:Nat):∀(i:Nat) (l m:List (List UInt8)),sq c i (l++m)=sq c i l++sq c (i+l.length) m
 |i,[],m=>rfl
 |i,a::l,m=>by
  show sq c i (a::(l++m))=_;rw[sq,aoQ c (i+1) l m,sq,List.length_cons,show i+1+l.length=i+(l.length+1)by omega]
  simp only[List.append_assoc]
theorem as0(c:Nat):∀(l:List (List UInt8)) (i k:Nat),0 < k→k+l.length≤c→sq c (i*c+k) l=(l.map fun x=>[44,32]++x).flatten
 |[],_,_,_,_=>rfl
 |a::l,i,k,h0,hk=>by
  rw[List.length_cons]at hk;have hm:(i*c+k) % c=k:=by rw[Nat.mul_comm,Nat.mul_add_mod,Nat.mod_eq_of_lt (by omega)]
  rw[sq,hm,if_neg (by omega),if_pos h0,Nat.add_assoc,as0 c l i (k+1) (by omega) (by omega)]
  simp
theorem adL(s:UInt8):∀(a:List UInt8) (l:List (List UInt8)),jn s (a::l)=a++(l.map fun x=>[s,32]++x).flatten
 |a,[]=>by simp[jn]
 |a,b::l=>by rw[jn,adL s b l];simp
theorem asU(c:Nat){l:List (List UInt8)}(hl:l.length=c)(h0:0 < c)(i:Nat):sq c (i*c) l=(if 0 < i then [59,32]else [])++jn 44 l:=by
 cases l with
 |nil=>simp at hl;omega
 |cons a l=>
  rw[List.length_cons]at hl;rw[sq,Nat.mul_mod_left,adL,as0 c l i 1 (by decide) (by omega),if_neg (show¬0 < 0 by decide)]
  by_cases hi:0 < i
  ·rw[if_pos hi,if_pos ⟨Nat.mul_pos hi h0,rfl⟩];rfl
  ·rw[if_neg hi,if_neg (fun h=>hi (by rcases Nat.eq_zero_or_pos i with h1|h1;(subst h1;simp at h);exact h1))];rfl
theorem ajh(c:Nat)(h0:0 < c):∀(r i:Nat) (l:List (List UInt8)),l.length=r*c→sq c (i*c) l=if r=0 then []else(if 0 < i then [59,32]else [])++jn 59 ((chk c r l).map (jn 44))
 |0,i,l,hl=>by
  have:l=[]:=List.eq_nil_of_length_eq_zero (by omega)
  subst this;rfl
 |r+1,i,l,hl=>by
  rw[Nat.add_mul]at hl;have h1:(l.take c).length=c:=by rw[List.length_take];omega
  have h2:(l.drop c).length=r*c:=by rw[List.length_drop];omega
  have e:sq c (i*c) l=sq c (i*c) (l.take c)++sq c ((i+1)*c) (l.drop c):=by
   have:=aoQ c (i*c) (l.take c) (l.drop c);rw[List.take_append_drop,h1]at this;rw[this,Nat.add_mul,Nat.one_mul]
  rw[e,asU c h1 h0,ajh c h0 r (i+1) _ h2,if_neg (show¬r+1=0 by omega),chk,List.map_cons]
  cases r with
  |zero=>rw[if_pos rfl,chk,List.map_nil,jn,List.append_nil]
  |succ r=>
   rw[if_neg (show¬r+1=0 by omega),if_pos (show 0 < i+1 by omega),chk,List.map_cons,jn]
   simp[List.append_assoc]
theorem auq{c r:Nat}{l:List (List UInt8)}(hl:l.length=r*c)(hr:r≠0)(hc:c≠0):sq c 0 l=jn 59 ((chk c r l).map (jn 44)):=by
 have:=ajh c (by omega) r 0 l hl
 rw[Nat.zero_mul,if_neg hr,if_neg (by omega)]at this
 exact this
attribute [local irreducible] IntKind.wrap Go1 Reg WP aS aT bR bO aQ aC ak aj aX Sat
attribute [local irreducible] bT bX bY dw bZ qv dR mf PrP qOk zOk vP dQ lz vF cq rqv eY bW dL dh gD jn sq aO qS zS
theorem sO(n:Nat):zS (n:Int)=aO n:=by unfold zS;rw[if_neg (by omega),Int.natAbs_natCast]
theorem wV{x:Nat}(h:x < WB):(aO x).length≤21:=aar (k:=1) (by rw[Nat.pow_one];exact h)
end
end
section
attribute [local irreducible] IntKind.wrap Go1 Reg WP aS aT bR bO aQ aC ak aj aX Sat
attribute [local irreducible] bT bX bY dw bZ qv dR mf PrP qOk zOk vP dQ lz vF cq rqv eY bW dL dh gD vW
section
variable(n:Int){k:Nat}(hn:n.tmod 7=(k:Int))(hk:k≤6){v:Vl}
include hn hk
end
end
section
section
theorem agE(s:UInt8):∀{l:List (List UInt8)} {x:List UInt8},x∈l→x.length≤(jn s l).length
 |[a],x,h=>by rw[List.mem_singleton]at h;subst h;exact Nat.le_refl _
 |a::b::l,x,h=>by
  show x.length≤(a++(s::32::jn s (b::l))).length;rw[List.length_append,List.length_cons,List.length_cons];rw[List.mem_cons]at h;rcases h with rfl|h
  ·omega
  ·have:=agE s h;omega
theorem aoS(s:UInt8){m:Nat}:∀{l:List (List UInt8)},(∀x∈l,x.length≤m)→(jn s l).length≤l.length*(m+2)
 |[],_=>Nat.zero_le _
 |[a],h=>by have:=h a (List.mem_singleton.2 rfl);show a.length≤1*(m+2);omega
 |a::b::l,h=>by
  have h1:=h a (List.mem_cons_self ..);have h2:=aoS s (l:=b::l) fun x hx=>h x (List.mem_cons_of_mem _ hx)
  show (a++(s::32::jn s (b::l))).length≤(l.length+1+1)*(m+2);rw[List.length_append,List.length_cons,List.length_cons,Nat.add_mul _ 1 (m+2)];rw[List.length_cons]at h2;omega
theorem asc(c:Nat){m:Nat}:∀(i:Nat) {l:List (List UInt8)},(∀x∈l,x.length≤m)→(sq c i l).length≤l.length*(m+4)
 |_,[],_=>Nat.zero_le _
 |i,a::l,h=>by
  have h1:=h a (List.mem_cons_self ..);have h2:=asc c (i+1) (l:=l) fun x hx=>h x (List.mem_cons_of_mem _ hx)
  show ((if 0 < i∧i % c=0 then [59,32]else [])++((if 0 < i % c then [44,32]else [])++(a++sq c (i+1) l))).length≤(l.length+1)*(m+4)
  have e1:(if 0 < i∧i % c=0 then [59,32]else []:List UInt8).length≤2:=by split <;> simp
  have e2:(if 0 < i % c then [44,32]else []:List UInt8).length≤2:=by split <;> simp
  rw[List.length_append,List.length_append,List.length_append,Nat.add_mul _ 1 (m+4)];omega
theorem asi{r c m:Nat}{l:List (List UInt8)}(hl:l.length=r*c)(hr:r < WB)(hc:c < WB)(h:∀x∈l,x.length≤m):(tbS r c l).length≤l.length*(m+4)+50:=by
 unfold tbS
 split
 ·next h0=>
  have b1:=wV hr;have b2:=wV hc;simp only[List.length_append,List.length_cons,List.length_nil];omega
 ·next h0=>
  rw[←auq hl (by omega) (by omega),List.length_cons,List.length_append]
  have:=asc c 0 h;simp only[List.length_cons,List.length_nil];omega
theorem amD{m:Nat}{l:List (List UInt8)}(h:∀x∈l,x.length≤m):(plS l).length≤l.length*(m+2)+6:=by
 have:=aoS 44 h;unfold plS;simp only[List.length_append,List.length_cons,List.length_nil];omega
theorem arY{s:List UInt8}{p:Nat}(hp:p < WB):(mdS s p).length≤s.length+28:=by
 have:=wV hp;unfold mdS;simp only[List.length_append,List.length_cons,List.length_nil];omega
theorem aoD{z:Int}{K:Nat}(h:z.natAbs < WB ^ K):(zS z).length≤20*K+2:=agO (h:=⟨h⟩)
theorem as9{x:Rat}{K:Nat}(h:RB x K):(qS x).length≤40*K+5:=by
 have h1:=aoD h.n;have h2:(zS (x.den:Int)).length≤20*K+2:=aoD (by rw[Int.natAbs_natCast];exact h.d)
 rw[rU]
 split
 ·omega
 ·rw[List.length_append,List.length_cons];omega
theorem map_le{α:Type}{f:α→List UInt8}{m:Nat}{l:List α}(h:∀x∈l,(f x).length≤m):∀x∈l.map f,x.length≤m:=fun x hx=>by
 obtain⟨y,hy,rfl⟩:=List.mem_map.1 hx;exact h y hy
theorem Sh.le{d:Nat}{v:Vl}(h:Sh 2 v)(hw:vW1 d v):(tS v).length≤20000:=by
 obtain⟨w1,w2,w3,w4,w5,w6,w7,w8⟩:=hw;cases h with
 |num x h=>rw[xq];have:=as9 h;omega
 |mat r c vs hl hr hc h=>
  have h1:vs.length≤100:=by have:=w7.2.2.2;simpa using this
  rw[mY];have:=asi (m:=85) (l:=vs.map qS) (by rw[zq5];exact hl) (by rw[bB];omega) (by rw[bB];omega) (map_le fun x hx=>by have:=as9 (h x hx);omega)
  rw[zq5]at this;have h2:=Nat.mul_le_mul_right (85+4) h1;omega
 |pol zs hl hn h=>
  have h1:zs.length≤5:=by have:=w1.1;simpa using this
  rw[wO];have:=amD (m:=42) (l:=zs.map zS) (map_le fun x hx=>aoD (h x hx))
  rw[zq5]at this;have h2:=Nat.mul_le_mul_right (42+2) h1;omega
 |fld p r c l hp hl hr hc h=>
  have h1:l.length≤100:=w8.2.2;rw[wP];have:=asi (m:=21) (l:=l.map aO) (by rw[zq5];exact hl) (by rw[bB];omega) (by rw[bB];omega) (map_le fun x hx=>wV (Nat.lt_trans (h x hx) hp.wb))
  rw[zq5]at this;have h2:=Nat.mul_le_mul_right (21+4) h1;have h3:=arY (s:=tbS r c (l.map aO)) hp.wb;omega
 |rng p l hp hl hn h=>
  have h1:l.length≤5:=w2;rw[wz];have:=amD (m:=21) (l:=l.map aO) (map_le fun x hx=>wV (Nat.lt_trans (h x hx) hp.wb))
  rw[zq5]at this;have h2:=Nat.mul_le_mul_right (21+2) h1;have h3:=arY (s:=plS (l.map aO)) hp.wb;omega
def tB:Nat→Nat
 |0=>20000
 |d+1=>4*tB d+20000
theorem tS_le:∀(d:Nat) {n:Nat} {v:Vl},vW d v→Cv 2 n v→(tS v).length≤tB d:=by
 intro d
 induction d with
 |zero=>
  intro n v hw hv;cases hv with
  |one h=>exact h.le hw.1
  |lst l hl h=>
   have:l=[]:=hw.2;subst this;rw[sW];decide
 |succ d ih=>
  intro n v hw hv;cases hv with
  |one h=>have:=h.le hw.1;show _≤4*tB d+20000;omega
  |lst l hl h=>
   have h1:l.length≤4:=hw.1.2.2.1;have h2:=aoS 44 (m:=tB d) (l:=l.map tS) (map_le fun x hx=>ih (hw.2 x hx) (h x hx))
   rw[sW];rw[zq5]at h2;have h3:=Nat.mul_le_mul_right (tB d+2) h1;show (123::(jn 44 (l.map tS)++[125])).length≤4*tB d+20000;rw[List.length_cons,List.length_append,List.length_cons,List.length_nil];omega
attribute [local irreducible] IntKind.wrap Go1 Reg WP aS aT bR bO aQ aC ak aj aX Sat
attribute [local irreducible] bT bX bY dw bZ qv dR mf PrP qOk zOk vP dQ lz vF cq rqv eY bW dL dh gD jn sq aO qS zS tS tbS plS mdS
theorem apP{z:Int}{K:Nat}(h:z.natAbs < WB ^ K)(hK:K≤100000):ah prog 5 [.agg (z2A (rz (cz z)))] (.v (str (zS (rzv (cz z))))):=by
 have hl:(cz z).2.length≤K:=lg h;exact aht (h:=(ZQ.raw (b:=(cz z).1) (aj4 z) hl).zi).h (by omega)
theorem apb{x:Rat}{K:Nat}(hx:RB x K)(hK:K≤100000):ah prog 53 [.agg (q4A (rq (cq x)))] (.v (str (qS (rqv (cq x))))):=by
 rw[iU];exact adU hx hK
end
section
theorem aqM(s:UInt8):∀ws:List (List UInt8),Go.Lib.join ws [s,32]=jn s ws
 |[]=>rfl
 |a::l=>by rw[Go.Lib.join_cons,adL];rfl
theorem alR:∀{ws:List (List UInt8)} {j:Nat} {s:List UInt8},ws[j]? =some s→(ws.flatMap txC)[j]? =some (.val (str s))
 |[],j,s,h=>by simp at h
 |a::l,0,s,h=>by
  simp at h;subst h;rfl
 |a::l,j+1,s,h=>by
  rw[List.flatMap_cons];show ([CA.val (str a)]++l.flatMap txC)[j+1]? =_;simp at h
  simpa using alR h
theorem aaR{n:Nat}{l:List (List UInt8)}(h:l.length=n):aA 1 txC l=aM 1 n (l.flatMap txC):=by subst h;rfl
theorem zw{ws:List (List UInt8)}{k:Nat}{s:List UInt8}(h:ws[k]? =some s):(ws.take k).flatMap txC++[.val (str s)]=(ws.take (k+1)).flatMap txC:=by
 rw[List.take_add_one,h];simp[txC]
attribute [local irreducible] IntKind.wrap Go1 Reg WP aS aT bR bO aQ aC ak aj aX Sat
attribute [local irreducible] bT bX bY dw bZ qv dR mf PrP qOk zOk vP dQ lz vF cq rqv eY bW dL dh gD aO
theorem uo(s:UInt8)(ws:List (List UInt8))(hn:ws.length≤1000000)(hl:(jn s ws).length≤1000000000000):
  ah prog 62 [.r (aA 1 txC ws),.v (str [s,32])] (.v (str (jn s ws))):=
 ah.gM ⟨_,func62,rfl,rfl⟩ rfl fun E S w vs hl2 hv=>by
  match vs,hv with
  |[v1,v2],⟨h1,h2,_⟩=>
   have h1:(aM 1 ws.length (ws.flatMap txC)).has S w v1:=h1;have h2:v2=str [s,32]:=h2;subst h2;obtain⟨oa,cap,rfl,hcap,_,_,_,hcells⟩:=bG.1 h1;by_cases h0:ws=[]
   ·subst h0;refine(strings_Join_none oa cap ⟨⟨[s,32]⟩⟩ w).mono fun e w' ⟨g1,g2⟩=>⟨str [],?_,rfl,?_⟩
    ·rw[g1]
    ·subst g2;exact Off.of_below (Below.refl _ _)
   ·obtain⟨a,ha⟩:∃a,ws[0]? =some a:=by
     cases ws with
     |nil=>exact absurd rfl h0
     |cons a l=>exact⟨a,rfl⟩
    obtain⟨b,o,u,rfl,hb,hc,hu⟩:=hcells 0 _ (alR ha);have hmap:(ws.map fun x=>(⟨⟨x⟩⟩:ByteArray)).map (·.data.toList)=ws:=by
     rw[List.map_map];exact List.map_id _
    have hjl:(Go.Lib.join ((ws.map fun x=>(⟨⟨x⟩⟩:ByteArray)).map (·.data.toList)) (⟨⟨[s,32]⟩⟩:ByteArray).data.toList)=jn s ws:=by
     rw[hmap];exact aqM s ws
    have hbk:=World.block_lt_of_cell? _ _ hc;have J:=strings_Join b o cap (ws.map fun x=>⟨⟨x⟩⟩) ⟨⟨[s,32]⟩⟩ w (fun j x hx=>by
     rw[List.getElem?_map]at hx
     obtain⟨t,ht,rfl⟩:=Option.map_eq_some_iff.1 hx;obtain⟨b',o',u',e,_,hc',hu'⟩:=hcells j _ (alR ht);cases e;have hu2:u'=str t:=hu';rw[hc',hu2]) hbk (by rw[zq5];omega) (by rw[zq5];exact hcap) (by rw[hjl];omega)
    rw[zq5]at J;refine J.mono fun e w' ⟨g1,g2⟩=>⟨str (jn s ws),?_,rfl,Off.of_below g2⟩
    rw[g1,hjl]
theorem lG(x:Nat)(hx:x < 18446744073709551616):ah prog 60 [.v (.int .u64 (x:Int))] (.v (str (aO x))):=by
 have c1:=ajV (x:Int) (by omega) (by omega)
 rw[Int.natAbs_natCast]at c1;have hx2:x < WB ^ 1:=by rw[Nat.pow_one,bB];omega
 haveI:NI (.sat (bD x)) x 1:=NI.aaL hx2
 have c2:=abY (a:= .sat (bD x)) (x:=x) (k:=1) hx2 (by decide)
 refine ah.fnF func60 results60 ntmps60 rfl rfl rfl (by simp[AV.ids,AV0.ids,Atom.ids]) rfl (fun w0 T B E0 hB=>?_)
 refine SX.goM ?_;exact lT rfl
theorem acr(ws:List (List UInt8))(x:CA)(hx1:x.dK=true)(hn:ws.length≤10000)(hl:(jn 44 ws).length≤100000000000)(hx:∀(i:Nat) (s:List UInt8),ws[i]? =some s→FnV prog x [.v (.int .i64 (i:Int))] (.v (str s))):
  ah prog 56 [.v (.int .i64 (ws.length:Int)),.it (.one (.c x))] (.v (str (plS ws))):=by
 have cJ:=uo 44 ws (by omega) (by omega)
 unfold plS;refine ah.fnF func56 results56 ntmps56 rfl rfl rfl (by simp[AV.ids,AV0.ids,Atom.ids]) rfl (fun w0 T B E0 hB=>?_)
 refine SX.goM ?_;refine W.loop (fun k=>k≤ws.length) (fun k=>[(1,.it (.one (.c x))),(5,.own 100),(7,.v (.int .i64 (ws.length:Int))),(8,.v (.int .i64 (k:Int)))]) (fun k=>[(100,.row 9 1 k ((ws.take k).flatMap txC))]) (fun k=>ws.length - k) 0 (Nat.zero_le _) (fun k hk=>?_)
  (by
   refine SX.St.aY [(100,none)] (by intro b h;cases h) ?_ ?_ rfl
   ·repeat(first|exact trivial|refine⟨⟨_,rfl,SX.aG.same rfl⟩,?_⟩|refine⟨⟨_,rfl,SX.aG.nil rfl⟩,?_⟩)
   ·exact⟨SX.ay.bV rfl,trivial⟩)
 by_cases h:k < ws.length
 ·obtain⟨s,hs⟩:∃s,ws[k]? =some s:=⟨_,zq2 h⟩
  have c:=hx k s hs;refine SX.goM ?_;refine W.next (k+1) h (by omega) (by
   refine SX.St.aY [(100,some 16)] (by intro b h;cases h) ?_ ?_ rfl
   ·repeat(first|exact trivial|refine⟨⟨_,rfl,SX.aG.same rfl⟩,?_⟩|refine⟨⟨_,rfl,SX.aG.own rfl⟩,?_⟩)
   ·exact⟨SX.ay.row rfl rfl rfl (zw hs),trivial⟩)
 ·obtain rfl:k=ws.length:=by omega
  rw[List.take_length];refine SX.WP.freeze 100 hB rfl ?_;refine SX.goM ?_;refine lT ?_;simp
end
section
theorem amC{α:Type}(c:Nat):∀(r:Nat) (l:List α) (i:Nat),i < r→(chk c r l)[i]? =some ((l.drop (i*c)).take c)
 |0,l,i,h=>absurd h (Nat.not_lt_zero _)
 |r+1,l,0,h=>by rw[Nat.zero_mul];rfl
 |r+1,l,i+1,h=>by
  show (chk c r (l.drop c))[i]? =_;rw[amC c r (l.drop c) i (by omega),List.drop_drop,Nat.succ_mul,Nat.add_comm]
theorem abg{α:Type}(c:Nat):∀(r:Nat) (l:List α),(chk c r l).length=r
 |0,l=>rfl
 |r+1,l=>by show (chk c r (l.drop c)).length+1=_;rw[abg c r]
theorem arI{α:Type}{l:List α}{a c k:Nat}(hk:k < c):((l.drop a).take c)[k]? =l[a+k]? :=by
 rw[List.getElem?_take,if_pos hk,List.getElem?_drop]
attribute [local irreducible] IntKind.wrap Go1 Reg WP aS aT bR bO aQ aC ak aj aX Sat
attribute [local irreducible] bT bX bY dw bZ qv dR mf PrP qOk zOk vP dQ lz vF cq rqv eY bW dL dh gD aO jn qS zS
set_option maxRecDepth 20000 in
set_option maxHeartbeats 2000000 in
theorem aau{r c:Nat}(l:List (List UInt8))(x:CA)(hx1:x.dK=true)(hl:l.length=r*c)(hr:r≤64)(hc:c≤64)(hb:(tbS r c l).length≤10000000000)(hx:∀(i:Nat) (s:List UInt8),l[i]? =some s→FnV prog x [.v (.int .i64 (i:Int))] (.v (str s))):
  ah prog 54 [.v (.int .i64 (r:Int)),.v (.int .i64 (c:Int)),.it (.one (.c x))] (.v (str (tbS r c l))):=by
 have n1:=lG r (by omega)
 have n2:=lG c (by omega)
 unfold tbS at hb ⊢;by_cases h0:r=0∨c=0
 ·rw[if_pos h0]at hb ⊢;simp only[List.length_append]at hb;refine ah.fnF func54 results54 ntmps54 rfl rfl rfl (by simp[AV.ids,AV0.ids,Atom.ids]) rfl (fun w0 T B E0 hB=>?_)
  by_cases h1:r=0
  ·subst h1;refine SX.goM ?_;refine lT ?_;simp
  ·have h2:=h0.resolve_left h1;subst h2;refine SX.goM ?_;refine lT ?_;simp
 rw[if_neg h0]at hb ⊢;rw[List.length_cons,List.length_append]at hb;have h1:¬r=0:=fun e=>h0 (.inl e)
 have h2:¬c=0:=fun e=>h0 (.inr e)
 obtain⟨R,hR⟩:∃R,R=(chk c r l).map (jn 44):=⟨_,rfl⟩;rw[←hR]at hb ⊢;have hRl:R.length=r:=by rw[hR,zq5,abg]
 have cJ:=uo 59 R (by omega) (by omega)
 rw[aaR hRl]at cJ;refine ah.fnF func54 results54 ntmps54 rfl rfl rfl (by simp[AV.ids,AV0.ids,Atom.ids]) rfl (fun w0 T B E0 hB=>?_)
 refine SX.goM ?_;refine W.loop (fun i=>i≤r) (fun i=>[(1,.v (.int .i64 (c:Int))),(2,.it (.one (.c x))),(7,.own 101),(27,.v (.int .i64 (r:Int))),(28,.v (.int .i64 (i:Int)))]) (fun i=>[(101,.row 9 1 i ((R.take i).flatMap txC))]) (fun i=>r - i) 0 (Nat.zero_le _) (fun i hi=>?_)
  (by
   refine SX.St.aY [(101,none)] (by intro b h;cases h) ?_ ?_ rfl
   ·repeat(first|exact trivial|refine⟨⟨_,rfl,SX.aG.same rfl⟩,?_⟩|refine⟨⟨_,rfl,SX.aG.nil rfl⟩,?_⟩)
   ·exact⟨SX.ay.bV rfl,trivial⟩)
 by_cases h:i < r
 ·obtain⟨ri,hri⟩:∃ri,ri=(l.drop (i*c)).take c:=⟨_,rfl⟩;have hRi:R[i]? =some (jn 44 ri):=by rw[hR,List.getElem?_map,amC c r l i h,hri];rfl
  have hm:=agE 59 (zq4 hRi);have hil:i*c+c≤r*c:=by rw[←Nat.succ_mul];exact Nat.mul_le_mul_right c h
  have hrl:ri.length=c:=by rw[hri,List.length_take,List.length_drop];omega
  have cI:=uo 44 ri (by omega) (by omega)
  rw[aaR hrl]at cI;have hic:=Nat.mul_le_mul (show i≤64 by omega) hc
  refine SX.goM ?_;refine W.loop (fun k=>k≤c) (fun k=>[(1,.v (.int .i64 (c:Int))),(2,.it (.one (.c x))),(7,.own 101),(8,.v (.int .i64 (i:Int))),(9,.own 100),(27,.v (.int .i64 (r:Int))),(28,.v (.int .i64 (i:Int))),(31,.v (.int .i64 (c:Int))),(32,.v (.int .i64 (k:Int)))]) (fun k=>[(101,.row 9 1 i ((R.take i).flatMap txC)),(100,.row 9 1 k ((ri.take k).flatMap txC))]) (fun k=>c - k) 0 (Nat.zero_le _) (fun k hk=>?_)
   (by
    refine SX.St.aY [(101,some 101),(100,none)] (by intro b h;cases h) ?_ ?_ rfl
    ·repeat(first|exact trivial|refine⟨⟨_,rfl,SX.aG.same rfl⟩,?_⟩|refine⟨⟨_,rfl,SX.aG.nil rfl⟩,?_⟩|refine⟨⟨_,rfl,SX.aG.own rfl⟩,?_⟩)
    ·exact⟨SX.ay.row rfl rfl rfl rfl,SX.ay.bV rfl,trivial⟩)
  by_cases h3:k < c
  ·obtain⟨s,hs⟩:∃s,ri[k]? =some s:=⟨_,zq2 (by omega)⟩
   have hs2:l[i*c+k]? =some s:=by rw[←arI (c:=c) h3,←hri];exact hs
   have cx:=hx (i*c+k) s hs2;refine SX.goM ?_;refine W.next (k+1) h3 (by omega) (by
    refine SX.St.aY [(101,some 101),(100,some 44)] (by intro b h;cases h) ?_ ?_ rfl
    ·repeat(first|exact trivial|refine⟨⟨_,rfl,SX.aG.same rfl⟩,?_⟩|refine⟨⟨_,rfl,SX.aG.own rfl⟩,?_⟩)
    ·exact⟨SX.ay.row rfl rfl rfl rfl,SX.ay.row rfl rfl rfl (zw hs),trivial⟩)
  ·obtain rfl:k=c:=by omega
   have e4:ri.take k=ri:=List.take_of_length_le (by omega)
   rw[e4];refine SX.WP.freeze 100 hB rfl ?_;refine SX.goM ?_;refine W.next (i+1) h (by omega) (by
    refine SX.St.aY [(101,some 50)] (by intro b h;cases h) ?_ ?_ rfl
    ·repeat(first|exact trivial|refine⟨⟨_,rfl,SX.aG.same rfl⟩,?_⟩|refine⟨⟨_,rfl,SX.aG.own rfl⟩,?_⟩)
    ·exact⟨SX.ay.row rfl rfl rfl (zw hRi),trivial⟩)
 ·obtain rfl:i=r:=by omega
  have e4:R.take i=R:=List.take_of_length_le (by omega)
  rw[e4];refine SX.WP.freeze 101 hB rfl ?_;refine SX.goM ?_;refine lT ?_;simp
theorem ae6(v:Vl)(hp:v.p < 18446744073709551616)(s:List UInt8)(hs:s.length≤10000000000)(hd:(aO v.p).length≤1000):ah prog 58 [.agg (vlA v),.v (str s)] (.v (str (mdS s v.p))):=by
 have n1:=lG v.p hp;unfold mdS;refine ah.fnF func58 results58 ntmps58 rfl rfl rfl (by simp[AV.ids,AV0.ids,Atom.ids]) rfl (fun w0 T B E0 hB=>?_)
 refine SX.goM ?_;refine lT ?_;simp
section
variable(v:Vl){i:Nat}
theorem amI{x:fV}{s:List UInt8}(hx:(v.a.map rq)[i]? =some (rq x))(hl:v.a.length≤100000)(c:ah prog 53 [.agg (q4A (rq x))] (.v (str s))):
  ah prog 55 [.v (.int .i64 (i:Int)),.r (bJ (vlK v))] (.v (str s)):=by
 have h1:=kI hx;refine ah.fnF func55 results55 ntmps55 rfl rfl rfl (by simp[AV.ids,AV0.ids,Atom.ids]) rfl (fun w0 T B E0 hB=>?_)
 refine SX.goM ?_;exact lT rfl
theorem amS{x:kW}{s:List UInt8}(hx:(v.po.map rz)[i]? =some (rz x))(hl:v.po.length≤100000)(c:ah prog 5 [.agg (z2A (rz x))] (.v (str s))):
  ah prog 57 [.v (.int .i64 (i:Int)),.r (bJ (vlK v))] (.v (str s)):=by
 have h1:=kI hx;refine ah.fnF func57 results57 ntmps57 rfl rfl rfl (by simp[AV.ids,AV0.ids,Atom.ids]) rfl (fun w0 T B E0 hB=>?_)
 refine SX.goM ?_;exact lT rfl
theorem amA{x:Nat}(hx:v.fa[i]? =some x)(hb:x < 18446744073709551616)(hl:v.fa.length≤100000):
  ah prog 59 [.v (.int .i64 (i:Int)),.r (bJ (vlK v))] (.v (str (aO x))):=by
 have h1:=kI hx;have c:=lG x hb;refine ah.fnF func59 results59 ntmps59 rfl rfl rfl (by simp[AV.ids,AV0.ids,Atom.ids]) rfl (fun w0 T B E0 hB=>?_)
 refine SX.goM ?_;exact lT rfl
theorem aoU{x:Nat}(hx:v.ri[i]? =some x)(hb:x < 18446744073709551616)(hl:v.ri.length≤100000):
  ah prog 61 [.v (.int .i64 (i:Int)),.r (bJ (vlK v))] (.v (str (aO x))):=by
 have h1:=kI hx;have c:=lG x hb;refine ah.fnF func61 results61 ntmps61 rfl rfl rfl (by simp[AV.ids,AV0.ids,Atom.ids]) rfl (fun w0 T B E0 hB=>?_)
 refine SX.goM ?_;exact lT rfl
end
end
section
theorem aj5{p:Nat}(h:p < WB):(aO p).length≤21:=wV h
attribute [local irreducible] IntKind.wrap Go1 Reg WP aS aT bR bO aQ aC ak aj aX Sat
attribute [local irreducible] bT bX bY dw bZ qv dR mf PrP qOk zOk vP dQ lz vF cq rqv eY bW dL dh gD jn sq aO qS zS tS tbS plS mdS
theorem zM{K:Nat}{v:Vl}(h:Sh K v)(hK:K≤100000)(hb:(tS v).length≤10000000000):ah prog 33 [.agg (vlA v)] (.v (str (tS v))):=by
 cases h with
 |num x h=>
  rw[xq];have c:=adU h hK;refine ah.fnF func33 results33 ntmps33 rfl rfl rfl (by simp[AV.ids,AV0.ids,Atom.ids]) rfl (fun w0 T B E0 hB=>?_)
  refine SX.goM ?_;exact lT rfl
 |mat r c vs hl hr hc h=>
  rw[mY]at hb ⊢;have hm:=Nat.mul_le_mul hr hc;have ml:(eF r c vs).a.length=vs.length:=zq5 _;have cT:=aau (vs.map qS) (.sat (dP 55 [] [.sat (bJ (vlK (eF r c vs)))])) rfl (by rw[zq5];exact hl) hr hc hb (fun i s hs=>by
   rw[List.getElem?_map]at hs
   obtain⟨x,hx,rfl⟩:=Option.map_eq_some_iff.1 hs;have cc:=apb (h x (zq4 hx)) hK;rw[iU]at cc;exact FnV.clo (amI (eF r c vs) (x:=cq x) (by show ((vs.map cq).map rq)[i]? =_;rw[List.getElem?_map,List.getElem?_map,hx];rfl) (by rw[ml];omega) cc))
  refine ah.fnF func33 results33 ntmps33 rfl rfl rfl (by simp[AV.ids,AV0.ids,Atom.ids]) rfl (fun w0 T B E0 hB=>?_)
  refine SX.goM ?_;refine SX.WP.eP 1 hB rfl rfl ?_;refine SX.WP.aF ?_;refine SX.goM ?_;exact lT rfl
 |pol zs hl hn h=>
  rw[wO]at hb ⊢;have ml:(iO zs).po.length=zs.length:=zq5 _;have hb2:(jn 44 (zs.map zS)).length≤100000000000:=by
   unfold plS at hb;simp only[List.length_append]at hb;omega
  have cT:=acr (zs.map zS) (.sat (dP 57 [] [.sat (bJ (vlK (iO zs)))])) rfl (by rw[zq5];exact hl) hb2 (fun i s hs=>by
   rw[List.getElem?_map]at hs
   obtain⟨x,hx,rfl⟩:=Option.map_eq_some_iff.1 hs;have cc:=apP (h x (zq4 hx)) hK;rw[mX]at cc;exact FnV.clo (amS (iO zs) (x:=cz x) (by show ((zs.map cz).map rz)[i]? =_;rw[List.getElem?_map,List.getElem?_map,hx];rfl) (by rw[ml];omega) cc))
  have e1:(zs.map zS).length=((iO zs).po.map rz).length:=by rw[zq5,zq5,ml]
  rw[e1]at cT;refine ah.fnF func33 results33 ntmps33 rfl rfl rfl (by simp[AV.ids,AV0.ids,Atom.ids]) rfl (fun w0 T B E0 hB=>?_)
  refine SX.goM ?_;refine SX.WP.eP 1 hB rfl rfl ?_;refine SX.WP.aF ?_;refine SX.goM ?_;exact lT rfl
 |fld p r c l hp hl hr hc h=>
  rw[wP]at hb ⊢;have hm:=Nat.mul_le_mul hr hc;have hpb:=hp.wb;have hd:=aj5 hpb;rw[bB]at hpb;have hb2:(tbS r c (l.map aO)).length≤10000000000:=by
   unfold mdS at hb;simp only[List.length_append]at hb;omega
  have cT:=aau (l.map aO) (.sat (dP 59 [] [.sat (bJ (vlK (kS p r c l)))])) rfl (by rw[zq5];exact hl) hr hc hb2 (fun i s hs=>by
   rw[List.getElem?_map]at hs
   obtain⟨x,hx,rfl⟩:=Option.map_eq_some_iff.1 hs;have hxp:=h x (zq4 hx);exact FnV.clo (amA (kS p r c l) hx (by omega) (by show l.length≤_;omega)))
  have cM:=ae6 (kS p r c l) hpb (tbS r c (l.map aO)) hb2 (by show (aO p).length≤_;omega)
  refine ah.fnF func33 results33 ntmps33 rfl rfl rfl (by simp[AV.ids,AV0.ids,Atom.ids]) rfl (fun w0 T B E0 hB=>?_)
  refine SX.goM ?_;refine SX.WP.eP 1 hB rfl rfl ?_;refine SX.WP.aao (by kernel_rfl) ?_
  refine SX.goM ?_;exact lT rfl
 |rng p l hp hl hn h=>
  rw[wz]at hb ⊢;have hpb:=hp.wb;have hd:=aj5 hpb;rw[bB]at hpb;have hb2:(plS (l.map aO)).length≤10000000000:=by
   unfold mdS at hb;simp only[List.length_append]at hb;omega
  have hb3:(jn 44 (l.map aO)).length≤100000000000:=by
   unfold plS at hb2;simp only[List.length_append]at hb2;omega
  have cT:=acr (l.map aO) (.sat (dP 61 [] [.sat (bJ (vlK (lu p l)))])) rfl (by rw[zq5];exact hl) hb3 (fun i s hs=>by
   rw[List.getElem?_map]at hs
   obtain⟨x,hx,rfl⟩:=Option.map_eq_some_iff.1 hs;have hxp:=h x (zq4 hx);exact FnV.clo (aoU (lu p l) hx (by omega) (by show l.length≤_;omega)))
  have e1:(l.map aO).length=(lu p l).ri.length:=zq5 _;rw[e1]at cT;have cM:=ae6 (lu p l) hpb (plS (l.map aO)) hb2 (by show (aO p).length≤_;omega)
  refine ah.fnF func33 results33 ntmps33 rfl rfl rfl (by simp[AV.ids,AV0.ids,Atom.ids]) rfl (fun w0 T B E0 hB=>?_)
  refine SX.goM ?_;refine SX.WP.eP 1 hB rfl rfl ?_;refine SX.WP.aao (by kernel_rfl) ?_
  refine SX.goM ?_;exact lT rfl
theorem akX(l:List Vl)(hl:l.length≤10000)(hb:(jn 44 (l.map tS)).length≤10000000000)(hx:∀x∈l,ah prog 33 [.agg (vlA x)] (.v (str (tS x)))):ah prog 33 [.agg (vlA (kG l))] (.v (str (123::(jn 44 (l.map tS)++[125])))):=by
 have hml:(l.map tS).length=l.length:=zq5 _;have ml:(kG l).li.length=l.length:=rfl;have cJ:=uo 44 (l.map tS) (by omega) (by omega)
 rw[aaR hml]at cJ;rw[ac3];refine ah.fnF func33 results33 ntmps33 rfl rfl rfl (by simp[AV.ids,AV0.ids,Atom.ids]) rfl (fun w0 T B E0 hB=>?_)
 refine SX.goM ?_;refine W.loop (fun k=>k≤l.length) (fun k=>[(3,.own 100),(52,.r (aA 15 vlE (kG l).li)),(53,.v (.int .i64 (l.length:Int))),(54,.v (.int .i64 (k:Int)))]) (fun k=>[(100,.row 9 1 k (((l.map tS).take k).flatMap txC))]) (fun k=>l.length - k) 0 (Nat.zero_le _) (fun k hk=>?_)
  (by
   refine SX.St.aY [(100,none)] (by intro b h;cases h) ?_ ?_ rfl
   ·repeat(first|exact trivial|refine⟨⟨_,rfl,SX.aG.same rfl⟩,?_⟩|refine⟨⟨_,rfl,SX.aG.nil rfl⟩,?_⟩)
   ·exact⟨SX.ay.bV rfl,trivial⟩)
 by_cases h:k < l.length
 ·obtain⟨x,hx'⟩:∃x,l[k]? =some x:=⟨_,zq2 h⟩
  have hx2:(kG l).li[k]? =some x:=hx';have c:=hx x (zq4 hx');have hs:(l.map tS)[k]? =some (tS x):=by rw[List.getElem?_map,hx'];rfl
  refine SX.goM ?_;refine W.next (k+1) h (by omega) (by
   refine SX.St.aY [(100,some 62)] (by intro b h;cases h) ?_ ?_ rfl
   ·repeat(first|exact trivial|refine⟨⟨_,rfl,SX.aG.same rfl⟩,?_⟩|refine⟨⟨_,rfl,SX.aG.own rfl⟩,?_⟩)
   ·exact⟨SX.ay.row rfl rfl rfl (zw hs),trivial⟩)
 ·obtain rfl:k=l.length:=by omega
  rw[List.take_of_length_le (by omega:(l.map tS).length≤l.length)]
  refine SX.WP.freeze 100 hB rfl ?_;refine SX.goM ?_;refine lT ?_;simp
theorem amu:∀{K:Nat} (n:Nat) {v:Vl},Cv K n v→K≤100000→(tS v).length≤10000000000→ah prog 33 [.agg (vlA v)] (.v (str (tS v))):=by
 intro K n
 induction n with
 |zero=>
  intro v hv hK hb;cases hv with
  |one h=>exact zM h hK hb
 |succ n ih=>
  intro v hv hK hb;cases hv with
  |one h=>exact zM h hK hb
  |lst l hl h=>
   rw[sW]at hb ⊢;rw[List.length_cons,List.length_append]at hb;exact akX l hl (by omega) fun x hx=>ih (h x hx) hK (by
    have:=agE 44 (List.mem_map_of_mem (f:=tS) hx);omega)
end
end
end Go.Proofs.YtegehclknhmkgaaGreatDoor