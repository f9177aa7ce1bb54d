import Derived.Test.YtmgfiodmdfaclaaGreatDoorA17
set_option linter.unusedVariables false
set_option linter.unusedSimpArgs false
namespace Go.Proofs.YtmgfiodmdfaclaaGreatDoor
open Go.RowKit QM SX LA
theorem as6(z:Int):zOk (cz z)=true:=(zA (aiM z)).2 (by rw[mX])
theorem aoK{zs:List Int}:lz (zs.map cz)=true↔pN zs:=by
 unfold lz pN;rw[Bool.or_eq_true,decide_eq_true_iff,decide_eq_true_iff,List.length_map];by_cases h:zs.length=0
 ·exact⟨fun _=> .inl h,fun _=> .inl h⟩
 ·have e:rzv ((zs.map cz).getD (zs.length - 1) (false,[]))=zs.getD (zs.length - 1) 0:=by
   rw[List.getD_eq_getElem?_getD,List.getD_eq_getElem?_getD,List.getElem?_map,List.getElem?_eq_getElem (show zs.length - 1 < zs.length by omega)]
   exact mX _
  rw[e]
theorem amm{l:List Nat}:lw l=true↔wN l:=by
 unfold lw wN;rw[Bool.or_eq_true,decide_eq_true_iff,decide_eq_true_iff]
theorem zI{p:Nat}{l:List Nat}:l.all (ltp p)=true↔∀x∈l,x < p:=by
 rw[List.all_eq_true];exact⟨fun h x hx=>of_decide_eq_true (h x hx),fun h x hx=>decide_eq_true (h x hx)⟩
theorem ar5(zs:List Int):vP (iW zs)=0:=(vP0 _).2 ⟨.inr ⟨rfl,rfl,rfl,rfl⟩,.inr ⟨rfl,rfl,rfl⟩,.inl rfl,.inr ⟨rfl,rfl,rfl⟩,.inr rfl,.inr (.inr rfl),.inr rfl⟩
theorem ar1(p r c:Nat)(l:List Nat):vP (lI p r c l)=0:=(vP0 _).2 ⟨.inr ⟨rfl,rfl,rfl,rfl⟩,.inr ⟨rfl,rfl,rfl⟩,.inr rfl,.inl rfl,.inr rfl,.inl rfl,.inr rfl⟩
theorem arD(p:Nat)(l:List Nat):vP (lN p l)=0:=(vP0 _).2 ⟨.inr ⟨rfl,rfl,rfl,rfl⟩,.inr ⟨rfl,rfl,rfl⟩,.inr rfl,.inr ⟨rfl,rfl,rfl⟩,.inl rfl,.inr (.inl rfl),.inr rfl⟩
theorem arY(l:List Vl):vP (kG l)=0:=(vP0 _).2 ⟨.inr ⟨rfl,rfl,rfl,rfl⟩,.inr ⟨rfl,rfl,rfl⟩,.inr rfl,.inr ⟨rfl,rfl,rfl⟩,.inr rfl,.inr (.inr rfl),.inl rfl⟩
theorem adI:(Sm WB rq0.2.1∧Sm WB rq0.2.2.2)∧rq0.2.1.length≤100000∧rq0.2.2.2.length≤100000:=⟨⟨Sm.nil,Sm.nil⟩,Nat.zero_le _,Nat.zero_le _⟩
theorem bR{α:Type}{p:α→Prop}:∀x∈([]:List α),p x:=fun x hx=>by cases hx
theorem aps{zs:List Int}{K:Nat}(h:∀z∈zs,z.natAbs < WB ^ K)(hK:K≤100000)(hl:zs.length≤100000):vZ0 (iW zs) where
 q:=adI
 a:=bR
 al:=Nat.zero_le _
 po:=fun x hx=>by obtain⟨z,hz,rfl⟩:=List.mem_map.1 hx;exact⟨aiM z,Nat.le_trans (lZ (h z hz)) hK⟩
 pol:=by rw[List.length_map];exact hl
 p:=aY
 fa:=bR
 fal:=Nat.zero_le _
 ri:=bR
 ril:=Nat.zero_le _
 lil:=Nat.zero_le _
theorem PrP.wb{p:Nat}(h:PrP p):p < WB:=by have:=h.2.1;rw[aX];omega
theorem aqr{p r c:Nat}{l:List Nat}(hp:PrP p)(h:∀x∈l,x < p)(hl:l.length≤100000):vZ0 (lI p r c l) where
 q:=adI
 a:=bR
 al:=Nat.zero_le _
 po:=bR
 pol:=Nat.zero_le _
 p:=hp.wb
 fa:=fun x hx=>Nat.lt_trans (h x hx) hp.wb
 fal:=hl
 ri:=bR
 ril:=Nat.zero_le _
 lil:=Nat.zero_le _
theorem aqp{p:Nat}{l:List Nat}(hp:PrP p)(h:∀x∈l,x < p)(hl:l.length≤100000):vZ0 (lN p l) where
 q:=adI
 a:=bR
 al:=Nat.zero_le _
 po:=bR
 pol:=Nat.zero_le _
 p:=hp.wb
 fa:=bR
 fal:=Nat.zero_le _
 ri:=fun x hx=>Nat.lt_trans (h x hx) hp.wb
 ril:=hl
 lil:=Nat.zero_le _
theorem aq1{l:List Vl}(hl:l.length≤100000):vZ0 (kG l) where
 q:=adI
 a:=bR
 al:=Nat.zero_le _
 po:=bR
 pol:=Nat.zero_le _
 p:=aY
 fa:=bR
 fal:=Nat.zero_le _
 ri:=bR
 ril:=Nat.zero_le _
 lil:=hl
theorem Sh.z{K:Nat}{v:Vl}(h:Sh K v)(hK:K≤100000):vZ0 v∧v.li=[]:=by
 cases h with
 |num x h=>exact⟨vZ0.num h hK,rfl⟩
 |mat r c vs hl hr hc h=>exact⟨vZ0.mat h hK (by have:=Nat.mul_le_mul hr hc;omega),rfl⟩
 |pol zs hl hn h=>exact⟨aps h hK (by omega),rfl⟩
 |fld p r c l hp hl hr hc h=>exact⟨aqr hp h (by have:=Nat.mul_le_mul hr hc;omega),rfl⟩
 |rng p l hp hl hn h=>exact⟨aqp hp h (by omega),rfl⟩
theorem Sh.f{K:Nat}{v:Vl}(h:Sh K v)(d:Nat):vF d v=true:=by
 cases h with
 |num x h=>exact ahj d x
 |mat r c vs hl hr hc h=>exact asA d hl hr hc
 |pol zs hl hn h=>
  rw[vF_3 (ar5 zs) rfl];unfold pOk;rw[Bool.and_eq_true];exact⟨List.all_eq_true.2 fun x hx=>by obtain⟨z,_,rfl⟩:=List.mem_map.1 hx;exact as6 z,aoK.2 hn⟩
 |fld p r c l hp hl hr hc h=>
  rw[vF_4 (ar1 p r c l) rfl];unfold fOk;rw[Bool.and_eq_true,Bool.and_eq_true];exact⟨decide_eq_true hp,zI.2 h,aac hr hc hl⟩
 |rng p l hp hl hn h=>
  rw[vF_5 (arD p l) rfl];unfold rOk;rw[Bool.and_eq_true,Bool.and_eq_true];exact⟨decide_eq_true hp,zI.2 h,amm.2 hn⟩
theorem Sh.zz{K:Nat}{v:Vl}(h:Sh K v)(hK:K≤100000):∀n,vZ n v
 |0=>h.z hK
 |n+1=>⟨(h.z hK).1,by rw[(h.z hK).2];exact bR⟩
theorem Cv.z{K:Nat}(hK:K≤100000):∀{n:Nat} {v:Vl},Cv K n v→vZ n v:=by
 intro n
 induction n with
 |zero=>
  intro v h;cases h with
  |one h=>exact h.zz hK 0
 |succ n ih=>
  intro v h;cases h with
  |one h=>exact h.zz hK _
  |lst l hl h=>exact⟨aq1 (by omega),fun x hx=>ih (h x hx)⟩
theorem Cv.f{K:Nat}:∀{n:Nat} {v:Vl},Cv K n v→∀d,n < d→vF d v=true:=by
 intro n
 induction n with
 |zero=>
  intro v h d hd;cases h with
  |one h=>exact h.f d
 |succ n ih=>
  intro v h d hd;cases h with
  |one h=>exact h.f d
  |lst l hl h=>
   obtain⟨e,rfl⟩:∃e,d=e+1:=⟨d - 1,by omega⟩
   rw[vF_6 (arY l) rfl];exact List.all_eq_true.2 fun x hx=>ih (h x hx) e (by omega)
theorem abw{α β:Type}{f:α→β}{g:β→α}:∀(l:List β),(∀x∈l,x=f (g x))→l=(l.map g).map f
 |[],_=>rfl
 |x::l,h=>by rw[List.map_cons,List.map_cons,←h x (List.mem_cons_self ..),←abw l fun y hy=>h y (List.mem_cons_of_mem _ hy)]
theorem aqQ{q:gy}(hs:Sm WB q.2.1∧Sm WB q.2.2.2)(h:q.2.1.length≤2∧q.2.2.2.length≤2):RB (rqv q) 2:=Ra.rb (Ra.rawq hs h) (by decide)
theorem ant{α:Type}{l:List α}(h:l.length=0):l=[]:=List.eq_nil_of_length_eq_zero h
theorem acF{d e:Nat}{v:Vl}(hw:vW1 d v)(hr:rW v)(hf:vF e v=true):Sh 2 v∨(v=kG v.li∧∃e',e=e'+1∧∀x∈v.li,vF e' x=true):=by
 by_cases hP:vP v=0
 rotate_left
 ·rw[vF_P hP]at hf;cases hf
 have h0:=(vP0 v).1 hP;obtain⟨w1,w2,w3,w4,w5,w6,w7,w8⟩:=hw;obtain⟨r1,r2,r3,r4,r5,r6,r7⟩:=(aaT v).1 hr;have hk:v.k=1∨v.k=2∨v.k=3∨v.k=4∨v.k=5∨v.k=6∨(v.k≠1∧v.k≠2∧v.k≠3∧v.k≠4∧v.k≠5∧v.k≠6):=by omega
 have q0:v.k≠1→v.q=rq0:=fun h=>(adt _).2 (h0.1.resolve_left h)
 have m0:v.k≠2→v.r=0∧v.c=0∧v.a=[]:=fun h=>by have:=h0.2.1.resolve_left h;exact⟨this.1,this.2.1,ant this.2.2⟩
 have p0:v.k≠3→v.po=[]:=fun h=>ant (h0.2.2.1.resolve_left h)
 have f0:v.k≠4→v.fr=0∧v.fc=0∧v.fa=[]:=fun h=>by have:=h0.2.2.2.1.resolve_left h;exact⟨this.1,this.2.1,ant this.2.2⟩
 have i0:v.k≠5→v.ri=[]:=fun h=>ant (h0.2.2.2.2.1.resolve_left h)
 have P0:v.k≠4→v.k≠5→v.p=0:=fun h h'=>(h0.2.2.2.2.2.1.resolve_left h).resolve_left h'
 have l0:v.k≠6→v.li=[]:=fun h=>ant (h0.2.2.2.2.2.2.resolve_left h)
 clear h0;rcases hk with hk|hk|hk|hk|hk|hk|hk
 ·rw[vF_1 hP hk]at hf;have e1:=(zU r1).1 hf;obtain⟨m1,m2,m3⟩:=m0 (by omega);obtain⟨f1,f2,f3⟩:=f0 (by omega)
  have p1:=p0 (by omega);have i1:=i0 (by omega);have P1:=P0 (by omega) (by omega);have l1:=l0 (by omega)
  have rb:=aqQ r1 w6;obtain⟨k,q,r,c,a,po,p,fr,fc,fa,ri,li⟩:=v
  dsimp only at*
  subst hk m1 m2 m3 f1 f2 f3 p1 i1 P1 l1;rw[e1];exact .inl (.num _ rb)
 ·rw[vF_2 hP hk]at hf;unfold mOk at hf;rw[Bool.and_eq_true]at hf;have e1:∀x∈v.a,x=cq (rqv x):=fun x hx=>(zU (r2 x hx)).1 (List.all_eq_true.1 hf.1 x hx)
  have e2:=of_decide_eq_true hf.2;have rb:∀y∈v.a.map rqv,RB y 2:=fun y hy=>by
   obtain⟨x,hx,rfl⟩:=List.mem_map.1 hy;exact aqQ (r2 x hx) (adS.len (w:=2) w7 x hx)
  have q1:=q0 (by omega);obtain⟨f1,f2,f3⟩:=f0 (by omega)
  have p1:=p0 (by omega);have i1:=i0 (by omega);have P1:=P0 (by omega) (by omega);have l1:=l0 (by omega)
  obtain⟨k,q,r,c,a,po,p,fr,fc,fa,ri,li⟩:=v
  dsimp only at*
  subst hk q1 f1 f2 f3 p1 i1 P1 l1;obtain⟨n,rfl⟩:∃n:Nat,r=n:=⟨r.toNat,by omega⟩
  obtain⟨m,rfl⟩:∃m:Nat,c=m:=⟨c.toNat,by omega⟩
  have e3:=abw (f:=cq) (g:=rqv) a e1;have e4:(a.map rqv).length=n*m:=by rw[List.length_map];have:=e2.2.2.2.2;rw[←Int.natCast_mul]at this;omega
  have:=Sh.mat n m (a.map rqv) e4 (by omega) (by omega) rb
  unfold gP at this;rw[←e3]at this;exact .inl this
 ·rw[vF_3 hP hk]at hf;unfold pOk at hf;rw[Bool.and_eq_true]at hf;have e1:∀x∈v.po,x=cz (rzv x):=fun x hx=>(zA (r3 x hx)).1 (List.all_eq_true.1 hf.1 x hx)
  have rb:∀y∈v.po.map rzv,y.natAbs < WB ^ 2:=fun y hy=>by
   obtain⟨x,hx,rfl⟩:=List.mem_map.1 hy;exact(ZQ.raw (b:=x.1) (r3 x hx) (w1.2 x hx)).b
  have q1:=q0 (by omega);obtain⟨f1,f2,f3⟩:=f0 (by omega);obtain⟨m1,m2,m3⟩:=m0 (by omega)
  have i1:=i0 (by omega);have P1:=P0 (by omega) (by omega);have l1:=l0 (by omega)
  obtain⟨k,q,r,c,a,po,p,fr,fc,fa,ri,li⟩:=v
  dsimp only at*
  subst hk q1 f1 f2 f3 m1 m2 m3 i1 P1 l1;have e3:=abw (f:=cz) (g:=rzv) po e1;have e4:pN (po.map rzv):=aoK.1 (by rw[←e3];exact hf.2)
  have:=Sh.pol (po.map rzv) (by rw[List.length_map];omega) e4 rb
  unfold iW at this;rw[←e3]at this;exact .inl this
 ·rw[vF_4 hP hk]at hf;unfold fOk at hf;rw[Bool.and_eq_true,Bool.and_eq_true,decide_eq_true_iff,zI]at hf;have e2:=of_decide_eq_true hf.2.2;have q1:=q0 (by omega);obtain⟨m1,m2,m3⟩:=m0 (by omega)
  have p1:=p0 (by omega);have i1:=i0 (by omega);have l1:=l0 (by omega)
  obtain⟨k,q,r,c,a,po,p,fr,fc,fa,ri,li⟩:=v
  dsimp only at*
  subst hk q1 m1 m2 m3 p1 i1 l1;obtain⟨n,rfl⟩:∃n:Nat,fr=n:=⟨fr.toNat,by omega⟩
  obtain⟨m,rfl⟩:∃m:Nat,fc=m:=⟨fc.toNat,by omega⟩
  have e4:fa.length=n*m:=by have:=e2.2.2.2.2;rw[←Int.natCast_mul]at this;omega
  exact .inl (.fld p n m fa hf.1 e4 (by omega) (by omega) hf.2.1)
 ·rw[vF_5 hP hk]at hf;unfold rOk at hf;rw[Bool.and_eq_true,Bool.and_eq_true,decide_eq_true_iff,zI,amm]at hf;have q1:=q0 (by omega);obtain⟨m1,m2,m3⟩:=m0 (by omega);obtain⟨f1,f2,f3⟩:=f0 (by omega)
  have p1:=p0 (by omega);have l1:=l0 (by omega)
  obtain⟨k,q,r,c,a,po,p,fr,fc,fa,ri,li⟩:=v
  dsimp only at*
  subst hk q1 m1 m2 m3 f1 f2 f3 p1 l1;exact .inl (.rng p ri hf.1 (by omega) hf.2.2 hf.2.1)
 ·have q1:=q0 (by omega);obtain⟨m1,m2,m3⟩:=m0 (by omega);obtain⟨f1,f2,f3⟩:=f0 (by omega)
  have p1:=p0 (by omega);have i1:=i0 (by omega);have P1:=P0 (by omega) (by omega)
  cases e with
  |zero=>rw[an4 hk]at hf;cases hf
  |succ e=>
   rw[vF_6 hP hk,List.all_eq_true]at hf;obtain⟨k,q,r,c,a,po,p,fr,fc,fa,ri,li⟩:=v
   dsimp only at*
   subst hk q1 m1 m2 m3 f1 f2 f3 p1 i1 P1;exact .inr ⟨rfl,e,rfl,hf⟩
 ·rw[vF_7 hk]at hf;cases hf
theorem Cv.of:∀{d e:Nat} {v:Vl},vW d v→rW v→vF e v=true→Cv 2 (d+1) v:=by
 intro d
 induction d with
 |zero=>
  intro e v h hr hf;rcases acF h.one hr hf with h1|⟨h1,e',he,h2⟩
  ·exact .one h1
  ·rw[h1];exact .lst v.li (by rw[h.2];exact Nat.zero_le _) (by rw[h.2];exact bR)
 |succ d ih=>
  intro e v h hr hf;rcases acF h.one hr hf with h1|⟨h1,e',he,h2⟩
  ·exact .one h1
  ·rw[h1];exact .lst v.li (by have:=h.one.2.2.1;omega) fun x hx=>ih (h.2 x hx) (((aaT v).1 hr).2.2.2.2.2.2 x hx) (h2 x hx)
attribute [local irreducible] IntKind.wrap Go1 Reg WP aQ aR bO bN aN aB aj ah aV Sat
attribute [local irreducible] bS bV bX dx bW qv redS mf PrP qOk zOk vP dL lz vF cq rqv fC dn
theorem Cv.F{K n:Nat}{v:Vl}(h:Cv K n v)(hK:K≤100000)(hn:n≤15):PureOK Tryz.prog 27 [.agg (vlA v)] (.v (.bool true)):=by
 have c:=nH (h.z hK)
 rwa [h.f 20 (by omega)]at c
theorem an9{K L n m:Nat}{u v:Vl}(hu:Cv K n u)(hv:Cv L m v)(hK:K+L≤100000)(hn:n≤15)(hm:m≤15):PureOK Tryz.prog 10 [.agg (vlA u),.agg (vlA v)] (.v (.bool (j6 u v))):=by
 have c:=ae3 hK n m u v hu hv;have c1:=hu.F (by omega) hn
 have c2:=hv.F (by omega) hm
 refine PureOK.fnF Tryz.func10 Tryz.results10 Tryz.ntmps10 rfl rfl rfl (by simp[AV.ids,AV0.ids,Atom.ids]) rfl (fun w0 T B E0 hB=>?_)
 refine SX.goM ?_;exact aG rfl
end Go.Proofs.YtmgfiodmdfaclaaGreatDoor
set_option linter.unusedSectionVars false
namespace Go.Proofs.YtmgfiodmdfaclaaGreatDoor
open Go.RowKit QM SX LA
section
section
def jn(s:UInt8):List (List UInt8)→List UInt8
 |[]=>[]
 |[a]=>a
 |a::b::l=>a++(s::32::jn s (b::l))
def chk{α:Type}(c:Nat):Nat→List α→List (List α)
 |0,_=>[]
 |r+1,l=>l.take c::chk c r (l.drop c)
def tbS(r c:Nat)(l:List (List UInt8)):List UInt8:=
 if r=0∨c=0 then [122,101,114,111,40]++(aH r++([44,32]++(aH c++[41])))else 91::(jn 59 ((chk c r l).map (jn 44))++[93])
def plS(l:List (List UInt8)):List UInt8:=[112,111,108,121,40]++(jn 44 l++[41])
def mdS(s:List UInt8)(p:Nat):List UInt8:=[109,111,100,40]++(s++([44,32]++(aH p++[41])))
mutual
def tS:Vl→List UInt8
 |⟨k,q,r,c,a,po,p,fr,fc,fa,ri,li⟩=>
  if k=1 then qS (rqv q)else if k=2 then tbS r.toNat c.toNat (a.map fun x=>qS (rqv x))else if k=3 then plS (po.map fun x=>zS (rzv x))
  else if k=4 then mdS (tbS fr.toNat fc.toNat (fa.map aH)) p else if k=5 then mdS (plS (ri.map aH)) p else 123::(jn 44 (tL li)++[125])
def tL:List Vl→List (List UInt8)
 |[]=>[]
 |v::l=>tS v::tL l
end
theorem arl:∀l:List Vl,tL l=l.map tS
 |[]=>by rw[tL];rfl
 |v::l=>by rw[tL,arl l];rfl
theorem uL(x:Rat):tS (eF x)=qS x:=by
 show tS ⟨1,cq x,0,0,[],[],0,0,0,[],[],[]⟩=_;rw[tS,if_pos rfl,iM]
theorem oh(r c:Nat)(vs:List Rat):tS (gP r c vs)=tbS r c (vs.map qS):=by
 show tS ⟨2,rq0,(r:Int),(c:Int),vs.map cq,[],0,0,0,[],[],[]⟩=_;rw[tS,if_neg (by decide),if_pos rfl,List.map_map,Int.toNat_natCast,Int.toNat_natCast,show (fun x=>qS (rqv x)) ∘ cq=qS from funext fun x=>congrArg qS (iM x)]
theorem uT(zs:List Int):tS (iW zs)=plS (zs.map zS):=by
 show tS ⟨3,rq0,0,0,[],zs.map cz,0,0,0,[],[],[]⟩=_;rw[tS,if_neg (by decide),if_neg (by decide),if_pos rfl,List.map_map,show (fun x=>zS (rzv x)) ∘ cz=zS from funext fun x=>congrArg zS (mX x)]
theorem uy(p r c:Nat)(l:List Nat):tS (lI p r c l)=mdS (tbS r c (l.map aH)) p:=by
 show tS ⟨4,rq0,0,0,[],[],p,(r:Int),(c:Int),l,[],[]⟩=_;rw[tS,if_neg (by decide),if_neg (by decide),if_neg (by decide),if_pos rfl,Int.toNat_natCast,Int.toNat_natCast]
theorem u7(p:Nat)(l:List Nat):tS (lN p l)=mdS (plS (l.map aH)) p:=by
 show tS ⟨5,rq0,0,0,[],[],p,0,0,[],l,[]⟩=_;rw[tS,if_neg (by decide),if_neg (by decide),if_neg (by decide),if_neg (by decide),if_pos rfl]
theorem rM(l:List Vl):tS (kG l)=123::(jn 44 (l.map tS)++[125]):=by
 show tS ⟨6,rq0,0,0,[],[],0,0,0,[],[],l⟩=_;rw[tS,if_neg (by decide),if_neg (by decide),if_neg (by decide),if_neg (by decide),if_neg (by decide),arl]
def dgc(c:UInt8):Prop:=48≤c.toNat∧c.toNat≤57
theorem dg_of{d:Nat}(h:d < 10):dgc (UInt8.ofNat (48+d))∧(UInt8.ofNat (48+d)).toNat=48+d:=by
 have:(UInt8.ofNat (48+d)).toNat=48+d:=by rw[UInt8.toNat_ofNat'];omega
 unfold dgc;omega
theorem as7:∀(n x:Nat),x≤n→∀c∈dig x,dgc c:=by
 intro n
 induction n with
 |zero=>intro x hx c hc;rw[show x=0 by omega,jT]at hc;cases hc
 |succ n ih=>
  intro x hx c hc;by_cases h0:x=0
  ·rw[h0,jT]at hc;cases hc
  ·rw[oI h0,List.mem_append,List.mem_singleton]at hc;rcases hc with hc|rfl
   ·exact ih (x / 10) (by omega) c hc
   ·exact(dg_of (Nat.mod_lt x (by decide))).1
theorem adg(x:Nat):∀c∈aH x,dgc c:=by
 intro c hc;unfold aH at hc
 split at hc
 ·rw[List.mem_singleton]at hc;subst hc;unfold dgc;decide
 ·exact as7 x x (Nat.le_refl _) c hc
theorem ajj(x:Nat):∃c m,aH x=c::m∧dgc c:=by
 cases h:aH x with
 |nil=>
  unfold aH at h
  split at h
  ·cases h
  ·next h0=>exact absurd h (agX h0)
 |cons c m=>exact⟨c,m,rfl,adg x c (by rw[h];exact List.mem_cons_self ..)⟩
theorem zS_ch(z:Int):∀c∈zS z,c=45∨dgc c:=by
 intro c hc;unfold zS at hc
 split at hc
 ·rw[List.mem_cons]at hc;exact hc.imp id (adg _ c)
 ·exact .inr (adg _ c hc)
theorem ara(z:Int):∃c m,zS z=c::m∧(c=45∨dgc c):=by
 cases h:zS z with
 |nil=>
  unfold zS at h
  split at h
  ·cases h
  ·obtain⟨c,m,e,_⟩:=ajj z.natAbs;rw[e]at h;cases h
 |cons c m=>exact⟨c,m,rfl,zS_ch z c (by rw[h];exact List.mem_cons_self ..)⟩
theorem qa9(x:Rat):qS x=if x.den=1 then zS x.num else zS x.num++47::zS (x.den:Int):=by
 unfold qS rS
 dsimp only
 by_cases h:x.den=1
 ·rw[if_pos (show (x.den:Int)=1 by omega),if_pos h]
 ·rw[if_neg (show¬(x.den:Int)=1 by omega),if_neg h,List.append_assoc];rfl
theorem qS_ne(x:Rat):∃c m,qS x=c::m∧(c=45∨dgc c):=by
 obtain⟨c,m,e,h⟩:=ara x.num;rw[qa9,e]
 split
 ·exact⟨c,m,rfl,h⟩
 ·exact⟨c,_,rfl,h⟩
def Tm(r:List UInt8):Prop:=∀c m,r=c::m→c=44∨c=59∨c=93∨c=41∨c=125
def Tell{α:Type}(A:α→Prop)(T:List UInt8→Prop)(f:α→List UInt8):Prop:=∀x y,A x→A y→∀r s,T r→T s→f x++r=f y++s→x=y∧r=s
section
variable{α:Type}{f:α→List UInt8}(hf:Tell (fun _=>True) Tm f)(hn:∀x,∃c m,f x=c::m∧(c=45∨dgc c))
include hf hn
end
def kd(v:Vl)(d:UInt8):Prop:=(v.k=1∧(d=45∨dgc d))∨(v.k=2∧(d=122∨d=91))∨(v.k=3∧d=112)∨(v.k=4∧d=109)∨(v.k=5∧d=109)∨(v.k=6∧d=123)
end
section
abbrev mq(vs:List Rat):List Q4:=(vs.map cq).map rq
abbrev mz(zs:List Int):List Z2:=(zs.map cz).map rz
theorem agn(vs:List Rat):(mq vs).length=vs.length:=by rw[List.length_map,List.length_map]
theorem ahs(zs:List Int):(mz zs).length=zs.length:=by rw[List.length_map,List.length_map]
attribute [local irreducible] IntKind.wrap Go1 Reg WP aQ aR bO bN aN aB aj ah aV Sat
attribute [local irreducible] bS bV bX dx bW qv redS mf PrP qOk zOk vP dL lz vF cq rqv fC dn dI pScale
def mScale(r c:Nat)(vs:List Rat)(x:Rat):List Rat:=mF c (fun i k=>vat vs c i k*x) r
theorem anf{x:Rat}{K:Nat}(hx:RB x K)(hK:K≤100000):PureOK Tryz.prog 237 [.agg (vlA (eF x))] (.tup [.agg (vlA (eF (-x))),eNo 0]):=by
 haveI:=Ra.cq hx
 obtain⟨X,cA,hX⟩:=eNeg (q4A (rq (cq x))) (K:=K) (by omega)
 have e:=hX.nf;subst e;have cN:=aad (-x) 0;refine PureOK.fnF Tryz.func237 Tryz.results237 Tryz.ntmps237 rfl rfl rfl (by simp[AV.ids,AV0.ids,Atom.ids]) rfl (fun w0 T B E0 hB=>?_)
 refine SX.goM ?_;refine .ok (aB.mk2 (aj.fD rfl rfl rfl) (aj.tmp rfl))
theorem aq3{x:Rat}{K:Nat}(hx:RB x K)(hK:K≤100000):PureOK Tryz.prog 180 [.agg (q4A (rq (cq x)))] (.tup [.agg (zN (if x.den=1 then x.num else 0)),.one (.c (.val (.bool (decide (x.den=1)))))]):=by
 have hl:=(vZ0.num hx hK).q.2
 dsimp only at hl
 have h:=(uq (h:=ZI.raw (cq x).1 (cq x).2.1) (h':=ZI.raw (cq x).2.2.1 (cq x).2.2.2)).h (by omega)
 unfold rY at h;rw[ao9,ahS]at h;have e1:((x.den:Int)=1)↔x.den=1:=by omega
 simp only[e1]at h;exact h
section
variable{u v w:Vl}{e:Int}
variable(c1:PureOK Tryz.prog 27 [.agg (vlA u)] (.v (.bool true)))(c2:PureOK Tryz.prog 27 [.agg (vlA v)] (.v (.bool true)))
include c1 c2
theorem an7(c:PureOK Tryz.prog 254 [.agg (vlA u),.agg (vlA v)] (.tup [.agg (vlA w),eNo e])):PureOK Tryz.prog 216 [.v (.int .i64 7),.agg (vlA u),.agg (vlA v)] (.tup [.agg (vlA w),eNo e]):=by
 refine PureOK.fnF Tryz.func216 Tryz.results216 Tryz.ntmps216 rfl rfl rfl (by simp[AV.ids,AV0.ids,Atom.ids]) rfl (fun w0 T B E0 hB=>?_)
 refine SX.goM ?_;refine .ok (aB.mk2 (aj.fD rfl rfl rfl) (aj.tmp rfl))
theorem aoq{b:Bool}(c:PureOK Tryz.prog 28 [.agg (vlA u),.agg (vlA v)] (.v (.bool b))):PureOK Tryz.prog 216 [.v (.int .i64 9),.agg (vlA u),.agg (vlA v)] (.tup [.agg (vlA (eF (if b then 1 else 0))),eNo 0]):=by
 have t:=ajA b;refine PureOK.fnF Tryz.func216 Tryz.results216 Tryz.ntmps216 rfl rfl rfl (by simp[AV.ids,AV0.ids,Atom.ids]) rfl (fun w0 T B E0 hB=>?_)
 refine SX.goM ?_;refine .ok (aB.mk2 (aj.fD rfl rfl rfl) (aj.tmp rfl))
end
end
section
def mulV(i:Int):Vl→Vl
 |⟨k,q,r,c,a,po,p,fr,fc,fa,ri,li⟩=>if k=1 then eF (i*rqv q)else if k=2 then gP r.toNat c.toNat (mScale r.toNat c.toNat (a.map rqv) i)else iW (pScale (po.map rzv) i)
attribute [local irreducible] IntKind.wrap Go1 Reg WP aQ aR bO bN aN aB aj ah aV Sat
attribute [local irreducible] bS bV bX dx bW qv redS mf PrP qOk zOk vP dL lz vF cq rqv fC dn dI pScale
structure Muls(v:Vl)(k:Nat):Prop where
 a:PureOK Tryz.prog 253 [.agg (vlA (eF ((k:Int):Rat))),.agg (vlA v)] (.tup [.agg (vlA (mulV k v)),eNo 0])
 b:PureOK Tryz.prog 253 [.agg (vlA v),.agg (vlA (eF ((k:Int):Rat)))] (.tup [.agg (vlA (mulV k v)),eNo 0])
 h:∃(w:Vl) (e:Int),PureOK Tryz.prog 253 [.agg (vlA (eF (1 / 2))),.agg (vlA v)] (.tup [.agg (vlA w),eNo e])∧((v.k≠3∧e=0)∨(v.k=3∧e=5))
 d:PureOK Tryz.prog 257 [.agg (vlA v),.agg (vlA v)] (.tup [.agg (vlA (mulV 0 v)),eNo 0])
 s:∀i,i < k→PureOK Tryz.prog 256 [.agg (vlA (mulV (i:Int) v)),.agg (vlA v)] (.tup [.agg (vlA (mulV ((i+1:Nat):Int) v)),eNo 0])
 c:∀i,i≤k→Cv 4 0 (mulV (i:Int) v)
 kk:∀i,(mulV i v).k=v.k
end
section
def txC(s:List UInt8):List CA:=[.val (str s)]
instance:dU txC 1:=⟨fun _=>rfl⟩
theorem ahT(s:UInt8):∀(l:List (List UInt8)) (x:List UInt8),l≠[]→jn s (l++[x])=jn s l++[s,32]++x
 |[],x,h=>absurd rfl h
 |[a],x,_=>by show a++(s::32::x)=_;simp[jn]
 |a::b::l,x,_=>by
  show a++(s::32::jn s (b::l++[x]))=(a++(s::32::jn s (b::l)))++[s,32]++x;rw[ahT s (b::l) x (by simp)]
  simp[List.append_assoc]
theorem aqb(s:UInt8)(l:List (List UInt8))(k:Nat):(jn s (l.take k)).length≤(jn s l).length:=by
 induction l generalizing k with
 |nil=>simp
 |cons a l ih=>
  cases k with
  |zero=>exact Nat.zero_le _
  |succ k=>
   cases l with
   |nil=>simp
   |cons b l=>
    cases k with
    |zero=>show a.length≤(a++_).length;rw[List.length_append];omega
    |succ k=>
     have:=ih (k+1);show (a++(s::32::jn s ((b::l).take (k+1)))).length≤(a++(s::32::jn s (b::l))).length;rw[List.length_append,List.length_append,List.length_cons,List.length_cons,List.length_cons,List.length_cons];omega
def sq(c:Nat):Nat→List (List UInt8)→List UInt8
 |_,[]=>[]
 |i,x::l=>(if 0 < i∧i % c=0 then [59,32]else [])++((if 0 < i % c then [44,32]else [])++(x++sq c (i+1) l))
theorem ajs(c:Nat):∀(i:Nat) (l:List (List UInt8)) (x:List UInt8),sq c i (l++[x])=sq c i l++((if 0 < i+l.length∧(i+l.length) % c=0 then [59,32]else [])++((if 0 < (i+l.length) % c then [44,32]else [])++x))
 |i,[],x=>by simp[sq]
 |i,a::l,x=>by
  show sq c i (a::(l++[x]))=_;rw[sq,ajs c (i+1) l x,sq,List.length_cons,show i+1+l.length=i+(l.length+1)by omega]
  simp only[List.append_assoc]
theorem ahe(c:Nat):∀(i:Nat) (l m:List (List UInt8)),sq c i (l++m)=sq c i l++sq c (i+l.length) m
 |i,[],m=>rfl
 |i,a::l,m=>by
  show sq c i (a::(l++m))=_;rw[sq,ahe c (i+1) l m,sq,List.length_cons,show i+1+l.length=i+(l.length+1)by omega]
  simp only[List.append_assoc]
theorem aqW(c:Nat):∀(l:List (List UInt8)) (i k:Nat),0 < k→k+l.length≤c→sq c (i*c+k) l=(l.map fun x=>[44,32]++x).flatten
 |[],_,_,_,_=>rfl
 |a::l,i,k,h0,hk=>by
  rw[List.length_cons]at hk;have hm:(i*c+k) % c=k:=by rw[Nat.mul_comm,Nat.mul_add_mod,Nat.mod_eq_of_lt (by omega)]
  rw[sq,hm,if_neg (by omega),if_pos h0,Nat.add_assoc,aqW c l i (k+1) (by omega) (by omega)]
  simp
theorem adV(s:UInt8):∀(a:List UInt8) (l:List (List UInt8)),jn s (a::l)=a++(l.map fun x=>[s,32]++x).flatten
 |a,[]=>by simp[jn]
 |a,b::l=>by rw[jn,adV s b l];simp
theorem arL(c:Nat){l:List (List UInt8)}(hl:l.length=c)(h0:0 < c)(i:Nat):sq c (i*c) l=(if 0 < i then [59,32]else [])++jn 44 l:=by
 cases l with
 |nil=>simp at hl;omega
 |cons a l=>
  rw[List.length_cons]at hl;rw[sq,Nat.mul_mod_left,adV,aqW c l i 1 (by decide) (by omega),if_neg (show¬0 < 0 by decide)]
  by_cases hi:0 < i
  ·rw[if_pos hi,if_pos ⟨Nat.mul_pos hi h0,rfl⟩];rfl
  ·rw[if_neg hi,if_neg (fun h=>hi (by rcases Nat.eq_zero_or_pos i with h1|h1;(subst h1;simp at h);exact h1))];rfl
theorem aiE(c:Nat)(h0:0 < c):∀(r i:Nat) (l:List (List UInt8)),l.length=r*c→sq c (i*c) l=if r=0 then []else(if 0 < i then [59,32]else [])++jn 59 ((chk c r l).map (jn 44))
 |0,i,l,hl=>by
  have:l=[]:=List.eq_nil_of_length_eq_zero (by omega)
  subst this;rfl
 |r+1,i,l,hl=>by
  rw[Nat.add_mul]at hl;have h1:(l.take c).length=c:=by rw[List.length_take];omega
  have h2:(l.drop c).length=r*c:=by rw[List.length_drop];omega
  have e:sq c (i*c) l=sq c (i*c) (l.take c)++sq c ((i+1)*c) (l.drop c):=by
   have:=ahe c (i*c) (l.take c) (l.drop c);rw[List.take_append_drop,h1]at this;rw[this,Nat.add_mul,Nat.one_mul]
  rw[e,arL c h1 h0,aiE c h0 r (i+1) _ h2,if_neg (show¬r+1=0 by omega),chk,List.map_cons]
  cases r with
  |zero=>rw[if_pos rfl,chk,List.map_nil,jn,List.append_nil]
  |succ r=>
   rw[if_neg (show¬r+1=0 by omega),if_pos (show 0 < i+1 by omega),chk,List.map_cons,jn]
   simp[List.append_assoc]
theorem am1{c r:Nat}{l:List (List UInt8)}(hl:l.length=r*c)(hr:r≠0)(hc:c≠0):sq c 0 l=jn 59 ((chk c r l).map (jn 44)):=by
 have:=aiE c (by omega) r 0 l hl
 rw[Nat.zero_mul,if_neg hr,if_neg (by omega)]at this
 exact this
theorem apm(c:Nat)(l:List (List UInt8))(k:Nat):(sq c 0 (l.take k)).length≤(sq c 0 l).length:=by
 have:=ahe c 0 (l.take k) (l.drop k);rw[List.take_append_drop]at this;rw[this,List.length_append];omega
theorem xM(a b:List UInt8):(a++b).length=a.length+b.length:=List.length_append
attribute [local irreducible] IntKind.wrap Go1 Reg WP aQ aR bO bN aN aB aj ah aV Sat
attribute [local irreducible] bS bV bX dx bW qv redS mf PrP qOk zOk vP dL lz vF cq rqv fC dn dI pScale mulV jn sq aH qS zS
theorem aqG{l:List (List UInt8)}{k:Nat}{x:List UInt8}(hx:l[k]? =some x)(h0:0 < k):jn 44 (l.take k)++[44,32]++x=jn 44 (l.take (k+1)):=by
 have hk:=jZ hx;rw[gJ hx,ahT 44 _ x (fun e=>by have:=congrArg List.length e;rw[List.length_take,List.length_nil]at this;omega)]
theorem alM:jn 44 []=[]:=by unfold jn;rfl
theorem asJ(s:UInt8)(x:List UInt8):jn s [x]=x:=by unfold jn;rfl
theorem abp(l:List (List UInt8))(hl:(jn 44 l).length≤1000000000000)(hn:l.length≤1000000):PureOK Tryz.prog 33 [.r (ay 1 txC l)] (.v (str (jn 44 l))):=by
 refine PureOK.fnF Tryz.func33 Tryz.results33 Tryz.ntmps33 rfl rfl rfl (by simp[AV.ids,AV0.ids,Atom.ids]) rfl (fun w0 T B E0 hB=>?_)
 refine SX.goM ?_;refine W.loop (fun k=>k≤l.length) (fun k=>[(0,.r (ay 1 txC l)),(3,.v (str (jn 44 (l.take k)))),(4,.v (.int .i64 (k:Int)))]) (fun _=>[]) (fun k=>l.length - k) 0 (Nat.zero_le _) (fun k hk=>?_)
  (by
   refine SX.St.aW [] (by intro b h;cases h) ?_ ?_ rfl
   ·exact⟨⟨_,rfl,SX.aC.same rfl⟩,⟨_,rfl,SX.aC.str (by rw[List.take_zero,alM])⟩,⟨_,rfl,SX.aC.same rfl⟩,trivial⟩
   ·exact trivial)
 by_cases h:k < l.length
 ·obtain⟨x,hx⟩:∃x,l[k]? =some x:=⟨_,List.getElem?_eq_getElem h⟩
  have hb:=aqb 44 l (k+1);by_cases h0:0 < k
  ·have e2:=aqG hx h0;rw[←e2,xM,xM]at hb;have h2:([44,32]:List UInt8).length=2:=rfl;refine SX.goM ?_;exact W.next (k+1) h (by omega)
  ·obtain rfl:k=0:=by omega
   have e3:jn 44 (l.take 0)=[]:=by rw[List.take_zero,alM]
   have e2:jn 44 (l.take 0)++x=jn 44 (l.take (0+1)):=by rw[gJ hx,e3,List.take_zero,List.nil_append,List.nil_append,asJ]
   rw[←e2,xM]at hb;refine SX.goM ?_;exact W.next (0+1) h (by omega)
 ·obtain rfl:k=l.length:=by omega
  refine SX.goM ?_;refine iN ?_;rw[List.take_length]
theorem aop(l:List Nat):l.flatMap wdC=l.map fun x:Nat=>CA.val (.int .u64 (x:Int)):=by
 induction l with
 |nil=>rfl
 |cons x l ih=>rw[List.flatMap_cons,ih];rfl
theorem apU(l:List Nat):ay 1 wdC l=aI 1 l.length (l.map fun x:Nat=>CA.val (.int .u64 (x:Int))):=by
 show aI 1 l.length (l.flatMap wdC)=_;rw[aop]
theorem aD.asz{l:List Nat}(hs:Sm WB l):aD (.c (.sat (ay 1 wdC l))) (.c (.sat (dJ l))):=fun E S w v h=>by
 rw[apU]at h;exact mY.2 ⟨hs,h⟩
theorem alX(x:Nat):nval WB [x]=x:=by unfold nval nval;omega
theorem og(n:Nat):zS (n:Int)=aH n:=by unfold zS;rw[if_neg (by omega),Int.natAbs_natCast]
theorem mK(x:Nat)(hx:x < WB):PureOK Tryz.prog 31 [.v (.int .u64 (x:Int))] (.v (str (aH x))):=by
 have hs:Sm WB [x]:=Sm.cons hx Sm.nil;have cP:=afG (l:=[.c (.val (.bool false)),.c (.sat (ay 1 wdC [x]))]) (aa2 (h:=(ZQ.raw (b:=false) (l:=[x]) (K:=1) hs (Nat.le_refl 1)).zi).h (by decide)) ⟨aD.refl _,aD.asz hs,trivial⟩
 rw[show zS (sgn false (nval WB [x]))=aH x by rw[alX];exact og x]at cP
 refine PureOK.fnF Tryz.func31 Tryz.results31 Tryz.ntmps31 rfl rfl rfl (by simp[AV.ids,AV0.ids,Atom.ids]) rfl (fun w0 T B E0 hB=>?_)
 refine SX.goM ?_;exact iN rfl
theorem rU{x:Nat}(h:x < WB):(aH x).length≤21:=aaC (k:=1) (by rw[Nat.pow_one];exact h)
theorem afF{r c:Nat}(h:r=0∨c=0)(hr:r≤1000)(hc:c≤1000)(l:List (List UInt8))(y:AV):PureOK Tryz.prog 32 [.v (.int .i64 (r:Int)),.v (.int .i64 (c:Int)),.r (ay 1 txC l)] (.v (str (tbS r c l))):=by
 have w1:=mK r (by rw[aX];omega)
 have w2:=mK c (by rw[aX];omega)
 have b1:=rU (x:=r) (by rw[aX];omega)
 have b2:=rU (x:=c) (by rw[aX];omega)
 have e1:IntKind.u64.wrap (r:Int)=(r:Int):=wrapN (by omega)
 have e2:IntKind.u64.wrap (c:Int)=(c:Int):=wrapN (by omega)
 unfold tbS;rw[if_pos h];refine PureOK.fnF Tryz.func32 Tryz.results32 Tryz.ntmps32 rfl rfl rfl (by simp[AV.ids,AV0.ids,Atom.ids]) rfl (fun w0 T B E0 hB=>?_)
 by_cases h1:r=0
 ·refine SX.goM ?_;refine iN ?_;simp[List.append_assoc]
 ·have h2:c=0:=h.resolve_left h1;refine SX.goM ?_;refine iN ?_;simp[List.append_assoc]
theorem ah9{r c:Nat}(h1:r≠0)(h2:c≠0){l:List (List UInt8)}(hl:l.length=r*c)(hr:r≤1000)(hc:c≤1000)(hb:(tbS r c l).length≤1000000000000):PureOK Tryz.prog 32 [.v (.int .i64 (r:Int)),.v (.int .i64 (c:Int)),.r (ay 1 txC l)] (.v (str (tbS r c l))):=by
 have hm:=Nat.mul_le_mul hr hc;unfold tbS at hb ⊢;rw[if_neg (by omega)]at hb ⊢
 rw[←am1 hl h1 h2]at hb ⊢;rw[List.length_cons,xM]at hb;refine PureOK.fnF Tryz.func32 Tryz.results32 Tryz.ntmps32 rfl rfl rfl (by simp[AV.ids,AV0.ids,Atom.ids]) rfl (fun w0 T B E0 hB=>?_)
 refine SX.goM ?_;refine W.loop (fun k=>k≤l.length) (fun k=>[(1,.v (.int .i64 (c:Int))),(2,.r (ay 1 txC l)),(7,.v (str (91::sq c 0 (l.take k)))),(8,.v (.int .i64 (k:Int)))]) (fun _=>[]) (fun k=>l.length - k) 0 (Nat.zero_le _) (fun k hk=>?_)
  (by
   refine SX.St.aW [] (by intro b h;cases h) ?_ ?_ rfl
   ·exact⟨⟨_,rfl,SX.aC.same rfl⟩,⟨_,rfl,SX.aC.same rfl⟩,⟨_,rfl,SX.aC.str (by rw[List.take_zero];unfold sq;rfl)⟩,⟨_,rfl,SX.aC.same rfl⟩,trivial⟩
   ·exact trivial)
 have h91:([59,32]:List UInt8).length=2∧([44,32]:List UInt8).length=2:=⟨rfl,rfl⟩;by_cases h:k < l.length
 ·obtain⟨x,hx⟩:∃x,l[k]? =some x:=⟨_,List.getElem?_eq_getElem h⟩
  have ht:=apm c l (k+1);have e:=ajs c 0 (l.take k) x;rw[←gJ hx,Nat.zero_add,List.length_take,Nat.min_eq_left hk]at e;by_cases h0:k % c=0
  ·by_cases h3:0 < k
   ·rw[if_pos ⟨h3,h0⟩,if_neg (by omega),List.nil_append]at e
    have e2:(91::sq c 0 (l.take k))++[59,32]++x=91::sq c 0 (l.take (k+1)):=by rw[e];simp[List.append_assoc]
    rw[e,xM,xM]at ht;refine SX.goM ?_;exact W.next (k+1) h (by omega)
   ·rw[if_neg (fun h=>h3 h.1),if_neg (by omega),List.nil_append,List.nil_append]at e
    have e2:(91::sq c 0 (l.take k))++x=91::sq c 0 (l.take (k+1)):=by rw[e];rfl
    rw[e,xM]at ht;refine SX.goM ?_;exact W.next (k+1) h (by omega)
  ·rw[if_neg (fun h=>h0 h.2),if_pos (by omega),List.nil_append]at e
   have e2:(91::sq c 0 (l.take k))++[44,32]++x=91::sq c 0 (l.take (k+1)):=by rw[e];simp[List.append_assoc]
   rw[e,xM,xM]at ht;have h4:0 < k % c:=by omega
   have h5:0 < k:=by have:=Nat.mod_le k c;omega
   refine SX.goM ?_;exact W.next (k+1) h (by omega)
 ·obtain rfl:k=l.length:=by omega
  rw[List.take_length];refine SX.goM ?_;refine iN ?_;rfl
end
section
def txA(v:Vl):List (List UInt8):=v.a.map fun x=>qS (rqv x)
def txP(v:Vl):List (List UInt8):=v.po.map fun x=>zS (rzv x)
def txL(v:Vl):List (List UInt8):=txA v++txP v++v.fa.map aH++v.ri.map aH++v.li.map tS
def txN(v:Vl):Nat:=v.a.length+v.po.length+v.fa.length+v.ri.length+v.li.length
theorem aqy(v:Vl):(txL v).length=txN v:=by
 unfold txL txN txA txP;simp only[List.length_append,List.length_map]
theorem vR{X l:List (List UInt8)}{k:Nat}{x:List UInt8}(hx:l[k]? =some x):(X++l.take k).flatMap txC++txC x=(X++l.take (k+1)).flatMap txC:=by
 rw[gJ hx,←List.append_assoc,List.flatMap_append,List.flatMap_append (ys:=[x])];simp
theorem aaX{v:Vl}:ay 1 txC (txL v)=aI 1 (txN v) ((txL v).flatMap txC):=by
 show aI 1 (txL v).length _=_;rw[aqy]
attribute [local irreducible] IntKind.wrap Go1 Reg WP aQ aR bO bN aN aB aj ah aV Sat
attribute [local irreducible] bS bV bX dx bW qv redS mf PrP qOk zOk vP dL lz vF cq rqv fC dn dI pScale mulV jn sq aH qS zS tS tbS
def TxEnd(v:Vl)(T:List UInt8):Prop:=
 (v.k=1∧PureOK Tryz.prog 29 [.agg (q4A (rq v.q))] (.v (str T)))
 ∨(v.k=2∧PureOK Tryz.prog 32 [.v (.int .i64 v.r),.v (.int .i64 v.c),.r (aI 1 (txN v) ((txL v).flatMap txC))] (.v (str T)))
 ∨(v.k=3∧∃R,PureOK Tryz.prog 33 [.r (aI 1 (txN v) ((txL v).flatMap txC))] (.v (str R))∧T=[112,111,108,121,40]++R++[41])
 ∨(v.k=4∧∃R D,PureOK Tryz.prog 32 [.v (.int .i64 v.fr),.v (.int .i64 v.fc),.r (aI 1 (txN v) ((txL v).flatMap txC))] (.v (str R))∧PureOK Tryz.prog 31 [.v (.int .u64 (v.p:Int))] (.v (str D))∧T=[109,111,100,40]++R++[44,32]++D++[41])
 ∨(v.k=5∧∃R D,PureOK Tryz.prog 33 [.r (aI 1 (txN v) ((txL v).flatMap txC))] (.v (str R))∧PureOK Tryz.prog 31 [.v (.int .u64 (v.p:Int))] (.v (str D))∧T=[109,111,100,40,112,111,108,121,40]++R++[41,44,32]++D++[41])
 ∨(v.k=6∧∃R,PureOK Tryz.prog 33 [.r (aI 1 (txN v) ((txL v).flatMap txC))] (.v (str R))∧T=[123]++R++[125])
set_option maxRecDepth 20000 in
set_option maxHeartbeats 2000000 in
theorem jr(v:Vl)(T:List UInt8)(hT:T.length≤1000000000000)
  (l1:v.a.length≤100000) (l2:v.po.length≤100000) (l3:v.fa.length≤100000) (l4:v.ri.length≤100000) (l5:v.li.length≤100000)
  (c1:∀x∈v.a,PureOK Tryz.prog 29 [.agg (q4A (rq x))] (.v (str (qS (rqv x)))))
  (c2:∀x∈v.po,PureOK Tryz.prog 30 [.agg (z2A (rz x))] (.v (str (zS (rzv x)))))
  (c3:∀x∈v.fa,PureOK Tryz.prog 31 [.v (.int .u64 (x:Int))] (.v (str (aH x))))
  (c4:∀x∈v.ri,PureOK Tryz.prog 31 [.v (.int .u64 (x:Int))] (.v (str (aH x))))
  (c5:∀x∈v.li,PureOK Tryz.prog 12 [.agg (vlA x)] (.v (str (tS x))))
  (hE:TxEnd v T):PureOK Tryz.prog 12 [.agg (vlA v)] (.v (str T)):=by
 have m1:(v.a.map rq).length=v.a.length:=List.length_map _;have m2:(v.po.map rz).length=v.po.length:=List.length_map _;have n1:(txA v).length=v.a.length:=List.length_map _;have n2:(txP v).length=v.po.length:=List.length_map _;have n3:(v.fa.map aH).length=v.fa.length:=List.length_map _;have n4:(v.ri.map aH).length=v.ri.length:=List.length_map _;have n5:(v.li.map tS).length=v.li.length:=List.length_map _;rw[ab2];refine PureOK.fnF Tryz.func12 Tryz.results12 Tryz.ntmps12 rfl rfl rfl (by simp[AV.ids,AV0.ids,Atom.ids]) rfl (fun w0 T B E0 hB=>?_)
 refine SX.goM ?_;refine W.loop (fun k=>k≤v.a.length) (fun k=>[(1,.ptr 1 0),(3,.own 100),(4,.v (.int .i64 (k:Int)))]) (fun k=>[(1,.box 39 (vlB v)),(100,.row 9 1 k (([]++(txA v).take k).flatMap txC))]) (fun k=>v.a.length - k) 0 (Nat.zero_le _) (fun k hk=>?_)
  (by
   refine SX.St.aW [(100,none)] (by intro b h;cases h) ?_ ?_ rfl
   ·repeat(first|exact trivial|refine⟨⟨_,rfl,SX.aC.same rfl⟩,?_⟩|refine⟨⟨_,rfl,SX.aC.nil rfl⟩,?_⟩|refine⟨⟨_,rfl,SX.aC.own rfl⟩,?_⟩)
   ·exact⟨SX.ak.same rfl rfl,SX.ak.bU rfl,trivial⟩)
 by_cases h:k < v.a.length
 ·obtain⟨x,hx⟩:∃x,v.a[k]? =some x:=⟨_,List.getElem?_eq_getElem h⟩
  have h':k < (v.a.map rq).length:=by omega
  have hx':(v.a.map rq)[k]? =some (rq x):=by rw[List.getElem?_map,hx];rfl
  have hc:=c1 x (List.mem_of_getElem? hx);have e2:=vR (X:=[]) (l:=txA v) (k:=k) (by show (v.a.map _)[k]? =_;rw[List.getElem?_map,hx];rfl)
  refine SX.goM ?_;refine W.next (k+1) h (by omega) (by
   refine SX.St.aW [(100,some 26)] (by intro b h;cases h) ?_ ?_ rfl
   ·repeat(first|exact trivial|refine⟨⟨_,rfl,SX.aC.same rfl⟩,?_⟩|refine⟨⟨_,rfl,SX.aC.own rfl⟩,?_⟩)
   ·exact⟨SX.ak.same rfl rfl,SX.ak.row rfl rfl rfl e2,trivial⟩)
 obtain rfl:k=v.a.length:=by omega
 have h':¬v.a.length < (v.a.map rq).length:=by omega
 have e3:((([]:List (List UInt8))++(txA v).take v.a.length).flatMap txC)=(txA v).flatMap txC:=by rw[List.nil_append,List.take_of_length_le (by omega)]
 rw[e3];refine SX.goM ?_;refine W.loop (fun k=>k≤v.po.length) (fun k=>[(1,.ptr 1 0),(3,.own 100),(5,.v (.int .i64 (k:Int)))]) (fun k=>[(1,.box 39 (vlB v)),(100,.row 9 1 (v.a.length+k) ((txA v++(txP v).take k).flatMap txC))]) (fun k=>v.po.length - k) 0 (Nat.zero_le _) (fun k hk=>?_)
  (by
   refine SX.St.aW [(100,some 100)] (by intro b h;cases h) ?_ ?_ rfl
   ·repeat(first|exact trivial|refine⟨⟨_,rfl,SX.aC.same rfl⟩,?_⟩|refine⟨⟨_,rfl,SX.aC.nil rfl⟩,?_⟩|refine⟨⟨_,rfl,SX.aC.own rfl⟩,?_⟩)
   ·exact⟨SX.ak.same rfl rfl,SX.ak.row rfl rfl rfl (by rw[List.take_zero,List.append_nil]),trivial⟩)
 by_cases h:k < v.po.length
 ·obtain⟨x,hx⟩:∃x,v.po[k]? =some x:=⟨_,List.getElem?_eq_getElem h⟩
  have h':k < (v.po.map rz).length:=by omega
  have hx':(v.po.map rz)[k]? =some (rz x):=by rw[List.getElem?_map,hx];rfl
  have hc:=c2 x (List.mem_of_getElem? hx);have e2:=vR (X:=txA v) (l:=txP v) (k:=k) (by show (v.po.map _)[k]? =_;rw[List.getElem?_map,hx];rfl)
  refine SX.goM ?_;refine W.next (k+1) h (by omega) (by
   refine SX.St.aW [(100,some 42)] (by intro b h;cases h) ?_ ?_ rfl
   ·repeat(first|exact trivial|refine⟨⟨_,rfl,SX.aC.same rfl⟩,?_⟩|refine⟨⟨_,rfl,SX.aC.own rfl⟩,?_⟩)
   ·exact⟨SX.ak.same rfl rfl,SX.ak.row rfl rfl rfl e2,trivial⟩)
 obtain rfl:k=v.po.length:=by omega
 have h':¬v.po.length < (v.po.map rz).length:=by omega
 have e3:((txA v++(txP v).take v.po.length).flatMap txC)=((txA v++txP v).flatMap txC):=by rw[List.take_of_length_le (by omega)]
 rw[e3];refine SX.goM ?_;refine W.loop (fun k=>k≤v.fa.length) (fun k=>[(1,.ptr 1 0),(3,.own 100),(6,.v (.int .i64 (k:Int)))]) (fun k=>[(1,.box 39 (vlB v)),(100,.row 9 1 (v.a.length+v.po.length+k) (((txA v++txP v)++(v.fa.map aH).take k).flatMap txC))]) (fun k=>v.fa.length - k) 0 (Nat.zero_le _) (fun k hk=>?_)
  (by
   refine SX.St.aW [(100,some 100)] (by intro b h;cases h) ?_ ?_ rfl
   ·repeat(first|exact trivial|refine⟨⟨_,rfl,SX.aC.same rfl⟩,?_⟩|refine⟨⟨_,rfl,SX.aC.nil rfl⟩,?_⟩|refine⟨⟨_,rfl,SX.aC.own rfl⟩,?_⟩)
   ·exact⟨SX.ak.same rfl rfl,SX.ak.row rfl rfl rfl (by rw[List.take_zero,List.append_nil]),trivial⟩)
 by_cases h:k < v.fa.length
 ·obtain⟨x,hx⟩:∃x,v.fa[k]? =some x:=⟨_,List.getElem?_eq_getElem h⟩
  have hc:=c3 x (List.mem_of_getElem? hx);have e2:=vR (X:=(txA v++txP v)) (l:=v.fa.map aH) (k:=k) (by show (v.fa.map _)[k]? =_;rw[List.getElem?_map,hx];rfl)
  refine SX.goM ?_;refine W.next (k+1) h (by omega) (by
   refine SX.St.aW [(100,some 60)] (by intro b h;cases h) ?_ ?_ rfl
   ·repeat(first|exact trivial|refine⟨⟨_,rfl,SX.aC.same rfl⟩,?_⟩|refine⟨⟨_,rfl,SX.aC.own rfl⟩,?_⟩)
   ·exact⟨SX.ak.same rfl rfl,SX.ak.row rfl rfl rfl e2,trivial⟩)
 obtain rfl:k=v.fa.length:=by omega
 have e3:(((txA v++txP v)++(v.fa.map aH).take v.fa.length).flatMap txC)=(((txA v++txP v)++v.fa.map aH).flatMap txC):=by rw[List.take_of_length_le (by omega)]
 rw[e3];refine SX.goM ?_;refine W.loop (fun k=>k≤v.ri.length) (fun k=>[(1,.ptr 1 0),(3,.own 100),(7,.v (.int .i64 (k:Int)))]) (fun k=>[(1,.box 39 (vlB v)),(100,.row 9 1 (v.a.length+v.po.length+v.fa.length+k) (((txA v++txP v++v.fa.map aH)++(v.ri.map aH).take k).flatMap txC))]) (fun k=>v.ri.length - k) 0 (Nat.zero_le _) (fun k hk=>?_)
  (by
   refine SX.St.aW [(100,some 100)] (by intro b h;cases h) ?_ ?_ rfl
   ·repeat(first|exact trivial|refine⟨⟨_,rfl,SX.aC.same rfl⟩,?_⟩|refine⟨⟨_,rfl,SX.aC.nil rfl⟩,?_⟩|refine⟨⟨_,rfl,SX.aC.own rfl⟩,?_⟩)
   ·exact⟨SX.ak.same rfl rfl,SX.ak.row rfl rfl rfl (by rw[List.take_zero,List.append_nil]),trivial⟩)
 by_cases h:k < v.ri.length
 ·obtain⟨x,hx⟩:∃x,v.ri[k]? =some x:=⟨_,List.getElem?_eq_getElem h⟩
  have hc:=c4 x (List.mem_of_getElem? hx);have e2:=vR (X:=(txA v++txP v++v.fa.map aH)) (l:=v.ri.map aH) (k:=k) (by show (v.ri.map _)[k]? =_;rw[List.getElem?_map,hx];rfl)
  refine SX.goM ?_;refine W.next (k+1) h (by omega) (by
   refine SX.St.aW [(100,some 76)] (by intro b h;cases h) ?_ ?_ rfl
   ·repeat(first|exact trivial|refine⟨⟨_,rfl,SX.aC.same rfl⟩,?_⟩|refine⟨⟨_,rfl,SX.aC.own rfl⟩,?_⟩)
   ·exact⟨SX.ak.same rfl rfl,SX.ak.row rfl rfl rfl e2,trivial⟩)
 obtain rfl:k=v.ri.length:=by omega
 have e3:(((txA v++txP v++v.fa.map aH)++(v.ri.map aH).take v.ri.length).flatMap txC)=(((txA v++txP v++v.fa.map aH)++v.ri.map aH).flatMap txC):=by rw[List.take_of_length_le (by omega)]
 rw[e3];refine SX.goM ?_;refine W.loop (fun k=>k≤v.li.length) (fun k=>[(1,.ptr 1 0),(3,.own 100),(8,.v (.int .i64 (k:Int)))]) (fun k=>[(1,.box 39 (vlB v)),(100,.row 9 1 (v.a.length+v.po.length+v.fa.length+v.ri.length+k) (((txA v++txP v++v.fa.map aH++v.ri.map aH)++(v.li.map tS).take k).flatMap txC))]) (fun k=>v.li.length - k) 0 (Nat.zero_le _) (fun k hk=>?_)
  (by
   refine SX.St.aW [(100,some 100)] (by intro b h;cases h) ?_ ?_ rfl
   ·repeat(first|exact trivial|refine⟨⟨_,rfl,SX.aC.same rfl⟩,?_⟩|refine⟨⟨_,rfl,SX.aC.nil rfl⟩,?_⟩|refine⟨⟨_,rfl,SX.aC.own rfl⟩,?_⟩)
   ·exact⟨SX.ak.same rfl rfl,SX.ak.row rfl rfl rfl (by rw[List.take_zero,List.append_nil]),trivial⟩)
 by_cases h:k < v.li.length
 ·obtain⟨x,hx⟩:∃x,v.li[k]? =some x:=⟨_,List.getElem?_eq_getElem h⟩
  have hc:=c5 x (List.mem_of_getElem? hx);have e2:=vR (X:=(txA v++txP v++v.fa.map aH++v.ri.map aH)) (l:=v.li.map tS) (k:=k) (by show (v.li.map _)[k]? =_;rw[List.getElem?_map,hx];rfl)
  refine SX.goM ?_;refine W.next (k+1) h (by omega) (by
   refine SX.St.aW [(100,some 92)] (by intro b h;cases h) ?_ ?_ rfl
   ·repeat(first|exact trivial|refine⟨⟨_,rfl,SX.aC.same rfl⟩,?_⟩|refine⟨⟨_,rfl,SX.aC.own rfl⟩,?_⟩)
   ·exact⟨SX.ak.same rfl rfl,SX.ak.row rfl rfl rfl e2,trivial⟩)
 obtain rfl:k=v.li.length:=by omega
 have e3:(((txA v++txP v++v.fa.map aH++v.ri.map aH)++(v.li.map tS).take v.li.length).flatMap txC)=(((txA v++txP v++v.fa.map aH++v.ri.map aH)++v.li.map tS).flatMap txC):=by rw[List.take_of_length_le (by omega)]
 rw[e3];clear c1 c2 c3 c4 c5;change WP _ _ _ (fK [(1,.ptr 1 0),(3,.own 100),(8,.v (.int .i64 (v.li.length:Int)))] [(1,.box 39 (vlB v)),(100,.row 9 1 (txN v) ((txL v).flatMap txC))]) _
 refine SX.WP.freeze 100 hB rfl ?_;rcases hE with⟨hk,hc⟩|⟨hk,hc⟩|⟨hk,R,hc,rfl⟩|⟨hk,R,D,hc,hd,rfl⟩|⟨hk,R,D,hc,hd,rfl⟩|⟨hk,R,hc,rfl⟩
 ·refine SX.goM ?_;exact iN rfl
 ·refine SX.goM ?_;exact iN rfl
 ·simp only[xM,List.length_cons,List.length_nil]at hT;refine SX.goM ?_;exact iN rfl
 ·simp only[xM,List.length_cons,List.length_nil]at hT;refine SX.goM ?_;exact iN rfl
 ·simp only[xM,List.length_cons,List.length_nil]at hT;refine SX.goM ?_;exact iN rfl
 ·simp only[xM,List.length_cons,List.length_nil]at hT;refine SX.goM ?_;exact iN rfl
end
end
section
attribute [local irreducible] IntKind.wrap Go1 Reg WP aQ aR bO bN aN aB aj ah aV Sat
attribute [local irreducible] bS bV bX dx bW qv redS mf PrP qOk zOk vP dL lz vF cq rqv fC dn dI pScale mulV vW
section
variable(n:Int){k:Nat}(hn:n.tmod 7=(k:Int))(hk:k≤6){v:Vl}
include hn hk
end
end
end Go.Proofs.YtmgfiodmdfaclaaGreatDoor