import Derived.Test.YtjnhnbgpifohjaaGreatDoorA19
import Derived.Test.YtjnhnbgpifohjaaGreatDoorA20
import Derived.Test.YtjnhnbgpifohjaaGreatDoorA11
set_option linter.unusedVariables false
set_option linter.unusedSimpArgs false
set_option linter.unusedSectionVars false
open Go.Proofs.Tryz
namespace Go.Proofs.YtjnhnbgpifohjaaGreatDoor
open Go.RowKit QM SX LA
theorem kz_35:∀n,n < 5→kz 35 n≤1000:=by decide
theorem aiz:∀(n:Nat) {a b:Nat},a≤b→kz a n≤kz b n
 |0,a,b,h=>h
 |n+1,a,b,h=>by
  show kz (2*a+1) n≤kz (2*b+1) n;exact aiz n (by omega)
theorem ah.resI{P:Program}{f:FuncId}{args:List AV}{r r':AV}(h:ah P f args r)(hi:∀E S w v,r.has E S w v→r'.has E S w v):ah P f args r':=
 ⟨h.1,fun E S w vs a b c d e g=>(h.2 E S w vs a b c d e g).mono fun x w' ⟨v,E',S',he,hE⟩=>⟨v,E',S',he,⟨hE.env,hE.fpe,hE.sub,hE.new,hE.lt,hE.off,hi _ _ _ _ hE.res,hE.ents,hE.blk,hE.sep⟩⟩⟩
attribute [local irreducible] IntKind.wrap Go1 Reg WP aR aU bR bO aN aF ak aj aY Sat
attribute [local irreducible] bS dn cK dD dh qv bW mf PrP qOk zOk vP eu lz vF cq rqv fB dw dN d9 gP jn sq aV qS zS tS tbS plS mdS zmd ac3 qdn
theorem aiH{K n:Nat}{v:Vl}(h:Cv K n v)(hK:K≤50000)(hn:n≤15):ah prog 59 [.agg (vlA v),.agg (vlA v)] (.v (.bool true)):=by
 have c:=anH h h (by omega) hn hn
 rwa [afO]at c
theorem ai4{x x' y:AV0}(h:x.imp x'):∀E S w v,(AV.tup [x,y]).has E S w v→(AV.tup [x',y]).has E S w v:=fun E S w v ⟨us,hv,hh⟩=>by
 match us,hh with
 |[a,b],⟨h1,h2,_⟩=>exact⟨[a,b],hv,h E S w a h1,h2,trivial⟩
theorem ah7{α:Type}{size:Nat}{enc:α→List CA}:(AV0.agg agQ).imp (.agg [.c (.val (.int .i64 0)),.c (.val (.int .i64 0)),.c (.sat (aA size enc []))]):=nT ⟨aO.refl _,aO.refl _,aO.nil,trivial⟩
theorem vB:ah prog 8 [.agg [.c (.val (.int .i64 0)),.c (.val (.int .i64 0)),.c (.sat (aA 4 q4C []))]] (.agg (vlA (dQ 0 0 []))):=
 jl (r:=0) (c:=0) (l:=[]) (vs:=[]) (K:=1) ⟨rfl,fun i q v h=>by cases h⟩ rfl (by decide) (by decide) (by decide)
theorem qR{t:List UInt8}{vs:List Vl}{w:Vl}(c:ah prog 28 [.v (str t),.r (aA 15 vlE vs)] (.tup [.agg (vlA w),eNo 0]))(S:ah prog 59 [.agg (vlA w),.agg (vlA w)] (.v (.bool true))):
  ah prog 16 [.v (str t),.r (aA 15 vlE vs),.agg (vlA w),.v (.int .i64 0)] (.v (.bool true)):=by
 refine ah.fnF func16 results16 ntmps16 rfl rfl rfl (by simp[AV.ids,AV0.ids,Atom.ids]) rfl (fun w0 T B E0 hB=>?_)
 refine SX.goM ?_;exact aP rfl
theorem tJ{t:List UInt8}{vs:List Vl}{w:Vl}{e:Int}(he:e≠0)(c:ah prog 28 [.v (str t),.r (aA 15 vlE vs)] (.tup [.agg (vlA v0),eNo e])):
  ah prog 16 [.v (str t),.r (aA 15 vlE vs),.agg (vlA w),.v (.int .i64 e)] (.v (.bool true)):=by
 have h1:decide (e=e)=true:=decide_eq_true rfl;refine ah.fnF func16 results16 ntmps16 rfl rfl rfl (by simp[AV.ids,AV0.ids,Atom.ids]) rfl (fun w0 T B E0 hB=>?_)
 refine SX.goM ?_;exact aP rfl
section
variable{r c:Nat}{A:List Q4}{V wT wI:Vl}{lt:List Rat}{mI:Int×Int×Rep}{eI:Int}{m:List Rat}{ps:List Nat}{zs:List Int}{d x:Int}{K L:Nat}{eD:Int}{y:Rat}
theorem alW{a1 a2:Int}{a3:Rep}(F:ah prog 6 [.agg [.c (.val (.int .i64 a1)),.c (.val (.int .i64 a2)),.c (.sat a3)],.v (.int .i64 4),.v (.int .i64 2)] (.v (.bool false))):ah prog 3 [.agg [.c (.val (.int .i64 a1)),.c (.val (.int .i64 a2)),.c (.sat a3)]] (.v (.bool true)):=by
 have aw:=sK;refine ah.fnF func3 results3 ntmps3 rfl rfl rfl (by simp[AV.ids,AV0.ids,Atom.ids]) rfl (fun w0 T B E0 hB=>?_)
 refine SX.goM ?_;exact aP rfl
theorem anF{a1 a2:Int}{a3:Rep}(F:ah prog 6 [.agg [.c (.val (.int .i64 a1)),.c (.val (.int .i64 a2)),.c (.sat a3)],.v (.int .i64 4),.v (.int .i64 2)] (.v (.bool true)))(G:ah prog 7 [.agg [.c (.val (.int .i64 a1)),.c (.val (.int .i64 a2)),.c (.sat a3)]] (.v (.bool false))):ah prog 3 [.agg [.c (.val (.int .i64 a1)),.c (.val (.int .i64 a2)),.c (.sat a3)]] (.v (.bool true)):=by
 have aw:=sK;refine ah.fnF func3 results3 ntmps3 rfl rfl rfl (by simp[AV.ids,AV0.ids,Atom.ids]) rfl (fun w0 T B E0 hB=>?_)
 refine SX.goM ?_;exact aP rfl
set_option maxRecDepth 20000 in
set_option maxHeartbeats 4000000 in
theorem xu(F:ah prog 6 [.agg (iE r c A),.v (.int .i64 4),.v (.int .i64 2)] (.v (.bool true)))(G:ah prog 7 [.agg (iE r c A)] (.v (.bool true)))
  (hr:r≤64) (hps:ps.length≤1000)
  (cM:ah prog 8 [.agg (iE r c A)] (.agg (vlA V)))
  (cT:ah prog 9 [.agg (iE r c A)] (.tup [.agg (pE c r lt),eNo 0])) (cMT:ah prog 8 [.agg (pE c r lt)] (.agg (vlA wT)))
  (cI:ah prog 10 [.agg (iE r c A)] (.tup [.agg [.c (.val (.int .i64 mI.1)),.c (.val (.int .i64 mI.2.1)),.c (.sat mI.2.2)],eNo eI])) (cMI:ah prog 8 [.agg [.c (.val (.int .i64 mI.1)),.c (.val (.int .i64 mI.2.1)),.c (.sat mI.2.2)]] (.agg (vlA wI)))
  (cR:ah prog 11 [.agg (iE r c A)] (.tup [.agg (pE r c m),.one (.c (.sat (aA 1 piC ps))),eNo 0]))
  (cC:ah prog 12 [.agg (iE r c A)] (.tup [.agg (sD r c zs),.agg (zN d),eNo 0]))
  (cD:ah prog 13 [.agg (sD r c zs)] (.tup [.agg (zN x),eNo eD]))
  (hx:x.natAbs < WB ^ K) (hd:d.natAbs < WB ^ L) (hK1:1≤K) (hL1:1≤L) (hd0:d≠0) (hKL:K+(r+1)*L≤100000)
  (s1:ah prog 16 [.v (str ag6),.r (aA 15 vlE [V]),.agg (vlA wT),.v (.int .i64 0)] (.v (.bool true)))
  (s2:ah prog 16 [.v (str acH),.r (aA 15 vlE [V]),.agg (vlA wI),.v (.int .i64 eI)] (.v (.bool true)))
  (s3:ah prog 16 [.v (str ahe),.r (aA 15 vlE [V]),.agg (vlA (vI (ps.length:Int))),.v (.int .i64 0)] (.v (.bool true)))
  (s4:ah prog 16 [.v (str kY),.r (aA 15 vlE [V]),.agg (vlA (fC (qdn (x:Rat) (d:Rat) r))),.v (.int .i64 eD)] (.v (.bool true))):
  ah prog 3 [.agg (iE r c A)] (.v (.bool true)):=by
 have aw:=sK;have hrL:=Nat.mul_le_mul_right L (show r≤r+1 by omega)
 haveI iD:Bd x K:=⟨hx⟩
 haveI iM:Bd d L:=⟨hd⟩
 have rd:RB ((x:Int):Rat) K:=RB.ofI hx hK1;have rm:RB ((d:Int):Rat) L:=RB.ofI hd hL1;have hm0:((d:Int):Rat)≠0:=fun h=>hd0 (by exact_mod_cast h)
 have hRB:=acv rd rm hm0;have hL9:L≤100000:=by rw[Nat.succ_mul]at hKL;omega
 have cO1:ah prog 14 [.agg (zN x)] (.agg (qA ((x:Int):Rat))):=mM.h (by omega)
 have cO2:ah prog 14 [.agg (zN d)] (.agg (qA ((d:Int):Rat))):=mM.h (by omega)
 generalize ((x:Int):Rat)=x' at*;generalize hy:((d:Int):Rat)=y at*;have cN:=sQ (q:=q4v (qdn x' y r)) (hRB r).ra (by rw[Nat.succ_mul]at hKL;omega)
 have e0:qdn x' y 0=x':=by unfold qdn;rfl
 have es:∀k,qdn x' y (k+1)=qdn x' y k / y:=fun k=>by conv=>lhs;unfold qdn
 have cO:ah prog 18 [.v (.int .i64 (ps.length:Int))] (.agg (zN (ps.length:Int))):=ad8.h ⟨by omega,by omega⟩
 have hb:((ps.length:Nat):Int).natAbs < WB ^ 1:=by rw[Nat.pow_one,bV];omega
 have cW:ah prog 17 [.agg (zN (ps.length:Int))] (.agg (vlA (vI (ps.length:Int)))):=wz (q:=z2v (ps.length:Int)) (ZQ.made hb) (Nat.le_refl 1) (by decide)
 refine ah.fnF func3 results3 ntmps3 rfl rfl rfl (by simp[AV.ids,AV0.ids,Atom.ids]) rfl (fun w0 T B E0 hB=>?_)
 refine SX.goM ?_;refine W.loop (fun k=>k≤r) (fun k=>[(1,.ptr 1 0),(3,.r (aA 15 vlE [V])),(4,.ptr 4 0),(6,.ptr 6 0),(7,.v (.int .i64 eI)),(9,.r (aA 1 piC ps)),(12,.ptr 12 0),(15,.v (.int .i64 eD)),(16,.ptr 16 0),(17,.v (.int .i64 (k:Int)))]) (fun k=>[(1,.box 24 (iE r c A)),(4,.box 24 (pE c r lt)),(6,.box 24 [.c (.val (.int .i64 mI.1)),.c (.val (.int .i64 mI.2.1)),.c (.sat mI.2.2)]),(12,.box 31 (zN d)),(16,.box 33 (qA (qdn x' y k)))]) (fun k=>r - k) 0 (Nat.zero_le _) (fun k hk=>?_)
  (by
   rw[e0];refine SX.St.aZ [] (by intro b h;cases h) ?_ ?_ rfl
   ·repeat(first|exact trivial|refine⟨⟨_,rfl,SX.aG.same rfl⟩,?_⟩)
   ·exact⟨SX.ay.same rfl rfl,SX.ay.same rfl rfl,SX.ay.same rfl rfl,SX.ay.same rfl rfl,SX.ay.same rfl rfl,trivial⟩)
 by_cases h:k < r
 ·have ik:=(hRB k).ra;have iy:=rm.ra;have hkn:=Nat.mul_le_mul_right L (show k+1≤r+1 by omega)
  rw[Nat.succ_mul]at hkn;have cQ:ah prog 15 [.agg (qA (qdn x' y k)),.agg (qA y)] (.tup [.agg (qA (qdn x' y (k+1))),.one (.c (.val (.bool (decide (y≠0)))))]):=by
   rw[es];exact uL.h (by omega)
  refine SX.goM ?_;refine W.next (k+1) h (by omega) (by
   refine SX.St.aZ [] (by intro b h;cases h) ?_ ?_ rfl
   ·repeat(first|exact trivial|refine⟨⟨_,rfl,SX.aG.same rfl⟩,?_⟩)
   ·exact⟨SX.ay.same rfl rfl,SX.ay.same rfl rfl,SX.ay.same rfl rfl,SX.ay.same rfl rfl,SX.ay.same rfl rfl,trivial⟩)
 ·obtain rfl:k=r:=by omega
  refine SX.goM ?_;exact aP rfl
end
theorem akX(p:RawM)(hs:RSm p.2.2):ah prog 3 [.agg [.c (.val (.int .i64 p.1)),.c (.val (.int .i64 p.2.1)),.c (.sat (aA 4 q4C (p.2.2.map rq)))]] (.v (.bool true)):=by
 obtain⟨r,c,l⟩:=p
 dsimp only at hs ⊢
 have cFew:=aoW r c l 4 2;by_cases hf:adP r c l 4 2
 ·have cFew:=cFew.1 hf;by_cases hF:iO r c (l.map rq).length
  ·have cF:=asN (cells:=(l.map rq).flatMap q4C) hF;have hRL:=adP.len (w:=2) hf;obtain⟨n,m,rfl,rfl,hn,hm,hl⟩:=atq (k:=4) hf rfl hF;have hM:=MV.raw hs hRL;have hv:=hM.rb (by decide)
   have hvl:(l.map rqv).length=n*m:=by rw[zq5];rw[zq5]at hl;exact hl
   generalize l.map rqv=vs at*;generalize l.map rq=A at*;have hM2:=MV.cq hv;have hl2:((vs.map cq).map rq).length=n*m:=by rw[zq5,zq5];exact hvl
   have hnm:=Nat.mul_le_mul hn hm;have hRBv:=ahk hv (by decide) m
   have hF1:ah prog 78 [.agg (vlA (dQ n m vs))] (.v (.bool true)):=(Cv.one (n:=0) (.mat n m _ hvl (by omega) (by omega) hv:Sh 2 _)).F (by decide) (by decide)
   have cM:=jl hM hl (by omega) (by omega) (by decide)
   -- transposed
   have cT:=pz hM hl (by omega) (by omega) (by decide)
   have cT2:=pz hM2 hl2 (by omega) (by omega) (by decide)
   have hLT:∀v∈fV n (fun i k=>vat vs m k i) m,RB v 2:=acX fun i k hi hk=>hRBv k i
   have hLl:(fV n (fun i k=>vat vs m k i) m).length=m*n:=iZ m
   generalize fV n (fun i k=>vat vs m k i) m=LT at*
   have cMT:=jl (MV.made hLT) (by rw[zq5];exact hLl) (show m≤64 by omega) (show n≤64 by omega) (by decide)
   rw[←nA]at cMT;have s1:=qR (kE (.inl rfl) hF1 asD asQ (ug cT2 cMT)) (aiH (n:=0) (.one (.mat m n LT hLl (by omega) (by omega) hLT)) (by decide) (by decide))
   -- rank
   have cR:=aaD hM hl (by omega) (by omega) (by decide) (fun k hk=>Nat.le_trans (adA k (by omega)) (by decide)) (Nat.le_trans (adA m (by omega)) (by decide))
   have cR2:=aaD hM2 hl2 (by omega) (by omega) (by decide) (fun k hk=>Nat.le_trans (adA k (by omega)) (by decide)) (Nat.le_trans (adA m (by omega)) (by decide))
   have hps:(rdP n m 0 (vat vs m) idv).length≤1000:=by
    have:=(anC (r:=n) (c:=m) (d:=0) (va:=vat vs m) (vb:=idv)).len;omega
   generalize rdP n m 0 (vat vs m) idv=ps at*;generalize fV m (rdM n m 0 (vat vs m) idv) n=RM at*;have hpb:((ps.length:Nat):Int).natAbs < WB ^ 1:=by rw[Nat.pow_one,bV];omega
   have s3:=qR (kE (.inr (.inr (.inr rfl))) hF1 arX as2 (uf hps cR2)) (aiH (n:=0) (.one (.num _ (RB.ofI hpb (Nat.le_refl 1)))) (by decide) (by decide))
   -- whole
   have hB0:1+(n*m+1)*2≤50000:=by omega
   have cC:=wG hM hl (by omega) (by omega) (by decide) hB0
   have hcz:=ahH hv;have hcl:(kJ vs).length=n*m:=by unfold kJ;rw[zq5];exact hvl
   have hL:=qU hv vs.length;rw[List.take_length]at hL;have hp:=pI vs;have hL2:((gQ vs:Nat):Int).natAbs < WB ^ (1+16*2):=by
    rw[Int.natAbs_natCast];exact Nat.lt_of_lt_of_le hL (Nat.pow_le_pow_right aS (by omega))
   by_cases hnm2:n=m
   ·subst hnm2;have hcz2:∀z∈kJ vs,z.natAbs < WB ^ (2+(1+16*2)):=fun z hz=>Nat.lt_of_lt_of_le (hcz z hz) (Nat.pow_le_pow_right aS (by omega))
    have hkz:kz (2+(1+16*2)) n≤1000:=kz_35 n (by omega)
    have cD:=abN hcl (by omega) hcz2 (by omega) (by omega)
    have hdl:=aiA hcl hcz2 (by omega)
    have hk1:1≤kz (2+(1+16*2)) n:=by have:=aev n (2+(1+16*2));omega
    have hkz2:kz (2+(1+vs.length*2)) n≤10000:=by
     have h1:∀a b,a≤b→kz a n≤kz b n:=fun a b hab=>aiz n hab
     exact Nat.le_trans (h1 _ (2+(1+16*2)) (by omega)) (by omega)
    have hRq:RB (afg n vs) (kz (2+(1+16*2)) n+n*(1+16*2)):=by
     unfold afg;exact acv (RB.ofI hdl hk1) (RB.ofI hL2 (by decide)) (fun h=>by
      have:((gQ vs:Nat):Int)=0:=by exact_mod_cast h
      omega) n
    have s4:=qR (vM hvl (by omega) hv (by decide) (by decide) hB0 hkz2 (by
     have:=Nat.mul_le_mul hn (show 1+vs.length*2≤33 by omega);omega)) (aiH (n:=0) (.one (.num _ hRq)) (by omega) (by decide))
    have cI:=xI hM hl (by omega) (by decide) (fun k hk=>Nat.le_trans (adA k (by omega)) (by decide)) (Nat.le_trans (adA n (by omega)) (by decide))
    have cI2:=xI hM2 hl2 (by omega) (by decide) (fun k hk=>Nat.le_trans (adA k (by omega)) (by decide)) (Nat.le_trans (adA n (by omega)) (by decide))
    by_cases hq:(rdP n n n (vat vs n) idv).length < n
    ·rw[if_pos hq]at cI cI2;have s2:=tJ (w:=dQ 0 0 []) (e:=3) (by decide) (kE (.inr (.inr (.inl rfl))) hF1 agX afV (mg (by decide) cI2))
     exact xu cFew cF (by omega) hps cM cT cMT (mI:=(0,0,aA 4 q4C [])) (ah.resI cI (ai4 ah7)) vB cR cC cD hdl hL2 hk1 (by decide) (by omega) (by omega) s1 s2 s3 s4
    ·rw[if_neg hq]at cI cI2;have hRW:RW (bgM n n (vat vs n) idv n) (n+n) 2:=afH (fun i k _ _=>hRBv i k) (fun i k _ _=>(ady i k).mono (by decide))
     have hTB:∀i k,i < n→k < n→RB (rdM n n n (vat vs n) idv i (n+k)) 682:=fun i k hi hk=>(afQ hRW hi (by omega)).mono (adA n (by omega))
     have hTR:∀v∈fV n (fun i k=>rdM n n n (vat vs n) idv i (n+k)) n,RB v 682:=acX hTB
     have hTl:(fV n (fun i k=>rdM n n n (vat vs n) idv i (n+k)) n).length=n*n:=iZ n
     generalize fV n (fun i k=>rdM n n n (vat vs n) idv i (n+k)) n=ts at*
     have cMI:=jl (MV.made hTR) (by rw[zq5];exact hTl) (show n≤64 by omega) (show n≤64 by omega) (by decide)
     rw[←nA]at cMI;have s2:=qR (kE (.inr (.inr (.inl rfl))) hF1 agX afV (uw cI2 cMI)) (aiH (n:=0) (.one (.mat n n ts hTl (by omega) (by omega) hTR)) (by decide) (by decide))
     exact xu cFew cF (by omega) hps cM cT cMT (mI:=((n:Int),(n:Int),aA 4 qC ts)) cI cMI cR cC cD hdl hL2 hk1 (by decide) (by omega) (by omega) s1 s2 s3 s4
   ·have hne:¬((n:Int)=(m:Int)):=fun h=>hnm2 (by omega)
    have cI:=tX (r:=(n:Int)) (c:=(m:Int)) (l:=A) (fun h=>hne h.2)
    have cI2:=tX (r:=(n:Int)) (c:=(m:Int)) (l:=(vs.map cq).map rq) (fun h=>hne h.2)
    have s2:=tJ (w:=dQ 0 0 []) (e:=2) (by decide) (kE (.inr (.inr (.inl rfl))) hF1 agX afV (mg (by decide) cI2))
    have cD:ah prog 13 [.agg (sD n m (kJ vs))] (.tup [.agg (zN 0),eNo 2]):=ab2 (x:=aA 2 zC (kJ vs)) hnm2;have s4:=tJ (w:=fC (qdn ((0:Int):Rat) (((gQ vs:Nat):Int):Rat) n)) (e:=2) (by decide) (kE (.inr (.inl rfl)) hF1 anO amV (sJ (wP hnm2 hvl (by omega) (by omega) hv (by decide) hB0)))
    exact xu cFew cF (by omega) hps cM cT cMT (mI:=(0,0,aA 4 q4C [])) (ah.resI cI (ai4 ah7)) vB cR cC cD (K:=1) (by rw[Nat.pow_one,bV];decide) hL2 (by decide) (by decide) (by omega) (by omega) s1 s2 s3 s4
  ·exact anF cFew (aqU (cells:=(l.map rq).flatMap q4C) hF)
 ·exact alW (cFew.2 hf)
end Go.Proofs.YtjnhnbgpifohjaaGreatDoor