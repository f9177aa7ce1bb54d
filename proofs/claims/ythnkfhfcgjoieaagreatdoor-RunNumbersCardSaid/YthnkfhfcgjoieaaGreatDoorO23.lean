import Derived.Test.YthnkfhfcgjoieaaGreatDoorO22
set_option linter.unusedVariables false
set_option linter.unusedSimpArgs false
set_option linter.unusedSectionVars false
open Go.Proofs.Tryz
namespace Go.Proofs.YthnkfhfcgjoieaaGreatDoor
open Go.RowKit QM SX LA
theorem ajH{x:Rat}{K:Nat}(hx:RB x K):Cv K 1 (dz [bW x]):= .lst _ (zqc rfl) fun u hu=>by
 rw[zxi]at hu;subst hu;exact .one (.num _ hx)
theorem ajM{x y:Rat}{K:Nat}(hx:RB x K)(hy:RB y K):Cv K 1 (dz [bW x,bW y]):= .lst _ (zqc rfl) fun u hu=>by
 rcases zy3.1 hu with rfl|hu
 ·exact .one (.num _ hx)
 ·rw[zxi]at hu;subst hu;exact .one (.num _ hy)
theorem ar9{x y z:Rat}{K:Nat}(hx:RB x K)(hy:RB y K)(hz:RB z K):Cv K 1 (dz [bW x,bW y,bW z]):= .lst _ (zqc rfl) fun u hu=>by
 rcases zy3.1 hu with rfl|hu
 ·exact .one (.num _ hx)
 ·rcases zy3.1 hu with rfl|hu
  ·exact .one (.num _ hy)
  ·rw[zxi]at hu;subst hu;exact .one (.num _ hz)
theorem abK{a K:Nat}(h:a<=K){z:Nat}(hz:z < WB ^ a):z < WB ^ K:=zqf hz (zx2 aZ h)
theorem pow0{K:Nat}:(0:Int).natAbs < WB ^ K:=Nat.pow_pos aZ
attribute [local irreducible] IntKind.wrap Go1 Reg WP aJ aN bF bD aM aA ak aj aT Sat
attribute [local irreducible] bK bO bM bS bN qv bZ mf PrP qOk zOk vP dx lz vF rqv dI aX bG aV dN jn sq aW qS zS tS tbS plS mdS zmd jT jU zEv bI fDs fEv xgG xgS xgT
theorem NuS{v:Rat}{K:Nat}(h:RB v K)(hK:K<=50000):ah prog 47 [.agg (vlA (bW v)),.agg (vlA (bW v))] (.v (.bool true)):=aqh (n:=0) (.one (.num _ h)) hK zc
theorem NuI{z:Int}{K:Nat}(h:z.natAbs < WB ^ K)(h1:1<=K)(hK:K<=50000):ah prog 47 [.agg (vlA (vI z)),.agg (vlA (vI z))] (.v (.bool true)):=NuS (RB.ofI h h1) hK
theorem aqD(q:jD)(hq:Sm WB q.2.1/\Sm WB q.2.2.2)(a:qx)(ha:Sm WB a.2)(b:qx)(hb:Sm WB b.2):ah prog 3 [.agg (q4A (rq q)),.agg (z2A (rz a)),.agg (z2A (rz b))] (.v (.bool true)):=by
 by_cases h1:q.2.1.length<=2
 case neg=>obtain⟨b1,l1,c1,m1⟩:=q;obtain⟨ba,la⟩:=a;obtain⟨bb,lb⟩:=b;exact Num_1 h1
 by_cases h2:q.2.2.2.length<=2
 case neg=>obtain⟨b1,l1,c1,m1⟩:=q;obtain⟨ba,la⟩:=a;obtain⟨bb,lb⟩:=b;exact Num_2 h1 h2
 by_cases h3:a.2.length<=2
 case neg=>obtain⟨b1,l1,c1,m1⟩:=q;obtain⟨ba,la⟩:=a;obtain⟨bb,lb⟩:=b;exact Num_3 h1 h2 h3
 by_cases h4:b.2.length<=2
 case neg=>obtain⟨b1,l1,c1,m1⟩:=q;obtain⟨ba,la⟩:=a;obtain⟨bb,lb⟩:=b;exact Num_4 h1 h2 h3 h4
 have iQ:Ra (q4A (rq q)) (rqv q) 2:=Ra.rawq hq ⟨h1,h2⟩;have hv:RB (rqv q) 2:=iQ.rb zc
 have zA:ZQ (rz a) (sgn a.1 (nval WB a.2)) 2:=ZQ.raw ha h3;have zB:ZQ (rz b) (sgn b.1 (nval WB b.2)) 2:=ZQ.raw hb h4;have nA:NI (.sat (bL a.2)) (nval WB a.2) 2:=(NI.raw a.2).le h3;have nB:NI (.sat (bL b.2)) (nval WB b.2) 2:=(NI.raw b.2).le h4;have zBp:1<=sgn b.1 (nval WB b.2)->ZQ (false,(rz b).2) (sgn b.1 (nval WB b.2)) 2:=fun h=>by
  have e:sgn b.1 (nval WB b.2)=sgn false (nval WB b.2):=by
   cases hb1:b.1 with
   |false=>rfl
   |true=>rw[hb1]at h;unfold sgn at h ⊢;simp at h ⊢;omega
  rw[e];exact ZQ.raw hb h4
 have hP:∃(p:Int) (ok:Bool),p.natAbs < WB ^ 100/\ah prog 10 [.agg (z2A (rz a)),.agg (zN 5),.agg (z2A (rz b))] (.tup [.agg (zN p),.one (.c (.val (.bool ok)))])/\
   ah prog 15 [.v (str oW),.r (aB 15 vlE [vI (sgn a.1 (nval WB a.2)),vI 5,vI (sgn b.1 (nval WB b.2))]),.agg (vlA (vI p)),.v (.int .i64 (if ok then 0 else 3))] (.v (.bool true)):=by
  by_cases hy:0 < sgn b.1 (nval WB b.2)
  ·have hb2:(pw5 (sgn a.1 (nval WB a.2)) (sgn b.1 (nval WB b.2)) 3).natAbs < WB ^ 2:=ahy hy zB.b 3;exact⟨_,true,abK zc hb2,aeK nA nB hy zc zc zA.b zB.b,gZ (an6 zA.b zB.b zc zc hy) (NuI hb2 zc zc)⟩
  ·exact⟨0,false,pow0,ah.resI (acC (l:=[]) (x0:= .c (.val (.bool false))) (x1:= .c (.val (.bool false))) nB hy zc) (arL nilZA),abf zc (ak5 zA.b zB.b zc zc hy)⟩
 have hC:∃(n m f:Int),n.natAbs < WB ^ 100/\m.natAbs < WB ^ 100/\ah prog 12 [.r (aB 2 z2C [rz a]),.r (aB 2 z2C [rz b])] (.tup [.agg (zN n),.agg (zN m),.one (.c (.val (.int .i64 f)))])/\
   ah prog 15 [.v (str wF),.r (aB 15 vlE [dz [vI (sgn a.1 (nval WB a.2))],dz [vI (sgn b.1 (nval WB b.2))]]),.agg (vlA (dz [vI n,vI m])),.v (.int .i64 f)] (.v (.bool true)):=by
  have hF:∀u∈[dz [vI (sgn a.1 (nval WB a.2))],dz [vI (sgn b.1 (nval WB b.2))]],ah prog 65 [.agg (vlA u)] (.v (.bool true)):=F2 ((ajH (RB.ofI zA.b zc)).F zc zc) ((ajH (RB.ofI zB.b zc)).F zc zc)
  by_cases hy:1<=sgn b.1 (nval WB b.2)
  ·have hr:(sgn a.1 (nval WB a.2) % sgn b.1 (nval WB b.2)).natAbs < WB ^ 2:=qm zE zB.b
   refine⟨_,_,0,abK zc hr,abK zc zB.b,afK zA zB hy zc zc (zBp hy),gZ (apE hF (afU zA.b zB.b zc zc hy rfl)) ?_⟩
   exact aqh (K:=2) (n:=1) (ajM (RB.ofI hr zc) (RB.ofI zB.b zc)) zc zc
  ·exact⟨0,0,1,pow0,pow0,ace zA zB zE zc,abf zc (amf hF (adH zA.b zB.b zc zc zE))⟩
 have hM:∃(w:Int) (sm:Bool),ah prog 13 [.agg (z2A (rz a))] (.tup [.one (.c (.val (.int .i64 w))),.one (.c (.val (.bool sm)))])/\
   ((sm=false/\prB (sgn a.1 (nval WB a.2))=false)\/(sm=true/\¬w > 0/\prB (sgn a.1 (nval WB a.2))=false)\/(sm=true/\w > 0/\IntKind.u64.wrap w=w/\ah prog 14 [.v (.int .u64 w)] (.v (.bool (prB (sgn a.1 (nval WB a.2))))))):=by
  haveI:=zA.zi
  have cS:=aqw (l:=z2A (rz a)) (z:=sgn a.1 (nval WB a.2)) (k:=2) zc
  refine⟨_,_,cS,?_⟩;generalize sgn a.1 (nval WB a.2)=z;cases hs:kL z with
  |false=>
   refine .inl ⟨rfl,?_⟩;unfold prB;by_cases h0:0 < z
   ·have:¬PrP z.natAbs:=fun h=>by
     have:=h.lt;unfold kL at hs;simp at hs
     omega
    rw[decide_eq_false this,Bool.and_false]
   ·rw[decide_eq_false h0,Bool.false_and]
  |true=>
   have e:qH z=z:=by unfold qH;rw[hs];rfl
   rw[e];by_cases h0:0 < z
   ·refine .inr (.inr ⟨rfl,h0,?_,?_⟩)
    ·unfold kL at hs;simp at hs;rw[IntKind.wrap_u64];omega
    ·obtain⟨n,rfl⟩:∃n:Nat,z=n:=⟨z.toNat,zE⟩
     have e2:prB (n:Int)=decide (PrP n):=by unfold prB;rw[decide_eq_true h0,Bool.true_and,zxa]
     rw[e2];unfold kL at hs;simp at hs;exact pK n zE
   ·refine .inr (.inl ⟨rfl,h0,?_⟩);unfold prB;rw[decide_eq_false h0,Bool.false_and]
 haveI iX:=zA.zi
 haveI iY:=zB.zi
 have cX:=amT (l:=z2A (rz a)) (l':=z2A (rz b)) (x:=sgn a.1 (nval WB a.2)) (y:=sgn b.1 (nval WB b.2)) (k:=2) (m:=2) zc
 have bA:=zA.b;have bB:=zB.b;have cA:=dY zA zc zc
 have cB:=dY zB zc zc
 generalize sgn a.1 (nval WB a.2)=x at*;generalize sgn b.1 (nval WB b.2)=y at*;obtain⟨p,ok,bp,cP,k8⟩:=hP;obtain⟨n,m,f,bn,bm,cC,k9⟩:=hC;obtain⟨w,sm,cM,hp⟩:=hM
 haveI i1:Bd x 2:=⟨bA⟩
 haveI i2:Bd y 2:=⟨bB⟩
 have bg:(Int.gcd x y:Int).natAbs < WB ^ 100:=abK zc (ajv bA bB zc zc)
 have bs:(xgx x y).natAbs < WB ^ 100:=abK zc (Bd.xgx x y 2 2).h
 have bt:(xgy x y).natAbs < WB ^ 100:=abK zc (Bd.xgy x y 2 2).h
 have cV:=jJ (q:=rq q) iQ zc
 haveI iC:=Ra.cq hv
 obtain⟨f1,cF1,d1,u1,e1⟩:=anB (q4A (rq q)) (v:=rqv q) (K:=2) zc
 obtain⟨f2,cF2,d2,u2,e2⟩:=anB (q4A (rq (cq (rqv q)))) (v:=rqv q) (K:=2) zc
 obtain rfl:f1=f2:=Int.le_antisymm (asY d1 u2) (asY d2 u1);obtain⟨r1,cR1,g1,o1,j1⟩:=anV (q4A (rq q)) (v:=rqv q) (K:=2) zc
 obtain⟨r2,cR2,g2,o2,j2⟩:=anV (q4A (rq (cq (rqv q)))) (v:=rqv q) (K:=2) zc
 obtain rfl:r1=r2:=Int.le_antisymm (aqp g1 o2) (aqp g2 o1);obtain⟨z,cS,z0,zn⟩:=asU (q4A (rq (cq (rqv q)))) (v:=rqv q) (K:=2) zc
 have hF:ah prog 65 [.agg (vlA (bW (rqv q)))] (.v (.bool true)):=(Cv.one (n:=0) (.num _ hv:Sh 2 _)).F zc zc
 have k1:=gZ (vE (.inl rfl) hv zc zc hF (afx e1.h zc zc cF2)) (NuI e1.h zc zc)
 have k2:=gZ (vE (.inr (.inl rfl)) hv zc zc hF (agx j1.h zc zc cR2)) (NuI j1.h zc zc)
 have hu:RB (if rqv q < 0 then -rqv q else rqv q) 2:=by split;exact hv.neg;exact hv
 have k3:=gZ (acs (.inl rfl) hv zc zc hF (aeV hv zc zc)) (NuS hu zc)
 have k4:=gZ (vE (.inr (.inr (.inl rfl))) hv zc zc hF (agd hv.n zc zc)) (NuI hv.n zc zc)
 have hvd:((rqv q).den:Int).natAbs < WB ^ 2:=hv.d;have k5:=gZ (vE (.inr (.inr (.inr rfl))) hv zc zc hF (afc hvd zc zc)) (NuI hvd zc zc)
 have k6:=gZ (akE bA bB zc zc) (NuI bg zc zc)
 have k7:=gZ (aiv bA bB zc zc) (aqh (K:=100) (n:=1) (ar9 (RB.ofI bg zc) (RB.ofI bs zc) (RB.ofI bt zc)) zc zc)
 have k10:=gZ (acs (.inr rfl) (RB.ofI bA zc) zc zc (kS bA zc zc) (agp bA zc zc)) (NuS (K:=1) (by split;exact RB.one (zq6 1);exact RB.zero (zq6 1)) zc)
 have k11:=gZ (aob (vs:=[vI x,vI y]) (zqc rfl) ((ajM (RB.ofI bA zc) (RB.ofI bB zc)).F zc zc)) (NuI (z:=2) (K:=1) (by rw[zxh,dn];decide) zc zc)
 have cNu:=dY (adJ hv.n) zc zc
 have cDe:=dY (adJ hvd) zc zc
 by_cases hz:rqv q < 0
 ·rw[if_pos hz]at k3;exact ag4 (AB:=q4v (-rqv q)) (K:=100) h1 h2 h3 h4 cV cA cB cS (.inl ⟨zn.2 hz,aeG.h zc⟩) (jJ hv.neg.ra zc) cX cP cC cM hp cF1 cR1 zc zc (abK zc e1.h) (abK zc j1.h) bg bs bt bp bn bm cNu cDe k1 k2 k3 k4 k5 k6 k7 k8 k9 k10 k11
 ·rw[if_neg hz]at k3;exact ag4 (AB:=rq (cq (rqv q))) (K:=100) h1 h2 h3 h4 cV cA cB cS (.inr ⟨fun h=>hz (zn.1 h),rfl⟩) (jJ iC zc) cX cP cC cM hp cF1 cR1 zc zc (abK zc e1.h) (abK zc j1.h) bg bs bt bp bn bm cNu cDe k1 k2 k3 k4 k5 k6 k7 k8 k9 k10 k11
