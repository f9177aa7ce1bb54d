import Derived.Test.YtcamgbgfelmbaaaGreatDoorO4
import Derived.Test.YtcamgbgfelmbaaaGreatDoorO23
import Derived.Test.YtcamgbgfelmbaaaGreatDoorO3
set_option linter.all false
set_option maxRecDepth 20000
set_option maxHeartbeats 2000000
open Go.Proofs.Tryz
namespace Go.Proofs.YtcamgbgfelmbaaaGreatDoor
variable{ag cells':List SX.CA}{b zs zs':List Int}{vs vs':List Rat}{l l':List Z2}{K K' L c c' i j m p p' r' size:Nat}{P:Go.Program}{v' y:Rat}
section
open Go.RowKit QM SX
open Go.ChangeShapes Go.WideShapes Go.ChangeAt Go.Joins
section
variable{H:Type}{enc:TypeId×Value->H}{P:Program}{W:World}{base:Nat}{sp:Nat->Bool}{hd:Bool}
def iE.imp{α β:Type}{n:Nat}{t:TypeId}{e:α->List CA}{φ:α->Prop}{e':β->List CA}{ψ:β->Prop}(h:iE enc P W base sp hd n t e φ)(f:α->β)(hf:∀a,φ a->ψ (f a))(he:∀a cs,φ a->aM (CA.has none' W) (e a) cs->aM (CA.has none' W) (e' (f a)) cs):iE enc P W base sp hd n t e' ψ:=
 fun cs x hx=>let⟨a,h1,h2⟩:=h cs x hx;⟨f a,hf a h1,he a cs h1 h2⟩
def u64C(z:Int):List CA:=[.val (.int .u64 z)]
instance:dY u64C 1:=⟨fun _=>rfl⟩
def decNat(n:Nat):iE enc prog W base sp hd n 31 (fun l:List Nat=>[.sat (dV l)]) (fun _=>True):=
 iE.all (fun n=>iE.imp (afv (enc':=u64C) underlying31 yW (af9 underlying35)) (fun l=>l.map Int.toNat) (fun _ _=>trivial) (fun l cs hl hall=>by
  match cs,hall with
  |[v],⟨h1,_⟩=>
   refine⟨?_,trivial⟩;have hb:∀z∈l,0<=z/\z<=18446744073709551615:=fun z hz=>bounds_u64 (hl.2 z hz)
   refine nY.2 ⟨?_,?_⟩
   ·intro x hx;obtain⟨z,hz,rfl⟩:=zqg.1 hx;have:=hb z hz;rw[bf];omega
   ·have e:(l.map Int.toNat).map (fun x:Nat=>CA.val (.int .u64 (x:Int)))=l.flatMap u64C:=by
     clear h1 hall hl
     induction l with
     |nil=>rfl
     |cons z l ih=>
      have:=hb z zp
      rw[zy6,zy6,zq7,ih (fun y hy=>hb y (by simp[hy]))]
      show _::_=CA.val (.int .u64 z)::_;rw[show ((z.toNat:Nat):Int)=z by omega];rfl
    rw[e,zq5];exact h1)) n
end
end
section
open Go.RowKit QM SX LA
open Go.ChangeShapes Go.WideShapes Go.ChangeAt Go.Joins
section
variable{H:Type}{enc:TypeId×Value->H}{W:World}{base:Nat}{sp:Nat->Bool}{hd:Bool}
def sm_of{l:List Nat}:∀{cs:List Value},aM (CA.has none' W) [.sat (dV l)] cs->Sm WB l
 |[v],h=>(nY.1 h.1).1
def axn(n:Nat):iE enc prog W base sp hd n 31 (fun l:List Nat=>[.sat (dV l)]) (fun l=>Sm WB l):=
 fun cs x hx=>let⟨l,_,h2⟩:=decNat n cs x hx;⟨l,sm_of h2,h2⟩
def decZS(n:Nat):iE enc prog W base sp hd n 33 (fun p:Bool×List Nat=>[.val (.bool p.1),.sat (dV p.2)]) (fun p=>Sm WB p.2):=
 iE.all (fun n=>iE.conv (ah5 underlying33 rfl yW yW (arp underlying4) (axn n)) id (fun _ h=>h.2) (fun _=>rfl)) n
end
attribute [local irreducible] IntKind.wrap Go1 Reg WP aK aN bD aZ aJ aA aj ak aT Sat
theorem Ra.mono{l:List Atom}{v:Rat}(h:Ra l v K)(hK:K<=L):Ra l v L:=by
 obtain⟨x0,x1,x2,x3,p,q,k,m,h1,h2,h3,h4,h5,h6,h7,h8⟩:=h.h;exact⟨x0,x1,x2,x3,p,q,k,m,h1,h2,h3,zE,zE,h6,h7,h8⟩
end
section
open Go.RowKit QM SX LA
attribute [local irreducible] IntKind.wrap Go1 Reg WP aK aN bD aZ aJ aA aj ak aT Sat
abbrev ptrM(r c:Nat)(l:List Q4):AV:= .r (dL [.val (.int .i64 (r:Int)),.val (.int .i64 (c:Int)),.sat (aD 4 q4C l)])
def q0:Q4:=q4v 0
def qat(l:List Q4)(c i k:Nat):Q4:=l.getD (i*c+k) q0
def adI{l:List Q4}{r k:Nat}(hl:l.length=r*c)(hi:i < r)(hk:k < c):l[i*c+k]? =some (qat l c i k):=by
 have h:=rW hi hk;unfold qat;rw[zx7,zyh zE];rfl
theorem MV.qat{r c i k K:Nat}{l:List Q4}{vs:List Rat}(hM:MV l vs K)(hl:l.length=r*c)(hi:i < r)(hk:k < c):Ra (q4A (qat l c i k)) (vat vs c i k) K:=
 hM.ra _ _ _ (adI hl hi hk) (apX (by rw[<-hM.len];exact hl) hi hk)
def ae0{r:Nat}{l l':List Q4}(hl:l.length=r*c)(hl':l'.length=r'*c')(hr:r<=64)(hc:c<=64)(hr':r'<=64)(hc':c'<=64)(goal:Bool)(hg:goal=true↔r=r'/\c=c'):
  ah prog 421 [.agg (qp r c l),.agg (qp r' c' l')] (.v (.bool goal)):=by
 have cF:=zm (ag:=l.flatMap q4C) hl hr hc;have cF':=zm (ag:=l'.flatMap q4C) hl' hr' hc';refine ah.fq func421 ?_;intros
 by_cases h1:(r:Int)=(r':Int)
 ·refine zg ?_;refine aU ?_;rw[zyc,hg,decide_eq_true_iff];omega
 ·refine zg ?_;refine aU ?_;exact(Bool.eq_false_iff.2 fun ht=>h1 (by have:=(hg.1 ht).1;omega)).symm
def apW{r k:Nat}{l l':List Q4}{q q':Q4}{v:Rat}(hq:l[i*c+k]? =some q)(hq':l'[i*c+k]? =some q')(ra:Ra (q4A q) v K)(ra':Ra (q4A q') v' K')(hi:i<=100)(hc:c<=100)(hk:k<=100)(hK:K+K'<=400000):
  ah prog 435 [.v (.int .i64 (i:Int)),.v (.int .i64 (k:Int)),ptrM r c l,ptrM r c l'] (.agg (q4A (q4v (v+v')))):=by
 have cG:=aby (r:=r) hq hi hc hk;have cG':=aby (r:=r) hq' hi hc hk;have cA:=(au9 (a:=ra) (b:=ra')).h zE
 refine ah.fq func435 ?_;intros
 refine zg ?_;exact jG aj.wh rfl
def aoP{r:Nat}{l l':List Q4}(hM:MV l vs K)(hl:l.length=r*c)(hM':MV l' vs' K')(hl':l'.length=r*c)(hr:r<=64)(hc:c<=64)(h1:1<=K)(h1':1<=K')(hK:K+K'<=300000):
  ah prog 327 [.agg (qp r c l),.agg (qp r c l')] (.tup [.agg (ahB r c (ku c (fun i k=>vat vs c i k+vat vs' c i k) r)),eNo 0]):=by
 have cF:=ae0 hl hl' hr hc hr hc true ⟨fun _=>⟨rfl,rfl⟩,fun _=>rfl⟩
 have cM:=zw r c (.sat (jR 435 [] [.sat (dL [.val (.int .i64 (r:Int)),.val (.int .i64 (c:Int)),.sat (aD 4 q4C l)]),.sat (dL [.val (.int .i64 (r:Int)),.val (.int .i64 (c:Int)),.sat (aD 4 q4C l')])])) (fun i k=>q4v (vat vs c i k+vat vs' c i k)) (fun i k=>vat vs c i k+vat vs' c i k) (K+K'+1) zE zE zE
  (fun i k hi hk=>FnV.clo (apW (adI hl hi hk) (adI hl' hi hk) (hM.qat hl hi hk) (hM'.qat hl' hi hk) zE zE zE zE))
  (fun i k hi hk=>((akJ (hM.rb h1) h1 c i k).add (akJ (hM'.rb h1') h1' c i k)).ra) rfl
 refine ah.fq func327 fun _ _ _ _ hB=>?_
 refine zg ?_;refine WP.dG 2 hB rfl rfl ?_;refine WP.dG 3 hB rfl rfl ?_;refine WP.aG ?_;refine zg ?_;exact .ok (aA.mk2 aj.aW (aj.tmp rfl))
def atg{r k:Nat}{l:List Q4}{q d:Q4}{v:Rat}(hq:l[i*c+k]? =some q)(ra:Ra (q4A q) v K)(ra':Ra (q4A d) v' K')(hi:i<=100)(hc:c<=100)(hk:k<=100)(hK:K+K'<=400000):
  ah prog 333 [.v (.int .i64 (i:Int)),.v (.int .i64 (k:Int)),ptrM r c l,.r (dL [.val (.bool d.1),.sat d.2.1,.val (.bool d.2.2.1),.sat d.2.2.2])] (.agg (q4A (q4v (v*v')))):=by
 have cG:=aby (r:=r) hq hi hc hk;have cA:=(aif (a:=ra) (b:=ra')).h zE
 refine ah.fq func333 ?_;intros
 refine zg ?_;exact jG aj.wh rfl
def aaL{r:Nat}{l:List Q4}{d:Q4}{v:Rat}(hM:MV l vs K)(hl:l.length=r*c)(hd:Ra (q4A d) v K')(hr:r<=64)(hc:c<=64)(h1:1<=K)(h1':1<=K')(hK:K+K'<=300000):
  ah prog 243 [.agg (qp r c l),.agg (q4A d)] (.tup [.agg (ahB r c (ku c (fun i k=>vat vs c i k*v) r)),eNo 0]):=by
 have cF:=zm (ag:=l.flatMap q4C) hl hr hc;have cM:=zw r c (.sat (jR 333 [] [.sat (dL [.val (.int .i64 (r:Int)),.val (.int .i64 (c:Int)),.sat (aD 4 q4C l)]),.sat (dL [.val (.bool d.1),.sat d.2.1,.val (.bool d.2.2.1),.sat d.2.2.2])])) (fun i k=>q4v (vat vs c i k*v)) (fun i k=>vat vs c i k*v) (K+K') zE zE zE
  (fun i k hi hk=>FnV.clo (atg (adI hl hi hk) (hM.qat hl hi hk) hd zE zE zE zE))
  (fun i k hi hk=>((akJ (hM.rb h1) h1 c i k).mul (Ra.rb hd h1')).ra) rfl
 refine ah.fq func243 fun _ _ _ _ hB=>?_
 refine zg ?_;refine WP.dG 2 hB rfl rfl ?_;refine WP.dG 3 hB rfl rfl ?_;refine WP.aG ?_;refine zg ?_;exact .ok (aA.mk2 aj.aW (aj.tmp rfl))
def awj{r:Nat}(hl:vs.length=r*c):ku c (vat vs c) r=vs:=by
 apply zyb
 intro n;rcases zyd n (r*c)with h|h
 ·have hc:0 < c:=by
   rcases zye c with h0|h0
   ·subst h0;omega
   ·exact h0
  have h1:n / c < r:=by rw[Nat.div_lt_iff_lt_mul hc];exact h
  have h2:=zyi n hc;have h3:n / c*c+n % c=n:=by rw[zxj];exact Nat.div_add_mod n c
  have a1:=agj (val:=vat vs c) h2 h1;have a2:=apX hl h1 h2;rw[h3]at a1 a2;rw[a1,a2]
 ·rw[zqe (by rw[oC];exact h),zqe zE]
abbrev ajP(r c:Nat)(l:List Z2):AV:= .r (dL [.val (.int .i64 (r:Int)),.val (.int .i64 (c:Int)),.sat (aD 2 z2C l)])
def y8(l:List Z2)(c i k:Nat):Z2:=l.getD (i*c+k) (z2v 0)
def abD{r k:Nat}(hl:l.length=r*c)(hi:i < r)(hk:k < c):l[i*c+k]? =some (y8 l c i k):=by
 have h:=rW hi hk;unfold y8;rw[zx7,zyh zE];rfl
def MZ.y8{r c i k K:Nat}{l:List Z2}{zs:List Int}(hM:MZ l zs K)(hl:l.length=r*c)(hi:i < r)(hk:k < c):ZQ (y8 l c i k) (zat zs c i k) K:=
 hM.z _ _ _ (abD hl hi hk) (qh (by rw[<-hM.len];exact hl) hi hk)
def ala{r:Nat}(hl:l.length=r*c)(hl':l'.length=r'*c')(hr:r<=64)(hc:c<=64)(hr':r'<=64)(hc':c'<=64)(goal:Bool)(hg:goal=true↔r=r'/\c=c'):
  ah prog 528 [.agg (og r c l),.agg (og r' c' l')] (.v (.bool goal)):=by
 have cF:=pY (ag:=l.flatMap z2C) (gX.nat hr hc hl);have cF':=pY (ag:=l'.flatMap z2C) (gX.nat hr' hc' hl');refine ah.fq func528 ?_;intros
 by_cases h1:(r:Int)=(r':Int)
 ·refine zg ?_;refine aU ?_;rw[zyc,hg,decide_eq_true_iff];omega
 ·refine zg ?_;refine aU ?_;exact(Bool.eq_false_iff.2 fun ht=>h1 (by have:=(hg.1 ht).1;omega)).symm
def auF{r k:Nat}{q q':Z2}{v v':Int}(hq:l[i*c+k]? =some q)(hq':l'[i*c+k]? =some q')(ra:ZQ q v K)(ra':ZQ q' v' K')(hi:i<=100)(hc:c<=100)(hk:k<=100)(hK:K+K'<=400000):
  ah prog 529 [.v (.int .i64 (i:Int)),.v (.int .i64 (k:Int)),ajP r c l,ajP r c l'] (.agg (z2A (z2v (v+v')))):=by
 have cG:=qN (r:=r) hq zE zE zE
 have cG':=qN (r:=r) hq' zE zE zE
 have cA:=(yN (h:=ra.zi) (h':=ra'.zi)).h zE
 refine ah.fq func529 ?_;intros
 refine zg ?_;exact jG aj.fK rfl
def add_lt{a b:Int}(h:a.natAbs < WB ^ K)(h':b.natAbs < WB ^ K):(a+b).natAbs < WB ^ (K+1):=by
 have:=afM K;omega
def aoo{r:Nat}(hM:MZ l zs K)(hl:l.length=r*c)(hM':MZ l' zs' K)(hl':l'.length=r*c)(hr:r<=64)(hc:c<=64)(hK:K<=100000):
  ah prog 464 [.agg (og r c l),.agg (og r c l')] (.tup [.agg (nG r c (fJ c (fun i k=>zat zs c i k+zat zs' c i k) r)),eNo 0]):=by
 have cF:=ala hl hl' hr hc hr hc true ⟨fun _=>⟨rfl,rfl⟩,fun _=>rfl⟩
 have cM:=qR r c (.sat (jR 529 [] [.sat (dL [.val (.int .i64 (r:Int)),.val (.int .i64 (c:Int)),.sat (aD 2 z2C l)]),.sat (dL [.val (.int .i64 (r:Int)),.val (.int .i64 (c:Int)),.sat (aD 2 z2C l')])])) (fun i k=>z2v (zat zs c i k+zat zs' c i k)) (fun i k=>zat zs c i k+zat zs' c i k) (K+1) zE zE zE
  (fun i k hi hk=>FnV.clo (auF (abD hl hi hk) (abD hl' hi hk) (hM.y8 hl hi hk) (hM'.y8 hl' hi hk) zE zE zE zE))
  (fun i k hi hk=>ZQ.made (add_lt (hM.y8 hl hi hk).b (hM'.y8 hl' hi hk).b)) rfl
 refine ah.fq func464 fun _ _ _ _ hB=>?_
 refine zg ?_;refine WP.dG 2 hB rfl rfl ?_;refine WP.dG 3 hB rfl rfl ?_;refine WP.aG ?_;refine zg ?_;exact .ok (aA.mk2 aj.aW (aj.tmp rfl))
def ati{r k:Nat}{q d:Z2}{v v':Int}(hq:l[i*c+k]? =some q)(ra:ZQ q v K)(ra':ZQ d v' K')(hi:i<=100)(hc:c<=100)(hk:k<=100)(hK:K+K'<=400000):
  ah prog 530 [.v (.int .i64 (i:Int)),.v (.int .i64 (k:Int)),ajP r c l,.r (dL [.val (.bool d.1),.sat d.2])] (.agg (z2A (z2v (v*v')))):=by
 have cG:=qN (r:=r) hq zE zE zE
 have cA:=(abX (h:=ra.zi) (h':=ra'.zi)).h zE
 refine ah.fq func530 ?_;intros
 refine zg ?_;exact jG aj.fK rfl
def kG{a b:Int}(h:a.natAbs < WB ^ K)(h':b.natAbs < WB ^ L):(a*b).natAbs < WB ^ (K+L):=by
 rw[zve];exact fZ h h'
def ahm{r:Nat}{d:Z2}{v:Int}(hM:MZ l zs K)(hl:l.length=r*c)(hd:ZQ d v K')(hr:r<=64)(hc:c<=64)(hK:K+K'<=300000):
  ah prog 465 [.agg (og r c l),.agg (z2A d)] (.tup [.agg (nG r c (fJ c (fun i k=>zat zs c i k*v) r)),eNo 0]):=by
 have cF:=pY (ag:=l.flatMap z2C) (gX.nat hr hc hl);have cM:=qR r c (.sat (jR 530 [] [.sat (dL [.val (.int .i64 (r:Int)),.val (.int .i64 (c:Int)),.sat (aD 2 z2C l)]),.sat (dL [.val (.bool d.1),.sat d.2])])) (fun i k=>z2v (zat zs c i k*v)) (fun i k=>zat zs c i k*v) (K+K') zE zE zE
  (fun i k hi hk=>FnV.clo (ati (abD hl hi hk) (hM.y8 hl hi hk) hd zE zE zE zE))
  (fun i k hi hk=>ZQ.made (kG (hM.y8 hl hi hk).b hd.b)) rfl
 refine ah.fq func465 fun _ _ _ _ hB=>?_
 refine zg ?_;refine WP.dG 2 hB rfl rfl ?_;refine WP.dG 3 hB rfl rfl ?_;refine WP.aG ?_;refine zg ?_;exact .ok (aA.mk2 aj.aW (aj.tmp rfl))
def smZ:Nat->(Nat->Int)->Int
 |0,_=>0
 |n+1,f=>smZ n f+f n
def adh{f:Nat->Int}{K:Nat}:∀{n:Nat},(∀j,j < n->(f j).natAbs < WB ^ K)->(smZ n f).natAbs < WB ^ (K+n)
 |0,_=>ajR _
 |n+1,h=>by
  have h1:=adh (n:=n) fun j hj=>h j zE
  have h2:=zqf (h n zE) (zx2 (n:=WB) aX (show K<=K+n by omega))
  exact add_lt h1 h2
def aB.au1{ρ:List (Nat×Option Nat)}:aB ρ (.c (.val (.slice none 0 0))) (.c (.sat (bI 0))):=fun E S w v hv=>by
 rw[show v= .slice none 0 0 from hv]
 refine ach.2 ⟨[],by unfold Nrm;simp,rfl,fun _=>rfl,?_⟩
 exact nY.2 ⟨Sm.nil,ag2 (enc:=fun x:Nat=>[CA.val (.int .u64 (x:Int))])⟩
def aqW{r d k:Nat}(hM:MZ l zs K)(hl:l.length=r*c)(hM':MZ l' zs' K')(hl':l'.length=c*d)(hi:i < r)(hk:k < d)(hr:r<=100)(hc:c<=100)(hd:d<=100)(hKB:K+K'<=100000):
  ah prog 461 [.v (.int .i64 (i:Int)),.v (.int .i64 (k:Int)),ajP r c l,ajP c d l'] (.agg (z2A (z2v (smZ c (fun j=>zat zs c i j*zat zs' d j k))))):=by
 have hsm:∀j,j<=c->(smZ j (fun j=>zat zs c i j*zat zs' d j k)).natAbs < WB ^ (K+K'+j):=fun j hj=>adh fun j hj=>kG (hM.y8 hl hi zE).b (hM'.y8 hl' zE hk).b
 refine ah.fq func461 ?_;intros
 refine zg ?_;refine W.loop (fun j=>j<=c) (fun j=>[(0,.v (.int .i64 (i:Int))),(1,.v (.int .i64 (k:Int))),(2,ajP r c l),(3,ajP c d l'),(6,.ptr 6 0),(7,.ptr 7 0),(10,.v (.int .i64 (c:Int))),(11,.v (.int .i64 (j:Int)))]) (fun j=>[(6,.box 33 [.c (.val (.bool false)),.c (.val (.slice none 0 0))]),(7,.box 33 (zN (smZ j (fun j=>zat zs c i j*zat zs' d j k))))]) (fun j=>c - j) 0 (zq8 _) (fun j hj=>?_)
  (by
   refine St.aS [] z6 ?_ ?_ rfl
   ·exact yd
   ·exact⟨ay.same rfl rfl,ay.jE rfl rfl ⟨aB.same rfl,aB.au1,trivial⟩,trivial⟩)
 by_cases hj2:j < c
 ·obtain⟨q,hq,ra⟩:=hM.at hl hi hj2;obtain⟨q',hq',ra'⟩:=hM'.at hl' hj2 hk;have cA:=qN (r:=r) hq zE zE zE
  have cA':=qN (r:=c) hq' zE zE zE
  have rs:=(ZQ.made (hsm j hj)).zi;have rp:=(ZQ.made (kG ra.b ra'.b)).zi;have cM:=(abX (h:=ra.zi) (h':=ra'.zi)).h zE
  have cD:=(yN (h:=rs) (h':=rp)).h zE
  refine zg ?_;refine W.next (j+1) hj2 zE (by
   refine St.aS [] z6 ?_ ?_ rfl
   ·exact yd
   ·exact⟨ay.same rfl rfl,ay.same rfl rfl,trivial⟩)
 ·obtain rfl:j=c:=zE
  refine zg ?_;exact jG aj.fK rfl
def ap5{r d:Nat}(hM:MZ l zs K)(hl:l.length=r*c)(hM':MZ l' zs' K')(hl':l'.length=c*d)(hr:r<=64)(hc:c<=64)(hd:d<=64)(hKB:K+K'<=100000):
  ah prog 367 [.agg (og r c l),.agg (og c d l')] (.tup [.agg (nG r d (fJ d (fun i k=>smZ c (fun j=>zat zs c i j*zat zs' d j k)) r)),eNo 0]):=by
 have cF:=pY (ag:=l.flatMap z2C) (gX.nat hr hc hl);have cF':=pY (ag:=l'.flatMap z2C) (gX.nat hc hd hl');have cM:=qR r d (.sat (jR 461 [] [.sat (dL [.val (.int .i64 (r:Int)),.val (.int .i64 (c:Int)),.sat (aD 2 z2C l)]),.sat (dL [.val (.int .i64 (c:Int)),.val (.int .i64 (d:Int)),.sat (aD 2 z2C l')])])) (fun i k=>z2v (smZ c (fun j=>zat zs c i j*zat zs' d j k))) (fun i k=>smZ c (fun j=>zat zs c i j*zat zs' d j k)) (K+K'+c) zE zE zE
  (fun i k hi hk=>FnV.clo (aqW hM hl hM' hl' hi hk zE zE zE hKB))
  (fun i k hi hk=>ZQ.made (adh fun j hj=>kG (hM.y8 hl hi hj).b (hM'.y8 hl' hj hk).b)) rfl
 refine ah.fq func367 fun _ _ _ _ hB=>?_
 refine zg ?_;refine WP.dG 2 hB rfl rfl ?_;refine WP.dG 3 hB rfl rfl ?_;refine WP.aG ?_;refine zg ?_;exact .ok (aA.mk2 aj.aW (aj.tmp rfl))
end
section
open Go.RowKit QM SX LA
open Go.ChangeShapes Go.WideShapes Go.ChangeAt Go.Joins
abbrev mM:=Bool×List Nat
abbrev rz(x:mM):Z2:=(x.1,dV x.2)
def rzv(x:mM):Int:=sgn x.1 (nval WB x.2)
def rzC(p:mM):List CA:=z2C (rz p)
instance:dY rzC 2:=⟨fun _=>rfl⟩
abbrev RawW:=Int×Int×List mM
section
variable{H:Type}{enc:TypeId×Value->H}{W:World}{base:Nat}{sp:Nat->Bool}{hd:Bool}
def azV(l:List mM):aD 2 rzC l=aD 2 z2C (l.map rz):=by
 show aP 2 l.length (l.flatMap rzC)=aP 2 (l.map rz).length ((l.map rz).flatMap z2C);rw[zq5,List.flatMap_map];rfl
def aze(n:Nat):iE enc prog W base sp hd n 22 (fun l:List mM=>[.sat (aD 2 rzC l)]) (fun l=>l.length<=maxLen/\∀a∈l,Sm WB a.2):=
 iE.all (fun n=>afv (enc':=rzC) underlying22 yW (iE.conv (decZS n) id (fun _ h=>h) (fun _=>rfl))) n
def decZMat(n:Nat):iE enc prog W base sp hd n 24 (fun p:RawW=>[.val (.int .i64 p.1),.val (.int .i64 p.2.1),.sat (aD 2 z2C (p.2.2.map rz))]) (fun p=>∀a∈p.2.2,Sm WB a.2):=
 iE.all (fun n=>iE.conv (aiD underlying24 rfl yW yW yW (af9 underlying3) (af9 underlying3) (aze n)) id (fun p h=>h.2.2.2) (fun p=>by
  show [CA.val (.int .i64 p.1),CA.val (.int .i64 p.2.1),CA.sat (aD 2 z2C (p.2.2.map rz))]=[CA.val (.int .i64 p.1),CA.val (.int .i64 p.2.1),CA.sat (aD 2 rzC p.2.2)];rw[azV])) n
end
attribute [local irreducible] IntKind.wrap Go1 Reg WP aK aN bD aZ aJ aA aj ak aT Sat
def MZ.raw{l:List mM}{K:Nat}(hs:∀a∈l,Sm WB a.2)(hl:∀a∈l,a.2.length<=K):MZ (l.map rz) (l.map rzv) K:=by
 refine⟨by rw[zq5,zq5],fun i q z hq hz=>?_⟩
 rw[zqa]at hq hz
 cases hx:l[i]? with
 |none=>rw[hx]at hq;cases hq
 |some x=>
  rw[hx]at hq hz;cases hq;cases hz;exact ZQ.raw (hs x (zq4 hx)) (hl x (zq4 hx))
def aej(r c:Int){n:Nat}(goal:Bool)(hg:goal=true↔gX r c n):ah prog 14 [.agg [.c (.val (.int .i64 r)),.c (.val (.int .i64 c)),.c (.sat (aP 2 n ag))]] (.v (.bool goal)):=by
 refine ah.fq func14 ?_;intros
 by_cases h1:r≥0
 ·by_cases h2:r<=64
  ·by_cases h3:c≥0
   ·by_cases h4:c<=64
    ·have hp:0<=r*c:=Int.mul_nonneg h1 h3;have hp2:r*c<=64*64:=Int.mul_le_mul h2 h4 h3 zc
     refine zg ?_;refine aU ?_;rw[zyc,hg,decide_eq_true_iff];exact⟨fun h=>⟨h1,h2,h3,h4,h⟩,fun h=>h.2.2.2.2⟩
    ·refine zg ?_;refine aU ?_;exact(Bool.eq_false_iff.2 fun ht=>h4 (hg.1 ht).2.2.2.1).symm
   ·refine zg ?_;refine aU ?_;exact(Bool.eq_false_iff.2 fun ht=>h3 (hg.1 ht).2.2.1).symm
  ·refine zg ?_;refine aU ?_;exact(Bool.eq_false_iff.2 fun ht=>h2 (hg.1 ht).2.1).symm
 ·refine zg ?_;refine aU ?_;exact(Bool.eq_false_iff.2 fun ht=>h1 (hg.1 ht).1).symm
def FewZ(r c:Int)(l:List mM)(s w:Int):Prop:=((∀k x,k < 100->l[k]? =some x->(x.2.length:Int)<=w)/\l.length<=100)/\r<=s/\c<=s
def akG(l:List mM)(w:Int)(goal:Bool)(hg:goal=true↔(∀k x,k < 100->l[k]? =some x->(x.2.length:Int)<=w)/\l.length<=100):
  ah prog 25 [.r (aD 2 z2C (l.map rz)),.v (.int .i64 100),.v (.int .i64 w)] (.v (.bool goal)):=by
 have hlen:(l.map rz).length=l.length:=zq5 _;refine ah.fq func25 ?_;intros
 refine zg ?_;refine W.loop (fun k=>k<=l.length/\k<=100/\∀j x,j < k->l[j]? =some x->(x.2.length:Int)<=w) (fun k=>[(0,.r (aD 2 z2C (l.map rz))),(1,.v (.int .i64 100)),(2,.v (.int .i64 w)),(7,.v (.int .i64 (k:Int)))]) (fun _=>[]) (fun k=>l.length - k) 0 ⟨zq8 _,zq8 _,fun j x h=>absurd h (zvj _)⟩ (fun k ⟨hk,hk2,he⟩=>?_)
 by_cases h:k < l.length
 ·have h':k < (l.map rz).length:=zE
  by_cases h2:k < 100
  ·obtain⟨x,hx⟩:∃x,l[k]? =some x:=⟨_,zyh h⟩
   have hq:(l.map rz)[k]? =some (rz x):=by rw[zqa,hx];rfl
   by_cases h3:(x.2.length:Int)<=w
   ·refine zg ?_;refine W.next (k+1) ⟨h,h2,fun j b hj hb=>?_⟩ zE
    by_cases hjk:j < k
    ·exact he j b hjk hb
    ·obtain rfl:j=k:=zE
     rw[hx]at hb;rw[<-zy7 hb];exact h3
   ·refine zg ?_;refine aU ?_;exact(Bool.eq_false_iff.2 fun ht=>h3 ((hg.1 ht).1 k x h2 hx)).symm
  ·obtain rfl:k=100:=zE
   refine zg ?_;refine aU ?_;rw[zyc,hg,decide_eq_true_iff];exact⟨fun h=>zE,fun h=>by have:=h.2;omega⟩
 ·obtain rfl:k=l.length:=zE
  have h':¬l.length < (l.map rz).length:=zE
  have all:∀k x,k < 100->l[k]? =some x->(x.2.length:Int)<=w:=fun j x hj hx=>he j x (oL hx) hx
  refine zg ?_;refine aU ?_;rw[zyc,hg,decide_eq_true_iff];exact⟨fun h=>⟨all,zE⟩,fun h=>by have:=h.2;omega⟩
def acR(r c:Int)(l:List mM)(s w:Int)(goal:Bool)(hg:goal=true↔FewZ r c l s w):
  ah prog 13 [.agg (matW r c (l.map rz)),.v (.int .i64 s),.v (.int .i64 w)] (.v (.bool goal)):=by
 by_cases h1:r<=s
 ·by_cases h2:c<=s
  ·have cF:=akG l w goal (hg.trans ⟨fun h=>h.1,fun h=>⟨h,h1,h2⟩⟩)
   refine ah.fq func13 fun w0 T B E0 hB=>?_
   refine zg ?_;exact aU rfl
  ·refine ah.fq func13 fun w0 T B E0 hB=>?_
   refine zg ?_;refine aU ?_;exact(Bool.eq_false_iff.2 fun ht=>h2 (hg.1 ht).2.2).symm
 ·refine ah.fq func13 fun w0 T B E0 hB=>?_
  refine zg ?_;refine aU ?_;exact(Bool.eq_false_iff.2 fun ht=>h1 (hg.1 ht).2.1).symm
end
section
open Go.RowKit QM SX LA
def ao6:List Rat->Nat
 |[]=>1
 |v::l=>Nat.lcm (ao6 l) v.den
def ac1:∀l,0 < ao6 l
 |[]=>zc
 |v::l=>Nat.lcm_pos (ac1 l) (Nat.pos_of_ne_zero v.den_nz)
def ahr:∀{l:List Rat} {v:Rat},v∈l->v.den ∣ ao6 l
 |w::l,v,h=>by
  rcases zy3.1 h with rfl|h
  ·exact Nat.dvd_lcm_right _ _
  ·exact Nat.dvd_trans (ahr h) (Nat.dvd_lcm_left _ _)
def abT:∀{l:List Rat} {n:Nat},(∀v∈l,v.den ∣ n)->ao6 l ∣ n
 |[],n,_=>Nat.one_dvd n
 |v::l,n,h=>Nat.lcm_dvd (abT fun w hw=>h w (by simp[hw])) (h v zp)
def alQ{K:Nat}:∀{l:List Rat},(∀v∈l,RB v K)->ao6 l < WB ^ (1+l.length*K)
 |[],_=>by
  have:=bf;show 1 < WB ^ (1+0*K);rw[zw3,zvi,zxh];omega
 |v::l,h=>by
  have h1:=alQ (l:=l) fun w hw=>h w (by simp[hw])
  have h2:=(h v zp).d
  refine zxb (Nat.le_of_dvd (Nat.mul_pos (ac1 l) (Nat.pos_of_ne_zero v.den_nz)) (Nat.lcm_dvd (Nat.dvd_mul_right _ _) (Nat.dvd_mul_left _ _))) ?_;have h3:=fZ h1 h2;rw[zx6,zv8,<-Nat.add_assoc];exact h3
def jh(l:List Rat):Nat:=ao6 l.reverse
def apD{l:List Rat}{v:Rat}:jh (l++[v])=Nat.lcm (jh l) v.den:=by
 unfold jh;rw[List.reverse_append];rfl
def qj(z:Int):Rat:=qv z 1
def amv(z:Int):qj z=(z:Rat):=by unfold qj qv;grind
def aey{v:Rat}{D:Nat}(h:v.den ∣ D)(hD:0 < D):(v*qj D).den=1/\qv (v*qj D).num D=v/\(v*qj D).num.natAbs<=v.num.natAbs*D:=by
 obtain⟨c,rfl⟩:=h;have hd:=v.den_nz;have hq:=c0 (mW v);have hc:(c:Rat)≠0:=fun e=>by
  have:c=0:=by exact_mod_cast e
  subst this;simp at hD
 have e:v*qj ((v.den*c:Nat):Int)=((v.num*c:Int):Rat):=by
  rw[amv,Int.natCast_mul,Rat.intCast_mul,Rat.intCast_mul];have hv:=jd v;unfold qv at hv;generalize ((v.den:Int):Rat)=d at*;generalize ((v.num:Int):Rat)=n at*;rw[<-hv];grind
 rw[e];refine⟨Rat.den_intCast _,?_,?_⟩
 ·rw[Rat.num_intCast];refine(aqE zE (mW v) ?_).trans (jd v)
  rw[Int.natCast_mul];grind
 ·rw[Rat.num_intCast,zve,zxa];exact zx8 _ (Nat.le_mul_of_pos_left c (Nat.pos_of_ne_zero hd))
def qH(vs:List Rat):List Int:=vs.map fun v=>(v*qj (jh vs)).num
def xP(l:List Rat):0 < jh l:=ac1 _
def aic{l:List Rat}{v:Rat}(h:v∈l):v.den ∣ jh l:=ahr (List.mem_reverse.2 h)
def ak4{l:List Rat}{n:Nat}(h:∀v∈l,v.den ∣ n):jh l ∣ n:=abT fun v hv=>h v (List.mem_reverse.1 hv)
end
section
open Go.RowKit QM SX LA
attribute [local irreducible] IntKind.wrap Go1 Reg WP aK aN bD aZ aJ aA aj ak aT Sat
def wds_0:(wds 0).length=0:=by
 have:=nI (n:=0) (k:=0) (by rw[Nat.pow_zero];decide)
 omega
def ak5{a b:CA}{x y k:Nat}[ha:NI a x k][hb:NI b y m](hd:y ∣ x)(hy:y≠0)(hk:k+m<=1099511627770):ah prog 531 [.it (.one (.c a)),.it (.one (.c b))] (.tup [.one (.c (.sat (bI (x / y)))),.one (.c (.val (.bool true)))]):=by
 have cD:=agi (ha:=ha) (hb:=hb) hk;rw[if_neg hy,Nat.mod_eq_zero_of_dvd hd,decide_eq_true hy]at cD;have hw:=wds_0;refine ah.fq func531 ?_;intros
 refine zg ?_;exact .ok (aA.mk2 (aj.tmp rfl) (aj.tmp rfl))
def auE{a b:CA}{x y k:Nat}[ha:NI a x k][hb:NI b y m](hx:x≠0)(hy:y≠0)(hbx:x < WB ^ k)(hby:y < WB ^ m)(hk:k+m<=1000000):ah prog 470 [.it (.one (.c a)),.it (.one (.c b))] (.r (bI (Nat.lcm x y))):=by
 have hg0:Nat.gcd x y≠0:=fun e=>hx (Nat.eq_zero_of_gcd_eq_zero_left e)
 have hgx:Nat.gcd x y<=x:=Nat.le_of_dvd zE (Nat.gcd_dvd_left x y)
 haveI iG:NI (.sat (bI (Nat.gcd x y))) (Nat.gcd x y) k:=NI.aaV (zxb hgx hbx)
 have hqx:x / Nat.gcd x y<=x:=Nat.div_le_self _ _
 haveI iQ:NI (.sat (bI (x / Nat.gcd x y))) (x / Nat.gcd x y) k:=NI.aaV (zxb hqx hbx)
 have cG:=dGcd (ha:=ha) (hb:=hb) zE
 have b1:=ahX (ha:=ha) zE
 have b2:=ahX (ha:=hb) zE
 have h1:bitLen x≠0:=fun e=>hx (pE.1 e)
 have h2:bitLen y≠0:=fun e=>hy (pE.1 e)
 have cE:=ak5 (ha:=ha) (hb:=iG) (Nat.gcd_dvd_left x y) hg0 zE
 have cM:=mMul (ha:=iQ) (hb:=hb) zE
 have e:x / Nat.gcd x y*y=Nat.lcm x y:=by
  unfold Nat.lcm;rw[Nat.div_mul_right_comm (Nat.gcd_dvd_left x y)]
 rw[e]at cM;generalize bitLen x=p at*;generalize bitLen y=q at*;refine ah.fq func470 ?_;intros
 refine zg ?_;exact agr rfl
def awR{v:Rat}(hv:RB v K)(hd:v.den=1)(hK:K<=100000):ah prog 163 [.agg (qA v)] (.tup [.agg (zN v.num),.one (.c (.val (.bool true)))]):=by
 haveI b1:Bd v.num K:=⟨hv.n⟩
 haveI b2:Bd (v.den:Int) K:=⟨by rw[zxa];exact hv.d⟩
 have h1:ZI [.c (.val (.bool (decide (v.num < 0)))),.c (.sat (bI v.num.natAbs))] v.num K:=inferInstance;have h2:ZI [.c (.val (.bool (decide ((v.den:Int) < 0)))),.c (.sat (bI (v.den:Int).natAbs))] (v.den:Int) K:=inferInstance;have c:=(xB (h:=h1) (h':=h2)).h zE
 have e:rmk v.num (v.den:Int)=(v.num,(v.den:Int)):=(Rd.rmk b1 b2 (jd v) (zq6 _)).nf;have e2:wV v.num (v.den:Int)=v.num:=by
  unfold wV;rw[e,hd];rfl
 rw[e2,e,decide_eq_true (show (v.num,(v.den:Int)).2=1 by rw[hd];rfl)]at c
 exact c
def lQ{α:Type}{l:List α}{k:Nat}{a:α}(h:l[k]? =some a):l.take (k+1)=l.take k++[a]:=by
 rw[zw7,h];rfl
def aeL{k:Nat}{v:Rat}(h:vs[k]? =some v):jh (vs.take (k+1))=Nat.lcm (jh (vs.take k)) v.den:=by
 rw[lQ h,apD]
def yI(h:∀v∈vs,RB v K)(k:Nat):jh (vs.take k) < WB ^ (1+vs.length*K):=by
 have h1:=alQ (l:=(vs.take k).reverse) (K:=K) fun v hv=>h v (zv3 (List.mem_reverse.1 hv))
 refine zqf h1 (zx2 aX ?_);rw[List.length_reverse,zx3];have:=zx1 K (Nat.min_le_right k vs.length);omega
def aeX{r:Nat}{l:List Q4}(hM:MV l vs K)(hl:l.length=r*c)(hr:r<=64)(hc:c<=64)(hK1:1<=K)(hB0:1+(r*c+1)*K<=50000):
  ah prog 380 [.agg (qp r c l)] (.tup [.agg (nG r c (qH vs)),.agg (zN ((jh vs:Nat):Int)),eNo 0]):=by
 have hvl:vs.length=r*c:=by rw[<-hM.len];exact hl
 have hrc:=zxd hr hc;have hKn:K<=50000:=by
  have:=zx1 K (show 1<=r*c+1 by omega)
  omega
 have hKm:1+vs.length*K<=50000:=by
  rw[hvl];have:=zx1 K (show r*c<=r*c+1 by omega)
  omega
 have cF:=zm (ag:=l.flatMap q4C) hl hr hc;have cM:=zw r c (.sat (aqN 310 [.val (.int .i64 (r:Int)),.val (.int .i64 (c:Int)),.sat (aD 4 q4C l)])) (fun i k=>qat l c i k) (vat vs c) K zE zE zE
  (fun i k hi hk=>FnV.bound (aby (adI hl hi hk) zE zE zE)) (fun i k hi hk=>hM.qat hl hi hk) rfl
 rw[awj hvl,nT]at cM;have hlen:(vs.map q4v).length=r*c:=by rw[zq5];exact hvl
 have hRB:=hM.rb hK1;have o1:=anC;have hms:(qH vs).length=vs.length:=zq5 _;refine ah.fq func380 ?_;intros
 refine zg ?_;refine WP.aG ?_;refine zg ?_;refine W.loop (fun k=>k<=vs.length) (fun k=>[(1,.ptr 1 0),(2,.ptr 2 0),(3,.ptr 3 0),(5,.ptr 5 0),(27,.r (aD 4 q4C (vs.map q4v))),(28,.v (.int .i64 ((vs.map q4v).length:Int))),(29,.v (.int .i64 (k:Int)))]) (fun k=>[(1,.box 49 (qp r c (vs.map q4v))),(2,.box 24 mat0),(3,.box 33 [.c (.val (.bool false)),.c (.val (.slice none 0 0))]),(5,.box 33 (zN ((jh (vs.take k):Nat):Int)))]) (fun k=>vs.length - k) 0 (zq8 _) (fun k hk=>?_)
  (by
   refine St.aS [] z6 ?_ ?_ rfl
   ·exact yd
   ·exact⟨ay.same rfl rfl,ay.same rfl rfl,ay.same rfl rfl,ay.same rfl rfl,trivial⟩)
 by_cases hk2:k < vs.length
 ·obtain⟨v,hx⟩:∃v,vs[k]? =some v:=⟨_,zyh hk2⟩
  have hq:(vs.map q4v)[k]? =some (q4v v):=by rw[zqa,hx];rfl
  have hk3:k < (vs.map q4v).length:=oL hq;have hvb:=hRB v (zq4 hx);have hlb:=yI hRB k;have hlb2:=yI hRB (k+1);rw[aeL hx]at hlb2
  haveI n1:NI (.sat (bI (jh (vs.take k)))) (jh (vs.take k)) (1+vs.length*K):=NI.aaV hlb
  haveI n2:NI (.sat (bI v.den)) v.den K:=NI.aaV hvb.d
  haveI n3:NI (.sat (bI (Nat.lcm (jh (vs.take k)) v.den))) (Nat.lcm (jh (vs.take k)) v.den) (1+vs.length*K):=NI.aaV hlb2
  have cL:ah prog 470 [.r (bI ((jh (vs.take k):Nat):Int).natAbs),.r (bI ((v.den:Nat):Int).natAbs)] (.r (bI (Nat.lcm (jh (vs.take k)) v.den))):=auE (ha:=n1) (hb:=n2) (by have:=xP (vs.take k);omega) v.den_nz hlb hvb.d zE
  have cR:ah prog 20 [.r (bI (Nat.lcm (jh (vs.take k)) v.den)),.v (.bool false)] (.agg (zN ((Nat.lcm (jh (vs.take k)) v.den:Nat):Int))):=(ae3 (h:=n3) false).h zE
  have e5:Ent.box 33 (zN ((Nat.lcm (jh (vs.take k)) v.den:Nat):Int))=Ent.box 33 (zN ((jh (vs.take (k+1)):Nat):Int)):=by rw[aeL hx]
  refine zg ?_;refine W.next (k+1) hk2 zE (by
   refine St.aS [] z6 ?_ ?_ rfl
   ·exact yd
   ·exact⟨ay.same rfl rfl,ay.same rfl rfl,ay.same rfl rfl,ay.eq rfl e5 rfl,trivial⟩)
 ·obtain rfl:k=vs.length:=zE
  have hk3:¬vs.length < (vs.map q4v).length:=by rw[zq5];omega
  rw[zy8];have hD:=yI hRB vs.length;rw[zy8]at hD;have hDq:=ZQ.made (z:=((jh vs:Nat):Int)) (K:=1+vs.length*K) hD;have cO:=(sF (h:=hDq.zi)).h zE
  have rO:Ra (xA (((jh vs:Nat):Int),1)) (qj ((jh vs:Nat):Int)) (1+vs.length*K):=Ra.mono (hDq.ra zq1) zE
  refine zg ?_;refine W.loop (fun k=>k<=vs.length) (fun k=>[(1,.ptr 1 0),(2,.ptr 2 0),(3,.ptr 3 0),(5,.ptr 5 0),(8,.ptr 8 0),(47,.r (aD 4 q4C (vs.map q4v))),(48,.v (.int .i64 ((vs.map q4v).length:Int))),(49,.v (.int .i64 (k:Int)))]) (fun k=>[(1,.box 49 (qp r c (vs.map q4v))),(2,.box 24 mat0),(3,.box 33 [.c (.val (.bool false)),.c (.val (.slice none 0 0))]),(5,.box 33 (zN ((jh vs:Nat):Int))),(8,.box 24 [.c (.val (.int .i64 (r:Int))),.c (.val (.int .i64 (c:Int))),.own 100]),(100,.row 33 2 k (((qH vs).take k).flatMap zC))]) (fun k=>vs.length - k) 0 (zq8 _) (fun k hk=>?_)
   (by
    refine St.aS [(100,none)] z6 ?_ ?_ rfl
    ·exact yd
    ·exact⟨ay.same rfl rfl,ay.same rfl rfl,ay.same rfl rfl,ay.same rfl rfl,ay.jE rfl rfl ⟨aB.same rfl,aB.same rfl,aB.nil rfl,trivial⟩,ay.dw rfl,trivial⟩)
  by_cases hk4:k < vs.length
  ·obtain⟨v,hx⟩:∃v,vs[k]? =some v:=⟨_,zyh hk4⟩
   have hq:(vs.map q4v)[k]? =some (q4v v):=by rw[zqa,hx];rfl
   have hk5:k < (vs.map q4v).length:=oL hq;have hvb:=hRB v (zq4 hx);have rv:=hvb.ra;have hw:=aey (aic (zq4 hx)) (xP vs);have cMu:ah prog 334 [.agg (q4A (q4v v)),.agg (xA (((jh vs:Nat):Int),1))] (.agg (qA (v*qj ((jh vs:Nat):Int)))):=(aif (a:=rv) (b:=rO)).h zE
   have hPB:RB (v*qj ((jh vs:Nat):Int)) (K+(1+vs.length*K)):=hvb.mul (Ra.rb rO zE)
   have cW:=awR hPB hw.1 zE
   have hm:(qH vs)[k]? =some (v*qj ((jh vs:Nat):Int)).num:=by unfold qH;rw[zqa,hx];rfl
   have e6:((qH vs).take k).flatMap zC++zC (v*qj ((jh vs:Nat):Int)).num=((qH vs).take (k+1)).flatMap zC:=by rw[lQ hm,zvc];simp
   generalize (v*qj ((jh vs:Nat):Int)).num=z at*;refine zg ?_;refine W.next (k+1) hk4 zE (by
    refine St.aS [(100,some 65)] z6 ?_ ?_ rfl
    ·exact yd
    ·exact⟨ay.same rfl rfl,ay.same rfl rfl,ay.same rfl rfl,ay.same rfl rfl,ay.jE rfl rfl ⟨aB.same rfl,aB.same rfl,aB.own rfl,trivial⟩,ay.row rfl rfl rfl e6,trivial⟩)
  ·obtain rfl:k=vs.length:=zE
   have hk6:¬vs.length < (vs.map q4v).length:=by rw[zq5];omega
   have e7:(qH vs).take vs.length=qH vs:=by rw[<-hms,zy8]
   rw[e7];refine zg ?_;have hm:nG r c (qH vs)=[.c (.val (.int .i64 (r:Int))),.c (.val (.int .i64 (c:Int))),.c (.sat (aP 2 vs.length ((qH vs).flatMap zC)))]:=by
    show [_,_,Atom.c (.sat (aP 2 (qH vs).length _))]=_;rw[hms]
   rw[hm];refine aJ.frz 100 ?_;exact .ok (aA.mk3 aj.aW aj.fK (aj.tmp rfl))
def axt(h:∀v∈vs,RB v K):∀z∈qH vs,z.natAbs < WB ^ (K+(1+vs.length*K)):=by
 intro z hz;obtain⟨v,hv,rfl⟩:=zqg.1 hz;have h1:=(aey (aic hv) (xP vs)).2.2;have h2:=yI h vs.length;rw[zy8]at h2;exact zxb h1 (fZ (h v hv).n h2)
end
section
open Go.RowKit QM SX LA
def wdC(w:Nat):List CA:=[.val (.int .u64 (w:Int))]
instance:dY wdC 1:=⟨fun _=>rfl⟩
structure Vl where
 k:Int
 q:ko
 r:Int
 c:Int
 a:List ko
 po:List mM
 p:Nat
 fr:Int
 fc:Int
 fa:List Nat
 ri:List Nat
 li:List Vl
mutual
def vlC:Vl->List CA
 |⟨k,q,r,c,a,po,p,fr,fc,fa,ri,li⟩=>[.val (.int .i64 k),.val (.bool q.1),.sat (dV q.2.1),.val (.bool q.2.2.1),.sat (dV q.2.2.2),.val (.int .i64 r),.val (.int .i64 c),.sat (aD 4 q4C (a.map rq)),.sat (aD 2 z2C (po.map rz)),.val (.int .u64 (p:Int)),.val (.int .i64 fr),.val (.int .i64 fc),.sat (aD 1 wdC fa),.sat (aD 1 wdC ri),.sat (aP 15 li.length (vlL li))]
def vlL:List Vl->List CA
 |[]=>[]
 |k::ks=>vlC k++vlL ks
end
def atj:∀ks:List Vl,vlL ks=ks.flatMap vlC
 |[]=>by rw[vlL];rfl
 |k::ks=>by rw[vlL,atj ks,zq7]
def vlE(v:Vl):List CA:=[.val (.int .i64 v.k),.val (.bool v.q.1),.sat (dV v.q.2.1),.val (.bool v.q.2.2.1),.sat (dV v.q.2.2.2),.val (.int .i64 v.r),.val (.int .i64 v.c),.sat (aD 4 q4C (v.a.map rq)),.sat (aD 2 z2C (v.po.map rz)),.val (.int .u64 (v.p:Int)),.val (.int .i64 v.fr),.val (.int .i64 v.fc),.sat (aD 1 wdC v.fa),.sat (aD 1 wdC v.ri),.sat (aD 15 vlC v.li)]
def ayL(v:Vl):vlC v=vlE v:=by
 cases v;rw[vlC,atj];rfl
instance:dY vlE 15:=⟨fun v=>rfl⟩
def ab5(l:List Vl):aD 15 vlC l=aD 15 vlE l:=by rw[show vlC=vlE from funext ayL]
abbrev vlA(v:Vl):List Atom:=[.c (.val (.int .i64 v.k)),.c (.val (.bool v.q.1)),.c (.sat (dV v.q.2.1)),.c (.val (.bool v.q.2.2.1)),.c (.sat (dV v.q.2.2.2)),.c (.val (.int .i64 v.r)),.c (.val (.int .i64 v.c)),.c (.sat (aD 4 q4C (v.a.map rq))),.c (.sat (aD 2 z2C (v.po.map rz))),.c (.val (.int .u64 (v.p:Int))),.c (.val (.int .i64 v.fr)),.c (.val (.int .i64 v.fc)),.c (.sat (aD 1 wdC v.fa)),.c (.sat (aD 1 wdC v.ri)),.c (.sat (aD 15 vlC v.li))]
def cq(v:Rat):ko:=(decide (v.num < 0),wds v.num.natAbs,decide ((v.den:Int) < 0),wds (v.den:Int).natAbs)
def cz(z:Int):mM:=(decide (z < 0),wds z.natAbs)
abbrev rq0:ko:=(false,[],false,[])
abbrev v0:Vl:=⟨0,rq0,0,0,[],[],0,0,0,[],[],[]⟩
abbrev eY(v:Rat):Vl:=⟨1,cq v,0,0,[],[],0,0,0,[],[],[]⟩
abbrev dW(r c:Nat)(vs:List Rat):Vl:=⟨2,rq0,r,c,vs.map cq,[],0,0,0,[],[],[]⟩
abbrev gP(zs:List Int):Vl:=⟨3,rq0,0,0,[],zs.map cz,0,0,0,[],[],[]⟩
abbrev gu(p r c:Nat)(l:List Nat):Vl:=⟨4,rq0,0,0,[],[],p,r,c,l,[],[]⟩
abbrev jS(p:Nat)(l:List Nat):Vl:=⟨5,rq0,0,0,[],[],p,0,0,[],l,[]⟩
abbrev pX(l:List Vl):Vl:=⟨6,rq0,0,0,[],[],0,0,0,[],[],l⟩
def aH(x y:Atom):Prop:=∀E S w v,x.has E S w v->y.has E S w v
def aH.refl(x:Atom):aH x x:=fun _ _ _ _ h=>h
def arF{E:Env}{S:Nat->Prop}{w:World}:∀{l l':List Atom},aM aH l l'->∀us,aM (Atom.has E S w) l us->aM (Atom.has E S w) l' us
 |[],[],_,_,h2=>h2
 |x::l,y::l',h,u::us,h2=>⟨h.1 _ _ _ _ h2.1,arF h.2 us h2.2⟩
def mg{l l':List Atom}(h:aM aH l l'):AV0.imp (.agg l) (.agg l'):=fun E S w v ⟨us,hu,h2⟩=>⟨us,hu,arF h us h2⟩
def an8{n:Nat}{S:Nat->Prop}{w:World}(hl:ag.length=cells'.length)(h:∀(i:Nat) (c c':CA),ag[i]? =some c->cells'[i]? =some c'->∀u,c.has S w u->c'.has S w u){v:Value}(hv:(aP size n ag).has S w v):(aP size n cells').has S w v:=by
 obtain⟨oa,am,h1,h2,h3,h4,h5,h6⟩:=bQ.1 hv;refine bQ.2 ⟨oa,am,h1,h2,h3,h4,zE,fun i c' hc'=>?_⟩
 have hi:=oL hc';obtain⟨b,o,u,e1,e2,e3,e4⟩:=h6 i ag[i] (zyh zE)
 exact⟨b,o,u,e1,e2,e3,h i _ _ (zyh zE) hc' u e4⟩
def aH.slice{n:Nat}(hl:ag.length=cells'.length)(h:∀(i:Nat) (c c':CA),ag[i]? =some c->cells'[i]? =some c'->∀S w u,c.has S w u->c'.has S w u):aH (.c (.sat (aP size n ag))) (.c (.sat (aP size n cells'))):=fun E S w v hv=>an8 hl (fun i c c' h1 h2=>h i c c' h1 h2 S w) hv
def adv(x y:CA):Prop:=∀S w u,x.has S w u->y.has S w u
def adv.refl(x:CA):adv x x:=fun _ _ _ h=>h
def aM.len{α β:Type}{R:α->β->Prop}:∀{l:List α} {l':List β},aM R l l'->l.length=l'.length
 |[],[],_=>rfl
 |_::_,_::_,h=>by rw[zx6,zx6,aM.len h.2]
def aM.at{α β:Type}{R:α->β->Prop}:∀{l:List α} {l':List β},aM R l l'->∀(i:Nat) (a:α) (b:β),l[i]? =some a->l'[i]? =some b->R a b
 |_::_,_::_,h,0,a,b,ha,hb=>by cases ha;cases hb;exact h.1
 |_::_,_::_,h,i+1,a,b,ha,hb=>aM.at h.2 i a b ha hb
def aM.app{α β:Type}{R:α->β->Prop}:∀{l:List α} {l':List β} {m:List α} {m':List β},aM R l l'->aM R m m'->aM R (l++m) (l'++m')
 |[],[],_,_,_,h=>h
 |_::_,_::_,_,_,h,h2=>⟨h.1,aM.app h.2 h2⟩
def aM.flat{α β γ:Type}{R:CA->CA->Prop}{enc:α->List CA}{enc':β->List CA}{f:γ->α}{g:γ->β}:∀(l:List γ),(∀x∈l,aM R (enc (f x)) (enc' (g x)))->aM R ((l.map f).flatMap enc) ((l.map g).flatMap enc')
 |[],_=>trivial
 |x::l,h=>aM.app (h x (zq9 ..)) (aM.flat l fun y hy=>h y (zy2 _ hy))
def aH.row{α β γ:Type}{enc:α->List CA}{enc':β->List CA}{f:γ->α}{g:γ->β}(l:List γ)(h:∀x∈l,aM adv (enc (f x)) (enc' (g x))):aH (.c (.sat (aD size enc (l.map f)))) (.c (.sat (aD size enc' (l.map g)))):=by
 have h2:=aM.flat l h;show aH (.c (.sat (aP size (l.map f).length ((l.map f).flatMap enc)))) (.c (.sat (aP size (l.map g).length ((l.map g).flatMap enc'))));rw[zq5,zq5];exact aH.slice (aM.len h2) (fun i c c' h3 h4=>aM.at h2 i c c' h3 h4)
def abr(n:Nat):adv (.sat (bI n)) (.sat (dV (wds n))):=fun S w v h=>by
 obtain⟨l,h1,h2,_,h4⟩:=ach.1 h;have:=yY (nY.1 h4).1 h1;rw[h2]at this;rw[<-this];exact h4
def aH.nrm(n:Nat):aH (.c (.sat (bI n))) (.c (.sat (dV (wds n)))):=fun E S w v h=>abr n S w v h
def aH.nil{α:Type}{size:Nat}{enc:α->List CA}:aH (.c (.val (.slice none 0 0))) (.c (.sat (aD size enc []))):=fun E S w v h=>by
 rw[show v= .slice none 0 0 from h];exact ag2
def aH.vV:aH (.c (.val (.slice none 0 0))) (.c (.sat (dV []))):=fun E S w v h=>by
 rw[show v= .slice none 0 0 from h]
 exact nY.2 ⟨Sm.nil,(ag2 (α:=Nat) (enc:=wdC) (size:=1):(aD 1 wdC []).has S w _)⟩
def aH.rats(vs:List Rat):aH (.c (.sat (aD 4 q4C (vs.map q4v)))) (.c (.sat (aD 4 q4C ((vs.map cq).map rq)))):=by
 rw[zv4];exact aH.row vs fun x _=>⟨adv.refl _,abr _,adv.refl _,abr _,trivial⟩
def aH.ints(zs:List Int):aH (.c (.sat (aD 2 z2C (zs.map z2v)))) (.c (.sat (aD 2 z2C ((zs.map cz).map rz)))):=by
 rw[zv4];exact aH.row zs fun x _=>⟨adv.refl _,abr _,trivial⟩
def jF(v:Rat):rqv (cq v)=v:=by
 show qv (sgn (decide (v.num < 0)) (nval WB (wds v.num.natAbs))) (sgn (decide ((v.den:Int) < 0)) (nval WB (wds (v.den:Int).natAbs)))=v;rw[rC,rC,air,air];exact jd v
def pV(z:Int):rzv (cz z)=z:=by
 show sgn (decide (z < 0)) (nval WB (wds z.natAbs))=z;rw[rC,air]
def anl(v:Rat):Sm WB (cq v).2.1/\Sm WB (cq v).2.2.2:=⟨agK _,agK _⟩
def an4(z:Int):Sm WB (cz z).2:=agK _
def RSm.cq(vs:List Rat):RSm (vs.map cq):=fun x hx=>by obtain⟨v,_,rfl⟩:=zqg.1 hx;exact anl v
def RLen.cq{vs:List Rat}{K:Nat}(h:∀v∈vs,RB v K):RLen (vs.map cq) K:=fun x hx=>by
 obtain⟨v,hv,rfl⟩:=zqg.1 hx;exact⟨nI (h v hv).n,nI (by rw[zxa];exact(h v hv).d)⟩
def av3(vs:List Rat):(vs.map cq).map rqv=vs:=by
 rw[zv4,show rqv ∘ cq=id from funext jF,List.map_id]
def avM(zs:List Int):(zs.map cz).map rzv=zs:=by
 rw[zv4,show rzv ∘ cz=id from funext pV,List.map_id]
def MV.cq{vs:List Rat}{K:Nat}(h:∀v∈vs,RB v K):MV ((vs.map cq).map rq) vs K:=by
 have:=MV.raw (RSm.cq vs) (RLen.cq h)
 rwa [av3]at this
theorem Ra.cq{v:Rat}{K:Nat}(h:RB v K):Ra (q4A (rq (cq v))) v K:=by
 have:=(MV.cq (vs:=[v]) (K:=K) fun u hu=>by rw[zxi.1 hu];exact h).ra 0 _ _ rfl rfl
 exact this
end
section
open Go.RowKit QM SX LA
attribute [local irreducible] IntKind.wrap Go1 Reg WP aK aN bD aZ aJ aA aj ak aT Sat
attribute [local irreducible] qv
section
variable{P:Program}{C:Ctx}{st:St}
def uG{r:ResultVar}{x y:AV0}(h:aj P st r x)(e:x.imp y):aJ C P [r] ⟨.it y,[]⟩ st:= .ok (aA.mk1 (h.imp e))
end
def alu{v:Rat}:AV0.imp (.agg [.c (.val (.int .i64 1)),.c (.val (.bool (decide (v.num < 0)))),.c (.sat (bI v.num.natAbs)),.c (.val (.bool (decide ((v.den:Int) < 0)))),.c (.sat (bI (v.den:Int).natAbs)),.c (.val (.int .i64 0)),.c (.val (.int .i64 0)),.c (.val (.slice none 0 0)),.c (.val (.slice none 0 0)),.c (.val (.int .u64 0)),.c (.val (.int .i64 0)),.c (.val (.int .i64 0)),.c (.val (.slice none 0 0)),.c (.val (.slice none 0 0)),.c (.val (.slice none 0 0))]) (.agg (vlA (eY v))):=
 mg ⟨aH.refl _,aH.refl _,aH.nrm _,aH.refl _,aH.nrm _,aH.refl _,aH.refl _,aH.nil,aH.nil,aH.refl _,aH.refl _,aH.refl _,aH.nil,aH.nil,aH.nil,trivial⟩
def ac0{q:Q4}{v:Rat}(h:Ra (q4A q) v K)(hK:K<=100000):ah prog 196 [.agg (q4A q)] (.agg (vlA (eY v))):=by
 have cO:ah prog 30 [.agg [.c (.val (.bool false)),.c (.val (.slice none 0 0))]] (.agg (qA 0)):=sF.h zc
 haveI:Ra (qA 0) 0 1:=(RB.zero (zq6 1)).ra
 obtain⟨X,cA,hX⟩:=eAdd (q4A q) (qA 0) (K:=K) (K':=1) zE
 rw[Rat.add_zero]at hX;have e:=hX.nf;subst e;refine ah.fq func196 ?_;intros
 refine zg ?_;refine uG aj.fC ?_;exact alu
def RB.ofI{z:Int}(h:z.natAbs < WB ^ K)(h1:1<=K):RB (z:Rat) K:=RB.of (p:=z) (q:=1) zc (by unfold qv;grind) h (by
 rw[show (1:Int).natAbs=1 from rfl]
 exact(Bd.mono Bd.one.h h1:(1:Int).natAbs < WB ^ K))
def vD{q:Z2}{z:Int}(h:ZQ q z K)(h1:1<=K)(hK:K<=100000):ah prog 156 [.agg (z2A q)] (.agg (vlA (eY (z:Rat)))):=by
 haveI:=h.zi
 have cO:ah prog 30 [.agg (z2A q)] (.agg (qA (z:Rat))):=sF.h zE
 have hR:RB (z:Rat) K:=RB.ofI h.b h1;have cN:ah prog 196 [.agg (qA (z:Rat))] (.agg (vlA (eY (z:Rat)))):=ac0 (q:=q4v z) hR.ra hK;refine ah.fq func156 ?_;intros
 refine zg ?_;refine uG aj.fC ?_;exact z7 _
def arh{f:FuncId}{l l':List Atom}{r:AV}(h:ah P f [.agg l'] r)(hi:aM aH l l'):ah P f [.agg l] r:=
 h.args fun E S w vs hv=>by
  match vs,hv with
  |[u],⟨h1,_⟩=>exact⟨mg hi E S w u h1,trivial⟩
def akQ:ah prog 156 [.agg [.c (.val (.bool false)),.c (.val (.slice none 0 0))]] (.agg (vlA (eY 0))):=
 arh (vD (q:=(false,dV [])) (z:=0) (K:=1) (ZQ.raw (b:=false) (l:=[]) Sm.nil zc) zc zc) ⟨aH.refl _,aH.vV,trivial⟩
def apH(b:Bool):ah prog 227 [.v (.bool b)] (.agg (vlA (eY (if b then 1 else 0)))):=by
 have c0:ah prog 156 [.agg [.c (.val (.bool false)),.c (.val (.slice none 0 0))]] (.agg (vlA (eY 0))):=akQ;have c1:ah prog 156 [.agg (zN 1)] (.agg (vlA (eY 1))):=vD (K:=1) (z:=1) (ZQ.made (by rw[bf];decide)) zc zc
 have o1:=anC;cases b
 ·refine ah.fq func227 fun w0 T B E0 hB=>?_
  refine zg ?_;refine uG aj.fC ?_;exact z7 _
 ·refine ah.fq func227 fun w0 T B E0 hB=>?_
  refine zg ?_;refine uG aj.fC ?_;exact z7 _
def aH.rats2(vs:List Rat):aH (.c (.sat (aP 4 vs.length (vs.flatMap qC)))) (.c (.sat (aD 4 q4C ((vs.map cq).map rq)))):=by
 have h:=aH.rats vs;rw[show aD 4 q4C (vs.map q4v)=aP 4 vs.length (vs.flatMap qC)by
  show aP 4 (vs.map q4v).length ((vs.map q4v).flatMap q4C)=_;rw[zq5,List.flatMap_map]]at h
 exact h
def xD{r:Nat}{l:List Q4}(hM:MV l vs K)(hl:l.length=r*c)(hr:r<=64)(hc:c<=64)(hK:K<=100000):ah prog 17 [.agg (qp r c l)] (.agg (vlA (dW r c vs))):=by
 have hb:=zxd hr hc;have cF:=zm (ag:=l.flatMap q4C) hl hr hc;have cO:ah prog 30 [.agg [.c (.val (.bool false)),.c (.val (.slice none 0 0))]] (.agg (qA 0)):=sF.h zc
 haveI:Ra (qA 0) 0 1:=(RB.zero (zq6 1)).ra
 refine ah.fq func17 ?_;intros
 refine zg ?_;refine W.loop (fun k=>k<=l.length) (fun k=>[(2,.ptr 2 0),(3,.ptr 3 0),(16,.r (aD 4 q4C l)),(17,.v (.int .i64 (l.length:Int))),(18,.v (.int .i64 (k:Int)))]) (fun k=>[(2,.box 61 [.c (.val (.int .i64 0)),.c (.val (.bool false)),.c (.val (.slice none 0 0)),.c (.val (.bool false)),.c (.val (.slice none 0 0)),.c (.val (.int .i64 0)),.c (.val (.int .i64 0)),.c (.val (.slice none 0 0)),.c (.val (.slice none 0 0)),.c (.val (.int .u64 0)),.c (.val (.int .i64 0)),.c (.val (.int .i64 0)),.c (.val (.slice none 0 0)),.c (.val (.slice none 0 0)),.c (.val (.slice none 0 0))]),(3,.box 49 [.c (.val (.int .i64 (r:Int))),.c (.val (.int .i64 (c:Int))),.own 100]),(100,.row 54 4 k ((vs.take k).flatMap qC))]) (fun k=>l.length - k) 0 (zq8 _) (fun k hk=>?_)
  (by
   refine St.aS [(100,none)] z6 ?_ ?_ rfl
   ·exact yd
   ·exact⟨ay.same rfl rfl,ay.jE rfl rfl ⟨aB.same rfl,aB.same rfl,aB.nil rfl,trivial⟩,ay.dw rfl,trivial⟩)
 by_cases h:k < l.length
 ·obtain⟨q,hq⟩:∃q,l[k]? =some q:=⟨_,zyh h⟩
  obtain⟨v,hv⟩:∃v,vs[k]? =some v:=⟨_,zyh (by rw[<-hM.len];exact h)⟩
  haveI:=hM.ra k q v hq hv
  obtain⟨X,cA,hX⟩:=eAdd (q4A q) (qA 0) (K:=K) (K':=1) zE
  rw[Rat.add_zero]at hX;have e:=hX.nf;subst e;have e2:(vs.take k).flatMap qC++qC v=(vs.take (k+1)).flatMap qC:=by rw[zw7,hv];simp
  refine zg ?_;refine W.next (k+1) h zE (by
   refine St.aS [(100,some 29)] z6 ?_ ?_ rfl
   ·exact ye
   ·exact⟨ay.same rfl rfl,ay.jE rfl rfl ⟨aB.same rfl,aB.same rfl,aB.own rfl,trivial⟩,ay.row rfl rfl rfl e2,trivial⟩)
 ·obtain rfl:k=l.length:=zE
  refine zg ?_;refine aJ.frz 100 ?_;refine uG aj.fC ?_;rw[hM.len,zy8];exact mg ⟨aH.refl _,aH.refl _,aH.vV,aH.refl _,aH.vV,aH.refl _,aH.refl _,aH.rats2 vs,aH.nil,aH.refl _,aH.refl _,aH.refl _,aH.nil,aH.nil,aH.nil,trivial⟩
end
section
open Go.RowKit QM SX LA
section
def W.meetS{C:Ctx}{st:St}{Q:Exit->St->Prop}{x y:Code}(I:List (Nat×AV))(H:List (Nat×Ent))(h:WP P C x st (aK (fun s=>St.le C s (gL I H)) Q))(k:WP P C y (gL I H) Q):WP P C x st (aK (fun s=>WP P C y s Q) Q):=
 WP.mono h fun e s hq=>by
  cases e with
  |normal=>exact k.weaken hq
  |_=>exact hq
attribute [local irreducible] IntKind.wrap Go1 Reg WP aK aN bD aZ aJ aA aj ak aT Sat
def avX(q:ko):q=rq0↔q.2.1.length=0/\q.2.2.2.length=0/\q.1=false/\q.2.2.1=false:=by
 constructor
 ·rintro rfl;exact⟨rfl,rfl,rfl,rfl⟩
 ·obtain⟨b,l,b',l'⟩:=q;rintro⟨h1,h2,h3,h4⟩
  dsimp only at h1 h2 h3 h4
  rw[zx5 h1,zx5 h2,h3,h4]
def pt(p:Prop)[Decidable p]:Nat:=if p then 1 else 0
def vP(v:Vl):Nat:=pt (v.k≠1/\v.q≠rq0)+pt (v.k≠2/\¬(v.r=0/\v.c=0/\v.a.length=0))+pt (v.k≠3/\v.po.length≠0)+pt (v.k≠4/\¬(v.fr=0/\v.fc=0/\v.fa.length=0))+pt (v.k≠5/\v.ri.length≠0)+pt ((v.k≠4/\v.k≠5)/\v.p≠0)+pt (v.k≠6/\v.li.length≠0)
end
section
def zOk(x:mM):Bool:=if x.2.length=0 then !x.1 else decide (x.2.getD (x.2.length - 1) 0≠0)
def afE{x:mM}(hs:Sm WB x.2):zOk x=true↔x=cz (rzv x):=by
 constructor
 ·intro h;obtain⟨b,l⟩:=x;unfold zOk at h
  dsimp only at h hs
  have hn:Nrm l:=by
   split at h
   ·next h0=>exact .inl (zx5 h0)
   ·exact .inr (of_decide_eq_true h)
  have hw:=yY hs hn;have hna:(sgn b (nval WB l)).natAbs=nval WB l:=by unfold sgn;split <;> omega
  show (b,l)=(decide (sgn b (nval WB l) < 0),wds (sgn b (nval WB l)).natAbs);rw[hna,<-hw]
  congr 1
  split at h
  ·next h0=>
   have hb:b=false:=by simpa using h
   subst hb;exact(decide_eq_false (by unfold sgn;simp)).symm
  ·next h0=>
   have hne:nval WB l≠0:=fun e=>h0 (by rw[hw,e];exact(tQ 0).2 rfl)
   cases b
   ·exact(decide_eq_false (by unfold sgn;simp)).symm
   ·exact(decide_eq_true (by unfold sgn;simp;omega)).symm
 ·intro h;rw[h];generalize rzv x=z;unfold zOk cz
  dsimp only
  split
  ·next h0=>
   have hz:=(tQ z.natAbs).1 h0;rw[decide_eq_false zE];rfl
  ·next h0=>
   rcases abp z.natAbs with h|h
   ·rw[h]at h0;exact absurd rfl h0
   ·exact decide_eq_true h
def qOk(q:ko):Bool:=zOk (q.1,q.2.1)&&zOk (q.2.2.1,q.2.2.2)&&decide (0 < rzv (q.2.2.1,q.2.2.2))&&decide (Int.gcd (rzv (q.1,q.2.1)) (rzv (q.2.2.1,q.2.2.2))=1)
def am1{q:ko}(hs:Sm WB q.2.1/\Sm WB q.2.2.2):qOk q=true↔q=cq (rqv q):=by
 have e1:=afE (x:=(q.1,q.2.1)) hs.1;have e2:=afE (x:=(q.2.2.1,q.2.2.2)) hs.2;unfold qOk;rw[zx4,zx4,zx4,e1,e2,decide_eq_true_iff,decide_eq_true_iff];obtain⟨b,l,b',l'⟩:=q
 dsimp only
 constructor
 ·rintro⟨⟨⟨h1,h2⟩,h3⟩,h4⟩;have hr:rqv (b,l,b',l')=qv (rzv (b,l)) (rzv (b',l')):=rfl;have hX:Rd (rzv (b,l),rzv (b',l')) (rqv (b,l,b',l')) (l.length+l'.length+1):=⟨hr.symm,h3,h4,⟨zqf (ZQ.raw (b:=b) (l:=l) hs.1 (zq6 _)).b (zx2 aX zE)⟩,⟨zqf (ZQ.raw (b:=b') (l:=l') hs.2 (zq6 _)).b (zx2 aX zE)⟩⟩
  have hn:=hX.nf
  injection hn with n1 n2
  injection h1 with a1 a2
  injection h2 with a3 a4
  unfold cq;rw[<-n1,<-n2];exact Prod.ext a1 (Prod.ext a2 (Prod.ext a3 a4))
 ·intro h;generalize rqv (b,l,b',l')=v at h
  injection h with h1 h
  injection h with h2 h
  injection h with h3 h4
  have z1:rzv (b,l)=v.num:=by rw[h1,h2];exact pV v.num
  have z2:rzv (b',l')=(v.den:Int):=by rw[h3,h4];exact pV (v.den:Int)
  rw[z1,z2];refine⟨⟨⟨?_,?_⟩,?_⟩,?_⟩
  ·rw[h1,h2];rfl
  ·rw[h3,h4];rfl
  ·have:=v.den_nz;omega
  ·have h2:Nat.Coprime v.num.natAbs v.den:=v.reduced;unfold Int.gcd;rw[zxa];exact h2
def ag7{α:Type}{p:α->Bool}(l:List α):decide (¬fi p l 0 < 0)=l.any p:=by
 rw[zyc,decide_eq_true_iff,List.any_eq_true];constructor
 ·intro h;obtain⟨i,a,_,h2,h3⟩:=agS l 0 h;exact⟨a,zq4 h2,h3⟩
 ·rintro⟨a,h1,h2⟩ h3;rw[agZ h3 a h1]at h2;cases h2
attribute [local irreducible] IntKind.wrap Go1 Reg WP aK aN bD aZ aJ aA aj ak aT Sat
attribute [local irreducible] qv
def xk(x:mM)(hl:x.2.length<=1000000000):ah prog 119 [.agg (z2A (rz x))] (.v (.bool (zOk x))):=by
 unfold zOk;refine ah.fq func119 ?_;intros
 by_cases h0:x.2.length=0
 ·rw[if_pos h0];cases h1:x.1
  ·refine zg ?_;refine aU ?_;rfl
  ·refine zg ?_;refine aU ?_;rfl
 ·rw[if_neg h0];obtain⟨w,hw⟩:∃w,x.2[x.2.length - 1]? =some w:=⟨_,zyh zE⟩
  have hg:x.2.getD (x.2.length - 1) 0=w:=by rw[zx7,hw];rfl
  rw[hg];refine zg ?_;refine aU ?_;rw[decide_eq_decide];omega
def gsame(q:ko)(hs:Sm WB q.2.1/\Sm WB q.2.2.2)(hl:q.2.1.length+q.2.2.2.length<=1000000):ah prog 124 [.agg (zN (Int.gcd (rzv (q.1,q.2.1)) (rzv (q.2.2.1,q.2.2.2)):Int)),.agg (zN 1)] (.v (.bool (decide (Int.gcd (rzv (q.1,q.2.1)) (rzv (q.2.2.1,q.2.2.2))=1)))):=by
 haveI b1:Bd (rzv (q.1,q.2.1)) q.2.1.length:=⟨(ZQ.raw (b:=q.1) hs.1 (zq6 _)).b⟩
 haveI b2:Bd (rzv (q.2.2.1,q.2.2.2)) q.2.2.2.length:=⟨(ZQ.raw (b:=q.2.2.1) hs.2 (zq6 _)).b⟩
 haveI b3:Bd (Int.gcd (rzv (q.1,q.2.1)) (rzv (q.2.2.1,q.2.2.2)):Int) (q.2.1.length+q.2.2.2.length):=⟨by rw[zxa];exact(BdN.igcd _ _ _ _).h⟩
 have h:=(apo (l:=zN (Int.gcd (rzv (q.1,q.2.1)) (rzv (q.2.2.1,q.2.2.2)):Int)) (l':=zN 1)).h (show q.2.1.length+q.2.2.2.length+1<=1099511627774 by omega)
 rw[show decide ((Int.gcd (rzv (q.1,q.2.1)) (rzv (q.2.2.1,q.2.2.2)):Int)=1)=decide (Int.gcd (rzv (q.1,q.2.1)) (rzv (q.2.2.1,q.2.2.2))=1)from decide_eq_decide.2 zE]at h
 exact h
def aja(q:ko)(hs:Sm WB q.2.1/\Sm WB q.2.2.2)(hl:q.2.1.length+q.2.2.2.length<=1000000):ah prog 114 [.agg (q4A (rq q))] (.v (.bool (qOk q))):=by
 have c1:=xk (q.1,q.2.1) (by dsimp only;omega)
 have c2:=xk (q.2.2.1,q.2.2.2) (by dsimp only;omega)
 have cS:=vk (h:=ZI.raw q.2.2.1 q.2.2.2).h (show q.2.2.2.length<=1099511627775 by omega)
 have cG:=(aq3 (h:=ZI.raw q.1 q.2.1) (h':=ZI.raw q.2.2.1 q.2.2.2)).h (show q.2.1.length+q.2.2.2.length<=1099511627760 by omega)
 have o1:=anC;have cE:=gsame q hs hl;unfold qOk;have hsg:=az3 (rzv (q.2.2.1,q.2.2.2));change ah _ _ _ (.v (.int .i64 (bG (rzv (q.2.2.1,q.2.2.2)))))at cS
 change ah _ _ _ (.agg (zN (Int.gcd (rzv (q.1,q.2.1)) (rzv (q.2.2.1,q.2.2.2)):Int)))at cG
 generalize rzv (q.2.2.1,q.2.2.2)=z at*;refine ah.fq func114 ?_;intros
 cases h1:zOk (q.1,q.2.1)
 ·rw[h1]at c1;refine zg ?_;exact aU rfl
 ·rw[h1]at c1;cases h2:zOk (q.2.2.1,q.2.2.2)
  ·rw[h2]at c2;refine zg ?_;exact aU rfl
  ·rw[h2]at c2;by_cases h3:0 < z
   ·refine zg ?_;refine aU ?_;rw[decide_eq_true h3];rfl
   ·refine zg ?_;refine aU ?_;rw[decide_eq_false h3];rfl
def aqp(l:List ko)(x:CA)(p:ko->Bool)(hx:∀v∈l,FnV prog x [.agg (q4A (rq v))] (.v (.bool (p v))))(hl:l.length<=100000)(hx1:x.dN=true):
  ah prog 168 [.r (aD 4 q4C (l.map rq)),.it (.one (.c x))] (.v (.int .i64 (fi p l 0))):=by
 have hlen:(l.map rq).length=l.length:=zq5 _;refine ah.fq func168 ?_;intros
 refine zg ?_;refine W.loop (fun k=>k<=l.length/\fi p (l.drop k) k=fi p l 0) (fun k=>[(0,.r (aD 4 q4C (l.map rq))),(1,.it (.one (.c x))),(7,.v (.int .i64 (l.length:Int))),(8,.v (.int .i64 (k:Int)))]) (fun _=>[]) (fun k=>l.length - k) 0 ⟨zq8 _,rfl⟩ (fun k ⟨hk,he⟩=>?_)
 by_cases h:k < l.length
 ·obtain⟨r,hr⟩:∃r,l[k]? =some r:=⟨_,zyh h⟩
  have hf:=hx r (zq4 hr);have hq:(l.map rq)[k]? =some (rq r):=by rw[zqa,hr];rfl
  have h':k < (l.map rq).length:=by rw[zq5];exact h
  rw[vH hr]at he;cases hp:p r with
  |true=>
   rw[hp]at hf he;refine zg ?_;refine dZ ?_;rw[<-he];rfl
  |false=>
   rw[hp]at hf he;refine zg ?_;exact W.next (k+1) ⟨h,he⟩ zE
 ·obtain rfl:k=l.length:=zE
  rw[zvh]at he;have h':¬l.length < (l.map rq).length:=by rw[zq5];omega
  refine zg ?_;refine dZ ?_;rw[<-he];rfl
def aqL(l:List ko)(x:CA)(p:ko->Bool)(hx:∀v∈l,FnV prog x [.agg (q4A (rq v))] (.v (.bool (p v))))(hl:l.length<=100000)(hx1:x.dN=true):
  ah prog 115 [.r (aD 4 q4C (l.map rq)),.it (.one (.c x))] (.v (.bool (l.any p))):=by
 have c:=aqp l x p hx hl hx1;rw[<-ag7];refine ah.fq func115 ?_;intros
 refine zg ?_;refine aU ?_;rw[decide_eq_decide];omega
def anU(l:List ko)(f:FuncId)(p:ko->Bool)(hx:∀v∈l,ah prog f [.agg (q4A (rq v))] (.v (.bool (p v))))(hl:l.length<=100000):
  ah prog 115 [.r (aD 4 q4C (l.map rq)),.it (.one (.clo f []))] (.v (.bool (l.any p))):=
 weakArgs (aqL l (.sat (jR f [] [])) p (fun v h=>FnV.const (hx v h)) hl rfl) fun E S w vs hv=>by
  match vs,hv with
  |[u1,u2],⟨h1,h2,_⟩=>exact⟨h1,alM h2,trivial⟩
def aur(l:List mM)(x:CA)(p:mM->Bool)(hx:∀v∈l,FnV prog x [.agg (z2A (rz v))] (.v (.bool (p v))))(hl:l.length<=100000)(hx1:x.dN=true):
  ah prog 169 [.r (aD 2 z2C (l.map rz)),.it (.one (.c x))] (.v (.int .i64 (fi p l 0))):=by
 have hlen:(l.map rz).length=l.length:=zq5 _;refine ah.fq func169 ?_;intros
 refine zg ?_;refine W.loop (fun k=>k<=l.length/\fi p (l.drop k) k=fi p l 0) (fun k=>[(0,.r (aD 2 z2C (l.map rz))),(1,.it (.one (.c x))),(7,.v (.int .i64 (l.length:Int))),(8,.v (.int .i64 (k:Int)))]) (fun _=>[]) (fun k=>l.length - k) 0 ⟨zq8 _,rfl⟩ (fun k ⟨hk,he⟩=>?_)
 by_cases h:k < l.length
 ·obtain⟨r,hr⟩:∃r,l[k]? =some r:=⟨_,zyh h⟩
  have hf:=hx r (zq4 hr);have hq:(l.map rz)[k]? =some (rz r):=by rw[zqa,hr];rfl
  have h':k < (l.map rz).length:=by rw[zq5];exact h
  rw[vH hr]at he;cases hp:p r with
  |true=>
   rw[hp]at hf he;refine zg ?_;refine dZ ?_;rw[<-he];rfl
  |false=>
   rw[hp]at hf he;refine zg ?_;exact W.next (k+1) ⟨h,he⟩ zE
 ·obtain rfl:k=l.length:=zE
  rw[zvh]at he;have h':¬l.length < (l.map rz).length:=by rw[zq5];omega
  refine zg ?_;refine dZ ?_;rw[<-he];rfl
def arf(l:List mM)(x:CA)(p:mM->Bool)(hx:∀v∈l,FnV prog x [.agg (z2A (rz v))] (.v (.bool (p v))))(hl:l.length<=100000)(hx1:x.dN=true):
  ah prog 117 [.r (aD 2 z2C (l.map rz)),.it (.one (.c x))] (.v (.bool (l.any p))):=by
 have c:=aur l x p hx hl hx1;rw[<-ag7];refine ah.fq func117 ?_;intros
 refine zg ?_;refine aU ?_;rw[decide_eq_decide];omega
def aoi(l:List mM)(f:FuncId)(p:mM->Bool)(hx:∀v∈l,ah prog f [.agg (z2A (rz v))] (.v (.bool (p v))))(hl:l.length<=100000):
  ah prog 117 [.r (aD 2 z2C (l.map rz)),.it (.one (.clo f []))] (.v (.bool (l.any p))):=
 weakArgs (arf l (.sat (jR f [] [])) p (fun v h=>FnV.const (hx v h)) hl rfl) fun E S w vs hv=>by
  match vs,hv with
  |[u1,u2],⟨h1,h2,_⟩=>exact⟨h1,alM h2,trivial⟩
def arC(l:List Nat)(x:CA)(p:Nat->Bool)(hx:∀v∈l,FnV prog x [.v (.int .u64 (v:Int))] (.v (.bool (p v))))(hl:l.length<=100000)(hx1:x.dN=true):
  ah prog 203 [.r (aD 1 wdC l),.it (.one (.c x))] (.v (.int .i64 (fi p l 0))):=by
 refine ah.fq func203 ?_;intros
 refine zg ?_;refine W.loop (fun k=>k<=l.length/\fi p (l.drop k) k=fi p l 0) (fun k=>[(0,.r (aD 1 wdC l)),(1,.it (.one (.c x))),(7,.v (.int .i64 (l.length:Int))),(8,.v (.int .i64 (k:Int)))]) (fun _=>[]) (fun k=>l.length - k) 0 ⟨zq8 _,rfl⟩ (fun k ⟨hk,he⟩=>?_)
 by_cases h:k < l.length
 ·obtain⟨r,hr⟩:∃r,l[k]? =some r:=⟨_,zyh h⟩
  have hf:=hx r (zq4 hr);rw[vH hr]at he;cases hp:p r with
  |true=>
   rw[hp]at hf he;refine zg ?_;refine dZ ?_;rw[<-he];rfl
  |false=>
   rw[hp]at hf he;refine zg ?_;exact W.next (k+1) ⟨h,he⟩ zE
 ·obtain rfl:k=l.length:=zE
  rw[zvh]at he;refine zg ?_;refine dZ ?_;rw[<-he];rfl
def aqR(l:List Nat)(x:CA)(p:Nat->Bool)(hx:∀v∈l,FnV prog x [.v (.int .u64 (v:Int))] (.v (.bool (p v))))(hl:l.length<=100000)(hx1:x.dN=true):
  ah prog 172 [.r (aD 1 wdC l),.it (.one (.c x))] (.v (.bool (l.any p))):=by
 have c:=arC l x p hx hl hx1;rw[<-ag7];refine ah.fq func172 ?_;intros
 refine zg ?_;refine aU ?_;rw[decide_eq_decide];omega
def aug(l:List Vl)(x:CA)(p:Vl->Bool)(hx:∀v∈l,FnV prog x [.agg (vlA v)] (.v (.bool (p v))))(hl:l.length<=100000)(hx1:x.dN=true):
  ah prog 174 [.r (aD 15 vlC l),.it (.one (.c x))] (.v (.int .i64 (fi p l 0))):=by
 rw[ab5];refine ah.fq func174 ?_;intros
 refine zg ?_;refine W.loop (fun k=>k<=l.length/\fi p (l.drop k) k=fi p l 0) (fun k=>[(0,.r (aD 15 vlE l)),(1,.it (.one (.c x))),(7,.v (.int .i64 (l.length:Int))),(8,.v (.int .i64 (k:Int)))]) (fun _=>[]) (fun k=>l.length - k) 0 ⟨zq8 _,rfl⟩ (fun k ⟨hk,he⟩=>?_)
 by_cases h:k < l.length
 ·obtain⟨r,hr⟩:∃r,l[k]? =some r:=⟨_,zyh h⟩
  have hf:=hx r (zq4 hr);rw[vH hr]at he;cases hp:p r with
  |true=>
   rw[hp]at hf he;refine zg ?_;refine dZ ?_;rw[<-he];rfl
  |false=>
   rw[hp]at hf he;refine zg ?_;exact W.next (k+1) ⟨h,he⟩ zE
 ·obtain rfl:k=l.length:=zE
  rw[zvh]at he;refine zg ?_;refine dZ ?_;rw[<-he];rfl
def aq7(l:List Vl)(x:CA)(p:Vl->Bool)(hx:∀v∈l,FnV prog x [.agg (vlA v)] (.v (.bool (p v))))(hl:l.length<=100000)(hx1:x.dN=true):
  ah prog 122 [.r (aD 15 vlC l),.it (.one (.c x))] (.v (.bool (l.any p))):=by
 have c:=aug l x p hx hl hx1;rw[<-ag7];refine ah.fq func122 ?_;intros
 refine zg ?_;refine aU ?_;rw[decide_eq_decide];omega
end
section
def vP0(v:Vl):vP v=0↔(v.k=1\/(v.q.2.1.length=0/\v.q.2.2.2.length=0/\v.q.1=false/\v.q.2.2.1=false))/\(v.k=2\/(v.r=0/\v.c=0/\v.a.length=0))/\(v.k=3\/v.po.length=0)/\(v.k=4\/(v.fr=0/\v.fc=0/\v.fa.length=0))/\(v.k=5\/v.ri.length=0)/\(v.k=4\/v.k=5\/v.p=0)/\(v.k=6\/v.li.length=0):=by
 have e:∀(p:Prop) [Decidable p],pt p=0↔¬p:=fun p _=>by unfold pt;split <;> simp_all
 unfold vP;rw[Nat.add_eq_zero_iff,Nat.add_eq_zero_iff,Nat.add_eq_zero_iff,Nat.add_eq_zero_iff,Nat.add_eq_zero_iff,Nat.add_eq_zero_iff,e,e,e,e,e,e,e,<-avX];constructor
 ·rintro⟨⟨⟨⟨⟨⟨h1,h2⟩,h3⟩,h4⟩,h5⟩,h6⟩,h7⟩;refine⟨?_,zE,zE,zE,zE,zE,zE⟩
  by_cases h:v.k=1
  ·exact .inl h
  ·exact .inr (Decidable.byContradiction fun h'=>h1 ⟨h,h'⟩)
 ·rintro⟨h1,h2,h3,h4,h5,h6,h7⟩;refine⟨⟨⟨⟨⟨⟨?_,zE⟩,zE⟩,zE⟩,zE⟩,zE⟩,zE⟩
  rintro⟨h,h'⟩;exact h1.elim h h'
def oZ{b:Bool}{l:List Nat}(h:l.length=0):bitLen (sgn b (nval WB l)).natAbs=0:=by
 rw[zx5 h];cases b <;> rfl
def kiC(k:Int):List CA:=[.val (.int .i64 k)]
instance:dY kiC 1:=⟨fun _=>rfl⟩
attribute [local irreducible] IntKind.wrap Go1 Reg WP aK aN bD aZ aJ aA aj ak aT Sat
def aqu(l:List Int)(i:Int)(hl:l.length<=1000):ah prog 202 [.r (aD 1 kiC l),.v (.int .i64 i)] (.v (.int .i64 (fi (fun a=>decide (i=a)) l 0))):=by
 refine ah.fq func202 ?_;intros
 refine zg ?_;refine W.loop (fun k=>k<=l.length/\fi (fun a=>decide (i=a)) (l.drop k) k=fi (fun a=>decide (i=a)) l 0) (fun k=>[(0,.r (aD 1 kiC l)),(1,.v (.int .i64 i)),(7,.v (.int .i64 (l.length:Int))),(8,.v (.int .i64 (k:Int)))]) (fun _=>[]) (fun k=>l.length - k) 0 ⟨zq8 _,rfl⟩ (fun k ⟨hk,he⟩=>?_)
 by_cases h:k < l.length
 ·obtain⟨r,hr⟩:∃r,l[k]? =some r:=⟨_,zyh h⟩
  rw[vH hr]at he;by_cases hp:i=r
  ·rw[if_pos (decide_eq_true hp)]at he;refine zg ?_;exact dZ he
  ·rw[if_neg (by rw[decide_eq_false hp];decide)]at he
   refine zg ?_;exact W.next (k+1) ⟨h,he⟩ zE
 ·obtain rfl:k=l.length:=zE
  rw[zvh]at he;refine zg ?_;refine dZ ?_;rw[<-he];rfl
def apk(k i:Int):ah prog 166 [.r (aD 1 kiC [k]),.v (.int .i64 i)] (.v (.bool (decide (i=k)))):=by
 have c:=aqu [k] i (by rw[zw1];decide)
 refine ah.fq func166 ?_;intros
 have e:fi (fun a=>decide (i=a)) [k] 0=if i=k then 0 else -1:=by
  unfold fi;by_cases h:i=k
  ·rw[if_pos (decide_eq_true h),if_pos h];rfl
  ·rw[if_neg (by rw[decide_eq_false h];decide),if_neg h];rfl
 rw[e]at c;by_cases h:i=k
 ·rw[if_pos h]at c;refine zg ?_;refine aU ?_;rw[decide_eq_true h];first|rfl|decide
 ·rw[if_neg h]at c;refine zg ?_;refine aU ?_;rw[decide_eq_false h];first|rfl|decide
def acT(k i:Int):ah prog 165 [.v (.int .i64 i),.r (dL [.sat (aD 1 kiC [k])])] (.v (.bool (!decide (i=k)))):=by
 have c:=apk k i;refine ah.fq func165 ?_;intros
 refine zg ?_;exact aU rfl
structure vZ0(v:Vl):Prop where
 q:(Sm WB v.q.2.1/\Sm WB v.q.2.2.2)/\v.q.2.1.length<=100000/\v.q.2.2.2.length<=100000
 a:∀x∈v.a,(Sm WB x.2.1/\Sm WB x.2.2.2)/\x.2.1.length<=100000/\x.2.2.2.length<=100000
 al:v.a.length<=100000
 po:∀x∈v.po,Sm WB x.2/\x.2.length<=100000
 pol:v.po.length<=100000
 p:v.p < WB
 fa:∀x∈v.fa,x < WB
 fal:v.fa.length<=100000
 ri:∀x∈v.ri,x < WB
 ril:v.ri.length<=100000
 lil:v.li.length<=100000
def bkT{v:Vl}(i:Int)(h:i≠v.k):FnV prog (.sat (jR 165 [] [.sat (dL [.sat (aD 1 kiC [v.k])])])) [.v (.int .i64 i)] (.v (.bool true)):=by
 have c:FnV prog (.sat (jR 165 [] [.sat (dL [.sat (aD 1 kiC [v.k])])])) [.v (.int .i64 i)] (.v (.bool (!decide (i=v.k)))):=FnV.clo (acT v.k i)
 rwa [decide_eq_false h]at c
def bkF{v:Vl}(i:Int)(h:i=v.k):FnV prog (.sat (jR 165 [] [.sat (dL [.sat (aD 1 kiC [v.k])])])) [.v (.int .i64 i)] (.v (.bool false)):=by
 have c:FnV prog (.sat (jR 165 [] [.sat (dL [.sat (aD 1 kiC [v.k])])])) [.v (.int .i64 i)] (.v (.bool (!decide (i=v.k)))):=FnV.clo (acT v.k i)
 rwa [decide_eq_true h]at c
def ajf(v:Vl)(hz:vZ0 v)(hk:v.k=1):ah prog 113 [.agg (vlA v),.r (aD 1 kiC [v.k])] (.v (.bool (decide (vP v=0)))):=by
 have c1:=bkF (v:=v) 1 zE
 have c2:=bkT (v:=v) 2 zE
 have c3:=bkT (v:=v) 3 zE
 have c4:=bkT (v:=v) 4 zE
 have c5:=bkT (v:=v) 5 zE
 have c6:=bkT (v:=v) 6 zE
 have cb1:=(fE (h:=ZI.raw v.q.1 v.q.2.1)).h (show v.q.2.1.length<=1099511627775 by have:=hz.q.2.1;omega)
 have cb2:=(fE (h:=ZI.raw v.q.2.2.1 v.q.2.2.2)).h (show v.q.2.2.2.length<=1099511627775 by have:=hz.q.2.2;omega)
 have hP:=vP0 v;have f1:=oZ (b:=v.q.1) (l:=v.q.2.1);have f2:=oZ (b:=v.q.2.2.1) (l:=v.q.2.2.2);have b1:=hz.q.2.1;have b2:=hz.q.2.2;have b3:=hz.al;have b4:=hz.pol;have b5:=hz.fal;have b6:=hz.ril;have b7:=hz.lil;have l1:(v.a.map rq).length=v.a.length:=zq5 _;have l2:(v.po.map rz).length=v.po.length:=zq5 _;refine ah.fq func113 fun _ _ _ _ hB=>?_
 refine zg ?_;refine WP.dG 3 hB rfl rfl ?_;refine WP.aG ?_;have k0:=hk
 repeat'(first|refine zg ?_|refine SX.W.ite (fun h=>?_) (fun h=>?_)|refine SX.W.iteN (fun h=>?_) (fun h=>?_)|refine SX.W.gD (fun h=>?_) (fun h=>?_)|refine SX.R.ite (fun h=>?_) (fun h=>?_)|refine SX.R.iteN (fun h=>?_) (fun h=>?_)|refine SX.R.gD (fun h=>?_) (fun h=>?_))
 all_goals
  refine aU ?_;refine zyc.2 (Iff.trans ?_ decide_eq_true_iff.symm);rw[hP];constructor
  ·intro hh;first
    |(cases hh;done)
    |(try rw[decide_eq_true_iff]at hh
      refine⟨?_,?_,?_,?_,?_,?_,?_⟩ <;> first|omega|(refine .inr ⟨?_,?_,?_,?_⟩ <;> first|omega|assumption))
  ·rintro⟨h1,h2,h3,h4,h5,h6,h7⟩;first
    |rfl
    |(rw[decide_eq_true_iff];omega)
    |(exfalso;first|omega|(rcases h1 with h1|⟨g1,g2,g3,g4⟩ <;> first|omega|(clear c1 c2 c3 c4 c5 c6 f1 f2 hP;simp_all;done)))
def aiG(v:Vl)(hz:vZ0 v)(hk:v.k=2):ah prog 113 [.agg (vlA v),.r (aD 1 kiC [v.k])] (.v (.bool (decide (vP v=0)))):=by
 have c1:=bkT (v:=v) 1 zE
 have c2:=bkF (v:=v) 2 zE
 have c3:=bkT (v:=v) 3 zE
 have c4:=bkT (v:=v) 4 zE
 have c5:=bkT (v:=v) 5 zE
 have c6:=bkT (v:=v) 6 zE
 have cb1:=(fE (h:=ZI.raw v.q.1 v.q.2.1)).h (show v.q.2.1.length<=1099511627775 by have:=hz.q.2.1;omega)
 have cb2:=(fE (h:=ZI.raw v.q.2.2.1 v.q.2.2.2)).h (show v.q.2.2.2.length<=1099511627775 by have:=hz.q.2.2;omega)
 have hP:=vP0 v;have f1:=oZ (b:=v.q.1) (l:=v.q.2.1);have f2:=oZ (b:=v.q.2.2.1) (l:=v.q.2.2.2);have b1:=hz.q.2.1;have b2:=hz.q.2.2;have b3:=hz.al;have b4:=hz.pol;have b5:=hz.fal;have b6:=hz.ril;have b7:=hz.lil;have l1:(v.a.map rq).length=v.a.length:=zq5 _;have l2:(v.po.map rz).length=v.po.length:=zq5 _;refine ah.fq func113 fun _ _ _ _ hB=>?_
 refine zg ?_;refine WP.dG 3 hB rfl rfl ?_;refine WP.aG ?_;have k0:=hk
 repeat'(first|refine zg ?_|refine SX.W.ite (fun h=>?_) (fun h=>?_)|refine SX.W.iteN (fun h=>?_) (fun h=>?_)|refine SX.W.gD (fun h=>?_) (fun h=>?_)|refine SX.R.ite (fun h=>?_) (fun h=>?_)|refine SX.R.iteN (fun h=>?_) (fun h=>?_)|refine SX.R.gD (fun h=>?_) (fun h=>?_))
 all_goals
  refine aU ?_;refine zyc.2 (Iff.trans ?_ decide_eq_true_iff.symm);rw[hP];constructor
  ·intro hh;first
    |(cases hh;done)
    |(try rw[decide_eq_true_iff]at hh
      refine⟨?_,?_,?_,?_,?_,?_,?_⟩ <;> first|omega|(refine .inr ⟨?_,?_,?_,?_⟩ <;> first|omega|assumption))
  ·rintro⟨h1,h2,h3,h4,h5,h6,h7⟩;first
    |rfl
    |(rw[decide_eq_true_iff];omega)
    |(exfalso;first|omega|(rcases h1 with h1|⟨g1,g2,g3,g4⟩ <;> first|omega|(clear c1 c2 c3 c4 c5 c6 f1 f2 hP;simp_all;done)))
def ah4(v:Vl)(hz:vZ0 v)(hk:v.k=3):ah prog 113 [.agg (vlA v),.r (aD 1 kiC [v.k])] (.v (.bool (decide (vP v=0)))):=by
 have c1:=bkT (v:=v) 1 zE
 have c2:=bkT (v:=v) 2 zE
 have c3:=bkF (v:=v) 3 zE
 have c4:=bkT (v:=v) 4 zE
 have c5:=bkT (v:=v) 5 zE
 have c6:=bkT (v:=v) 6 zE
 have cb1:=(fE (h:=ZI.raw v.q.1 v.q.2.1)).h (show v.q.2.1.length<=1099511627775 by have:=hz.q.2.1;omega)
 have cb2:=(fE (h:=ZI.raw v.q.2.2.1 v.q.2.2.2)).h (show v.q.2.2.2.length<=1099511627775 by have:=hz.q.2.2;omega)
 have hP:=vP0 v;have f1:=oZ (b:=v.q.1) (l:=v.q.2.1);have f2:=oZ (b:=v.q.2.2.1) (l:=v.q.2.2.2);have b1:=hz.q.2.1;have b2:=hz.q.2.2;have b3:=hz.al;have b4:=hz.pol;have b5:=hz.fal;have b6:=hz.ril;have b7:=hz.lil;have l1:(v.a.map rq).length=v.a.length:=zq5 _;have l2:(v.po.map rz).length=v.po.length:=zq5 _;refine ah.fq func113 fun _ _ _ _ hB=>?_
 refine zg ?_;refine WP.dG 3 hB rfl rfl ?_;refine WP.aG ?_;have k0:=hk
 repeat'(first|refine zg ?_|refine SX.W.ite (fun h=>?_) (fun h=>?_)|refine SX.W.iteN (fun h=>?_) (fun h=>?_)|refine SX.W.gD (fun h=>?_) (fun h=>?_)|refine SX.R.ite (fun h=>?_) (fun h=>?_)|refine SX.R.iteN (fun h=>?_) (fun h=>?_)|refine SX.R.gD (fun h=>?_) (fun h=>?_))
 all_goals
  refine aU ?_;refine zyc.2 (Iff.trans ?_ decide_eq_true_iff.symm);rw[hP];constructor
  ·intro hh;first
    |(cases hh;done)
    |(try rw[decide_eq_true_iff]at hh
      refine⟨?_,?_,?_,?_,?_,?_,?_⟩ <;> first|omega|(refine .inr ⟨?_,?_,?_,?_⟩ <;> first|omega|assumption))
  ·rintro⟨h1,h2,h3,h4,h5,h6,h7⟩;first
    |rfl
    |(rw[decide_eq_true_iff];omega)
    |(exfalso;first|omega|(rcases h1 with h1|⟨g1,g2,g3,g4⟩ <;> first|omega|(clear c1 c2 c3 c4 c5 c6 f1 f2 hP;simp_all;done)))
def ahy(v:Vl)(hz:vZ0 v)(hk:v.k=4):ah prog 113 [.agg (vlA v),.r (aD 1 kiC [v.k])] (.v (.bool (decide (vP v=0)))):=by
 have c1:=bkT (v:=v) 1 zE
 have c2:=bkT (v:=v) 2 zE
 have c3:=bkT (v:=v) 3 zE
 have c4:=bkF (v:=v) 4 zE
 have c5:=bkT (v:=v) 5 zE
 have c6:=bkT (v:=v) 6 zE
 have cb1:=(fE (h:=ZI.raw v.q.1 v.q.2.1)).h (show v.q.2.1.length<=1099511627775 by have:=hz.q.2.1;omega)
 have cb2:=(fE (h:=ZI.raw v.q.2.2.1 v.q.2.2.2)).h (show v.q.2.2.2.length<=1099511627775 by have:=hz.q.2.2;omega)
 have hP:=vP0 v;have f1:=oZ (b:=v.q.1) (l:=v.q.2.1);have f2:=oZ (b:=v.q.2.2.1) (l:=v.q.2.2.2);have b1:=hz.q.2.1;have b2:=hz.q.2.2;have b3:=hz.al;have b4:=hz.pol;have b5:=hz.fal;have b6:=hz.ril;have b7:=hz.lil;have l1:(v.a.map rq).length=v.a.length:=zq5 _;have l2:(v.po.map rz).length=v.po.length:=zq5 _;refine ah.fq func113 fun _ _ _ _ hB=>?_
 refine zg ?_;refine WP.dG 3 hB rfl rfl ?_;refine WP.aG ?_;have k0:=hk
 repeat'(first|refine zg ?_|refine SX.W.ite (fun h=>?_) (fun h=>?_)|refine SX.W.iteN (fun h=>?_) (fun h=>?_)|refine SX.W.gD (fun h=>?_) (fun h=>?_)|refine SX.R.ite (fun h=>?_) (fun h=>?_)|refine SX.R.iteN (fun h=>?_) (fun h=>?_)|refine SX.R.gD (fun h=>?_) (fun h=>?_))
 all_goals
  refine aU ?_;refine zyc.2 (Iff.trans ?_ decide_eq_true_iff.symm);rw[hP];constructor
  ·intro hh;first
    |(cases hh;done)
    |(try rw[decide_eq_true_iff]at hh
      refine⟨?_,?_,?_,?_,?_,?_,?_⟩ <;> first|omega|(refine .inr ⟨?_,?_,?_,?_⟩ <;> first|omega|assumption))
  ·rintro⟨h1,h2,h3,h4,h5,h6,h7⟩;first
    |rfl
    |(rw[decide_eq_true_iff];omega)
    |(exfalso;first|omega|(rcases h1 with h1|⟨g1,g2,g3,g4⟩ <;> first|omega|(clear c1 c2 c3 c4 c5 c6 f1 f2 hP;simp_all;done)))
def ahd(v:Vl)(hz:vZ0 v)(hk:v.k=5):ah prog 113 [.agg (vlA v),.r (aD 1 kiC [v.k])] (.v (.bool (decide (vP v=0)))):=by
 have c1:=bkT (v:=v) 1 zE
 have c2:=bkT (v:=v) 2 zE
 have c3:=bkT (v:=v) 3 zE
 have c4:=bkT (v:=v) 4 zE
 have c5:=bkF (v:=v) 5 zE
 have c6:=bkT (v:=v) 6 zE
 have cb1:=(fE (h:=ZI.raw v.q.1 v.q.2.1)).h (show v.q.2.1.length<=1099511627775 by have:=hz.q.2.1;omega)
 have cb2:=(fE (h:=ZI.raw v.q.2.2.1 v.q.2.2.2)).h (show v.q.2.2.2.length<=1099511627775 by have:=hz.q.2.2;omega)
 have hP:=vP0 v;have f1:=oZ (b:=v.q.1) (l:=v.q.2.1);have f2:=oZ (b:=v.q.2.2.1) (l:=v.q.2.2.2);have b1:=hz.q.2.1;have b2:=hz.q.2.2;have b3:=hz.al;have b4:=hz.pol;have b5:=hz.fal;have b6:=hz.ril;have b7:=hz.lil;have l1:(v.a.map rq).length=v.a.length:=zq5 _;have l2:(v.po.map rz).length=v.po.length:=zq5 _;refine ah.fq func113 fun _ _ _ _ hB=>?_
 refine zg ?_;refine WP.dG 3 hB rfl rfl ?_;refine WP.aG ?_;have k0:=hk
 repeat'(first|refine zg ?_|refine SX.W.ite (fun h=>?_) (fun h=>?_)|refine SX.W.iteN (fun h=>?_) (fun h=>?_)|refine SX.W.gD (fun h=>?_) (fun h=>?_)|refine SX.R.ite (fun h=>?_) (fun h=>?_)|refine SX.R.iteN (fun h=>?_) (fun h=>?_)|refine SX.R.gD (fun h=>?_) (fun h=>?_))
 all_goals
  refine aU ?_;refine zyc.2 (Iff.trans ?_ decide_eq_true_iff.symm);rw[hP];constructor
  ·intro hh;first
    |(cases hh;done)
    |(try rw[decide_eq_true_iff]at hh
      refine⟨?_,?_,?_,?_,?_,?_,?_⟩ <;> first|omega|(refine .inr ⟨?_,?_,?_,?_⟩ <;> first|omega|assumption))
  ·rintro⟨h1,h2,h3,h4,h5,h6,h7⟩;first
    |rfl
    |(rw[decide_eq_true_iff];omega)
    |(exfalso;first|omega|(rcases h1 with h1|⟨g1,g2,g3,g4⟩ <;> first|omega|(clear c1 c2 c3 c4 c5 c6 f1 f2 hP;simp_all;done)))
def ahV(v:Vl)(hz:vZ0 v)(hk:v.k=6):ah prog 113 [.agg (vlA v),.r (aD 1 kiC [v.k])] (.v (.bool (decide (vP v=0)))):=by
 have c1:=bkT (v:=v) 1 zE
 have c2:=bkT (v:=v) 2 zE
 have c3:=bkT (v:=v) 3 zE
 have c4:=bkT (v:=v) 4 zE
 have c5:=bkT (v:=v) 5 zE
 have c6:=bkF (v:=v) 6 zE
 have cb1:=(fE (h:=ZI.raw v.q.1 v.q.2.1)).h (show v.q.2.1.length<=1099511627775 by have:=hz.q.2.1;omega)
 have cb2:=(fE (h:=ZI.raw v.q.2.2.1 v.q.2.2.2)).h (show v.q.2.2.2.length<=1099511627775 by have:=hz.q.2.2;omega)
 have hP:=vP0 v;have f1:=oZ (b:=v.q.1) (l:=v.q.2.1);have f2:=oZ (b:=v.q.2.2.1) (l:=v.q.2.2.2);have b1:=hz.q.2.1;have b2:=hz.q.2.2;have b3:=hz.al;have b4:=hz.pol;have b5:=hz.fal;have b6:=hz.ril;have b7:=hz.lil;have l1:(v.a.map rq).length=v.a.length:=zq5 _;have l2:(v.po.map rz).length=v.po.length:=zq5 _;refine ah.fq func113 fun _ _ _ _ hB=>?_
 refine zg ?_;refine WP.dG 3 hB rfl rfl ?_;refine WP.aG ?_;have k0:=hk
 repeat'(first|refine zg ?_|refine SX.W.ite (fun h=>?_) (fun h=>?_)|refine SX.W.iteN (fun h=>?_) (fun h=>?_)|refine SX.W.gD (fun h=>?_) (fun h=>?_)|refine SX.R.ite (fun h=>?_) (fun h=>?_)|refine SX.R.iteN (fun h=>?_) (fun h=>?_)|refine SX.R.gD (fun h=>?_) (fun h=>?_))
 all_goals
  refine aU ?_;refine zyc.2 (Iff.trans ?_ decide_eq_true_iff.symm);rw[hP];constructor
  ·intro hh;first
    |(cases hh;done)
    |(try rw[decide_eq_true_iff]at hh
      refine⟨?_,?_,?_,?_,?_,?_,?_⟩ <;> first|omega|(refine .inr ⟨?_,?_,?_,?_⟩ <;> first|omega|assumption))
  ·rintro⟨h1,h2,h3,h4,h5,h6,h7⟩;first
    |rfl
    |(rw[decide_eq_true_iff];omega)
    |(exfalso;first|omega|(rcases h1 with h1|⟨g1,g2,g3,g4⟩ <;> first|omega|(clear c1 c2 c3 c4 c5 c6 f1 f2 hP;simp_all;done)))
def ai8(v:Vl)(hz:vZ0 v)(hk:v.k≠1/\v.k≠2/\v.k≠3/\v.k≠4/\v.k≠5/\v.k≠6):ah prog 113 [.agg (vlA v),.r (aD 1 kiC [v.k])] (.v (.bool (decide (vP v=0)))):=by
 have c1:=bkT (v:=v) 1 zE
 have c2:=bkT (v:=v) 2 zE
 have c3:=bkT (v:=v) 3 zE
 have c4:=bkT (v:=v) 4 zE
 have c5:=bkT (v:=v) 5 zE
 have c6:=bkT (v:=v) 6 zE
 have cb1:=(fE (h:=ZI.raw v.q.1 v.q.2.1)).h (show v.q.2.1.length<=1099511627775 by have:=hz.q.2.1;omega)
 have cb2:=(fE (h:=ZI.raw v.q.2.2.1 v.q.2.2.2)).h (show v.q.2.2.2.length<=1099511627775 by have:=hz.q.2.2;omega)
 have hP:=vP0 v;have f1:=oZ (b:=v.q.1) (l:=v.q.2.1);have f2:=oZ (b:=v.q.2.2.1) (l:=v.q.2.2.2);have b1:=hz.q.2.1;have b2:=hz.q.2.2;have b3:=hz.al;have b4:=hz.pol;have b5:=hz.fal;have b6:=hz.ril;have b7:=hz.lil;have l1:(v.a.map rq).length=v.a.length:=zq5 _;have l2:(v.po.map rz).length=v.po.length:=zq5 _;refine ah.fq func113 fun _ _ _ _ hB=>?_
 refine zg ?_;refine WP.dG 3 hB rfl rfl ?_;refine WP.aG ?_
 repeat'(first|refine zg ?_|refine SX.W.ite (fun h=>?_) (fun h=>?_)|refine SX.W.iteN (fun h=>?_) (fun h=>?_)|refine SX.W.gD (fun h=>?_) (fun h=>?_)|refine SX.R.ite (fun h=>?_) (fun h=>?_)|refine SX.R.iteN (fun h=>?_) (fun h=>?_)|refine SX.R.gD (fun h=>?_) (fun h=>?_))
 all_goals
  refine aU ?_;refine zyc.2 (Iff.trans ?_ decide_eq_true_iff.symm);rw[hP];constructor
  ·intro hh;first
    |(cases hh;done)
    |(try rw[decide_eq_true_iff]at hh
      refine⟨?_,?_,?_,?_,?_,?_,?_⟩ <;> first|omega|(refine .inr ⟨?_,?_,?_,?_⟩ <;> first|omega|assumption))
  ·rintro⟨h1,h2,h3,h4,h5,h6,h7⟩;first
    |rfl
    |(rw[decide_eq_true_iff];omega)
    |(exfalso;first|omega|(rcases h1 with h1|⟨g1,g2,g3,g4⟩ <;> first|omega|(clear c1 c2 c3 c4 c5 c6 f1 f2 hP;simp_all;done)))
def aoQ(v:Vl)(hz:vZ0 v):ah prog 113 [.agg (vlA v),.r (aD 1 kiC [v.k])] (.v (.bool (decide (vP v=0)))):=by
 have hk:v.k=1\/v.k=2\/v.k=3\/v.k=4\/v.k=5\/v.k=6\/(v.k≠1/\v.k≠2/\v.k≠3/\v.k≠4/\v.k≠5/\v.k≠6):=zE
 rcases hk with hk|hk|hk|hk|hk|hk|hk
 ·exact ajf v hz hk
 ·exact aiG v hz hk
 ·exact ah4 v hz hk
 ·exact ahy v hz hk
 ·exact ahd v hz hk
 ·exact ahV v hz hk
 ·exact ai8 v hz hk
end
section
def PrP(p:Nat):Prop:=2<=p/\p < 2147483648/\∀d,d < p->2<=d/\d*d<=p->p % d≠0
instance(p:Nat):Decidable (PrP p):=by unfold PrP;infer_instance
def mH(a b:Nat):(a:Int).tmod (b:Int)=((a % b:Nat):Int):=rfl
def arz(a b:Nat):(a:Int).tdiv (b:Int)=((a / b:Nat):Int):=rfl
def wrapN{n:Nat}(h:n < 18446744073709551616):IntKind.u64.wrap (n:Int)=(n:Int):=pO zE zE
def PrP.intro{d:Nat}(h1:2<=p)(h2:p < 2147483648)(h3:p < d*d)(h:∀e,2<=e->e < d->p % e≠0):PrP p:=⟨h1,h2,fun e _ he=>h e he.1 (by
 rcases zyd e d with h'|h'
 ·exact h'
 ·have:=zxd h' h';omega)⟩
def PrP.not{d:Nat}(h1:2<=d)(h2:d*d<=p)(h3:p % d=0):¬PrP p:=fun h=>h.2.2 d (by
 have:=zxd h1 (zq6 d);omega) ⟨h1,h2⟩ h3
attribute [local irreducible] IntKind.wrap Go1 Reg WP aK aN bD aZ aJ aA aj ak aT Sat
attribute [local irreducible] PrP
def adx(p:Nat)(hp:p < 18446744073709551616):ah prog 171 [.v (.int .u64 (p:Int))] (.v (.bool (decide (PrP p)))):=by
 have hr2:IntKind.u64.wrap ((p:Int).tmod 2)=((p % 2:Nat):Int):=by rw[show (2:Int)=((2:Nat):Int)from rfl,mH];exact wrapN (zxb (Nat.mod_le p 2) hp)
 refine ah.fq func171 ?_;intros
 by_cases h1:p < 2
 ·have h1':(p:Int) < 2:=zE
  refine zg ?_;refine aU ?_;rw[zyc,decide_eq_true_iff];refine Iff.trans ?_ decide_eq_true_iff.symm;exact⟨fun h=>zE,fun h=>by unfold PrP at h;omega⟩
 by_cases h2:2147483648<=p
 ·have h2':(p:Int)≥2147483648:=zE
  refine zg ?_;refine aU ?_;rw[zyc,decide_eq_true_iff];refine Iff.trans ?_ decide_eq_true_iff.symm;exact⟨fun h=>zE,fun h=>by unfold PrP at h;omega⟩
 by_cases h3:p % 2=0
 ·refine zg ?_;refine aU ?_;rw[zyc,decide_eq_true_iff];refine Iff.trans ?_ decide_eq_true_iff.symm;constructor
  ·intro h;obtain rfl:p=2:=zE
   exact PrP.intro (d:=2) zc zc zc (fun e h h'=>zE)
  ·intro h;rcases zyd p 4 with h4|h4
   ·omega
   ·exact absurd h (PrP.not (d:=2) zc zE h3)
 refine zg ?_;refine W.loop (fun d=>3<=d/\d<=50000/\d % 2=1/\∀e,2<=e->e < d->p % e≠0) (fun d=>[(0,.v (.int .u64 (p:Int))),(3,.v (.int .u64 (d:Int)))]) (fun _=>[]) (fun d=>50001 - d) 3 ⟨zE,zE,zE,fun e h h'=>(show e=2 by omega)▸h3⟩ (fun d ⟨hd,hd2,hodd,he⟩=>?_)
 have hmm:d*d<=50000*50000:=zxd hd2 hd2;have hq:IntKind.u64.wrap ((d:Int)*(d:Int))=((d*d:Nat):Int):=by rw[<-Int.natCast_mul];exact wrapN zE
 have hr:IntKind.u64.wrap ((p:Int).tmod (d:Int))=((p % d:Nat):Int):=by rw[mH];exact wrapN (zxb (Nat.mod_le p d) hp)
 have hdz:(d:Int)≠0:=zE
 by_cases h:d*d<=p
 ·by_cases h5:p % d=0
  ·refine zg ?_;refine aU ?_;exact(decide_eq_false (PrP.not zE h h5)).symm
  ·have hd3:d<=46340:=by
    rcases zyd 46340 d with h4|h4
    ·have:=zxd h4 h4;omega
    ·exact h4
   refine zg ?_;refine W.next (d+2) ⟨zE,zE,zE,fun e h h'=>?_⟩ zE
   by_cases h6:e < d
   ·exact he e h h6
   ·by_cases h7:e=d
    ·subst h7;exact h5
    ·obtain rfl:e=d+1:=zE
     intro h8;have h9:(d+1) % 2=0:=zE
     have:p % 2=0:=Nat.mod_eq_zero_of_dvd (Nat.dvd_trans (Nat.dvd_of_mod_eq_zero h9) (Nat.dvd_of_mod_eq_zero h8));exact h3 this
 ·refine zg ?_;refine aU ?_;exact(decide_eq_true (PrP.intro zE zE zE he)).symm
end
section
abbrev vlK(v:Vl):List CA:=[.val (.int .i64 v.k),.val (.bool v.q.1),.sat (dV v.q.2.1),.val (.bool v.q.2.2.1),.sat (dV v.q.2.2.2),.val (.int .i64 v.r),.val (.int .i64 v.c),.sat (aD 4 q4C (v.a.map rq)),.sat (aD 2 z2C (v.po.map rz)),.val (.int .u64 (v.p:Int)),.val (.int .i64 v.fr),.val (.int .i64 v.fc),.sat (aD 1 wdC v.fa),.sat (aD 1 wdC v.ri),.sat (aD 15 vlC v.li)]
def xq(r c:Int)(n:Nat):Bool:=decide (0<=r/\r<=64/\0<=c/\c<=64/\(n:Int)=r*c)
def mOk(r c:Int)(a:List ko):Bool:=a.all qOk&&xq r c a.length
def lz(po:List mM):Bool:=decide (po.length=0)||decide (rzv (po.getD (po.length - 1) (false,[]))≠0)
def pOk(po:List mM):Bool:=po.all zOk&&lz po
def ltp(p x:Nat):Bool:=decide (x < p)
def fOk(r c:Int)(fa:List Nat)(p:Nat):Bool:=fa.all (ltp p)&&xq r c fa.length
def lw(ri:List Nat):Bool:=decide (ri.length=0)||decide (ri.getD (ri.length - 1) 0≠0)
def rOk(p:Nat)(ri:List Nat):Bool:=ri.all (ltp p)&&lw ri
def vK(rec:Vl->Bool)(pos:Bool)(v:Vl):Bool:=decide (vP v=0)&&(if v.k=1 then qOk v.q else if v.k=2 then mOk v.r v.c v.a else if v.k=3 then pOk v.po else if v.k=4 then decide (PrP v.p)&&fOk v.fr v.fc v.fa v.p else if v.k=5 then decide (PrP v.p)&&rOk v.p v.ri else if v.k=6 then pos&&v.li.all rec else false)
def vF:Nat->Vl->Bool
 |0,v=>vK (fun _=>false) false v
 |d+1,v=>vK (vF d) true v
def vZ:Nat->Vl->Prop
 |0,v=>vZ0 v/\v.li=[]
 |n+1,v=>vZ0 v/\∀x∈v.li,vZ n x
def vZ.z{n:Nat}{v:Vl}(h:vZ n v):vZ0 v:=by cases n <;> exact h.1
def vF_P{d:Nat}{v:Vl}(h:vP v≠0):vF d v=false:=by
 cases d <;> (unfold vF vK;rw[decide_eq_false h];rfl)
def vF_1{d:Nat}{v:Vl}(h:vP v=0)(hk:v.k=1):vF d v=qOk v.q:=by
 cases d <;> (unfold vF vK;rw[decide_eq_true h,if_pos hk];rfl)
def vF_2{d:Nat}{v:Vl}(h:vP v=0)(hk:v.k=2):vF d v=mOk v.r v.c v.a:=by
 cases d <;> (unfold vF vK;rw[decide_eq_true h,if_neg zE,if_pos hk];rfl)
def vF_3{d:Nat}{v:Vl}(h:vP v=0)(hk:v.k=3):vF d v=pOk v.po:=by
 cases d <;> (unfold vF vK;rw[decide_eq_true h,if_neg zE,if_neg zE,if_pos hk];rfl)
def vF_4{d:Nat}{v:Vl}(h:vP v=0)(hk:v.k=4):vF d v=(decide (PrP v.p)&&fOk v.fr v.fc v.fa v.p):=by
 cases d <;> (unfold vF vK;rw[decide_eq_true h,if_neg zE,if_neg zE,if_neg zE,if_pos hk];rfl)
def vF_5{d:Nat}{v:Vl}(h:vP v=0)(hk:v.k=5):vF d v=(decide (PrP v.p)&&rOk v.p v.ri):=by
 cases d <;> (unfold vF vK;rw[decide_eq_true h,if_neg zE,if_neg zE,if_neg zE,if_neg zE,if_pos hk];rfl)
def vF_60{v:Vl}(hk:v.k=6):vF 0 v=false:=by
 unfold vF vK;rw[if_neg zE,if_neg zE,if_neg zE,if_neg zE,if_neg zE,if_pos hk];cases decide (vP v=0) <;> rfl
def vF_6{d:Nat}{v:Vl}(h:vP v=0)(hk:v.k=6):vF (d+1) v=v.li.all (vF d):=by
 unfold vF vK;rw[decide_eq_true h,if_neg zE,if_neg zE,if_neg zE,if_neg zE,if_neg zE,if_pos hk];rfl
def vF_7{d:Nat}{v:Vl}(hk:v.k≠1/\v.k≠2/\v.k≠3/\v.k≠4/\v.k≠5/\v.k≠6):vF d v=false:=by
 cases d <;> (unfold vF vK;rw[if_neg zE,if_neg zE,if_neg zE,if_neg zE,if_neg zE,if_neg zE];cases decide (vP v=0) <;> rfl)
def ab8{α:Type}(l:List α)(p:α->Bool):(!l.any fun x=>!p x)=l.all p:=by
 induction l with
 |nil=>rfl
 |cons a l ih=>rw[List.any_cons,List.all_cons,<-ih];cases p a <;> simp
attribute [local irreducible] IntKind.wrap Go1 Reg WP aK aN bD aZ aJ aA aj ak aT Sat
attribute [local irreducible] PrP qOk zOk vP xq
def ajC(v:Vl)(x:Nat):ah prog 173 [.v (.int .u64 (x:Int)),.r (dL (vlK v))] (.v (.bool (!ltp v.p x))):=by
 refine ah.fq func173 ?_;intros
 refine zg ?_;refine aU ?_;unfold ltp;rw[<-decide_not,decide_eq_decide];omega
def aeI(v:Vl)(l:List Nat)(hp:v.p < WB)(hl:l.length<=100000):ah prog 121 [.agg (vlA v),.r (aD 1 wdC l)] (.v (.bool (decide (PrP v.p)&&l.all (ltp v.p)))):=by
 have cP:=adx v.p (by rw[bf]at hp;exact hp)
 have cA:=aqR l (.sat (jR 173 [] [.sat (dL (vlK v))])) (fun x=>!ltp v.p x) (fun x _=>FnV.clo (ajC v x)) hl rfl
 rw[<-ab8];refine ah.fq func121 fun _ _ _ _ hB=>?_
 refine zg ?_;refine WP.dG 2 hB rfl rfl ?_;refine WP.aG ?_;by_cases h:PrP v.p
 ·rw[decide_eq_true h]at cP ⊢;refine zg ?_;exact aU rfl
 ·rw[decide_eq_false h]at cP ⊢;refine zg ?_;exact aU rfl
def aco(n:Int):ah prog 170 [.v (.int .i64 n)] (.v (.bool (decide (0<=n/\n<=64)))):=by
 refine ah.fq func170 ?_;intros
 by_cases h:n≥0
 ·refine zg ?_;refine aU ?_;rw[decide_eq_decide];omega
 ·refine zg ?_;refine aU ?_;exact(decide_eq_false fun h'=>h h'.1).symm
def aaC(r c:Int){n:Nat}:ah prog 120 [.agg [.c (.val (.int .i64 r)),.c (.val (.int .i64 c)),.c (.sat (aP 1 n ag))]] (.v (.bool (xq r c n))):=by
 unfold xq;have s1:=aco r;have s2:=aco c;refine ah.fq func120 ?_;intros
 by_cases h1:0<=r/\r<=64
 ·rw[decide_eq_true h1]at s1;by_cases h2:0<=c/\c<=64
  ·rw[decide_eq_true h2]at s2;have hp:0<=r*c:=Int.mul_nonneg h1.1 h2.1;have hp2:r*c<=64*64:=Int.mul_le_mul h1.2 h2.2 h2.1 zc
   refine zg ?_;refine aU ?_;rw[decide_eq_decide];exact⟨fun h=>⟨h1.1,h1.2,h2.1,h2.2,h⟩,fun h=>h.2.2.2.2⟩
  ·rw[decide_eq_false h2]at s2;refine zg ?_;refine aU ?_;exact(decide_eq_false fun h=>h2 ⟨h.2.2.1,h.2.2.2.1⟩).symm
 ·rw[decide_eq_false h1]at s1;refine zg ?_;refine aU ?_;exact(decide_eq_false fun h=>h1 ⟨h.1,h.2.1⟩).symm
end
end
section
open Go.RowKit QM SX LA
attribute [local irreducible] IntKind.wrap Go1 Reg WP aK aN bD aZ aJ aA aj ak aT Sat
attribute [local irreducible] PrP qOk zOk vP xq lz
def ajr(q:ko)(hq:(Sm WB q.2.1/\Sm WB q.2.2.2)/\q.2.1.length<=100000/\q.2.2.2.length<=100000):ah prog 116 [.agg (q4A (rq q))] (.v (.bool (!qOk q))):=by
 have c:=aja q hq.1 zE
 refine ah.fq func116 ?_;intros
 refine zg ?_;exact aU rfl
def aiV(z:mM)(hz:Sm WB z.2/\z.2.length<=100000):ah prog 118 [.agg (z2A (rz z))] (.v (.bool (!zOk z))):=by
 have c:=xk z zE
 refine ah.fq func118 ?_;intros
 refine zg ?_;exact aU rfl
def ahS(v:Vl)(d:Int)(b:Bool)(hd:0 < d)(hd2:d<=100)(c:ah prog 71 [.agg (vlA v),.v (.int .i64 (d - 1))] (.v (.bool b))):ah prog 123 [.agg (vlA v),.r (dL [.val (.int .i64 d)])] (.v (.bool (!b))):=by
 refine ah.fq func123 ?_;intros
 refine zg ?_;exact aU rfl
def qmF(r c:Int){n:Nat}:ah prog 28 [.agg [.c (.val (.int .i64 r)),.c (.val (.int .i64 c)),.c (.sat (aP 4 n ag))]] (.v (.bool (xq r c n))):=by
 unfold xq;exact(ac6 r c).h trivial
section
variable(v:Vl)(d:Nat)(hz:vZ0 v)
include hz
theorem pK:ah prog 113 [.agg (vlA v),.r (aP 1 1 [.val (.int .i64 v.k)])] (.v (.bool (decide (vP v=0)))):=aoQ v hz
theorem aaF(hP:vP v≠0):ah prog 71 [.agg (vlA v),.v (.int .i64 (d:Int))] (.v (.bool (vF d v))):=by
 have c:=pK v hz;rw[decide_eq_false hP]at c;rw[vF_P hP];refine ah.fq func71 ?_;intros
 refine zg ?_;exact aU rfl
theorem xV(hP:vP v=0)(hk:v.k=1):ah prog 71 [.agg (vlA v),.v (.int .i64 (d:Int))] (.v (.bool (vF d v))):=by
 have c:=pK v hz;rw[decide_eq_true hP]at c;rw[vF_1 hP hk];have cF:=aja v.q hz.q.1 (by have:=hz.q.2;omega)
 refine ah.fq func71 ?_;intros
 refine zg ?_;exact aU rfl
theorem yR(hP:vP v=0)(hk:v.k=2):ah prog 71 [.agg (vlA v),.v (.int .i64 (d:Int))] (.v (.bool (vF d v))):=by
 have c:=pK v hz;rw[decide_eq_true hP]at c;rw[vF_2 hP hk];have cA:=anU v.a 116 (fun x=>!qOk x) (fun x hx=>ajr x (hz.a x hx)) hz.al
 have cF:=qmF v.r v.c (n:=(v.a.map rq).length) (ag:=(v.a.map rq).flatMap q4C);have hl:(v.a.map rq).length=v.a.length:=zq5 _;unfold mOk;rw[<-hl,<-ab8];cases h:xq v.r v.c (v.a.map rq).length
 ·rw[h]at cF;refine ah.fq func71 fun w0 T B E0 hB=>?_
  refine zg ?_;refine aU ?_;rw[Bool.and_false]
 ·rw[h]at cF;refine ah.fq func71 fun w0 T B E0 hB=>?_
  refine zg ?_;refine aU ?_;rw[Bool.and_true]
theorem yt(hP:vP v=0)(hk:v.k=3):ah prog 71 [.agg (vlA v),.v (.int .i64 (d:Int))] (.v (.bool (vF d v))):=by
 have c:=pK v hz;rw[decide_eq_true hP]at c;rw[vF_3 hP hk];have cA:=aoi v.po 118 (fun x=>!zOk x) (fun x hx=>aiV x (hz.po x hx)) hz.pol
 have hl:(v.po.map rz).length=v.po.length:=zq5 _;have hb:=hz.pol;unfold pOk lz;rw[<-ab8];by_cases h0:v.po.length=0
 ·rw[decide_eq_true h0,Bool.true_or,Bool.and_true];refine ah.fq func71 fun w0 T B E0 hB=>?_
  refine zg ?_;exact aU rfl
 ·obtain⟨x,hx⟩:∃x,v.po[v.po.length - 1]? =some x:=⟨_,zyh zE⟩
  have hq:(v.po.map rz)[(v.po.map rz).length - 1]? =some (rz x):=by rw[hl,zqa,hx];rfl
  have hg:v.po.getD (v.po.length - 1) (false,[])=x:=by rw[zx7,hx];rfl
  have hax:=hz.po x (zq4 hx);have cS:=(vk (h:=ZI.raw x.1 x.2)).h (show x.2.length<=1099511627775 by omega)
  have hs0:bG (rzv x)=0↔rzv x=0:=by unfold bG;(repeat' split) <;> omega
  change ah _ _ _ (.v (.int .i64 (bG (rzv x))))at cS
  rw[hg,decide_eq_false h0,Bool.false_or];by_cases h1:rzv x=0
  ·have h2:bG (rzv x)=0:=hs0.2 h1;rw[decide_eq_false (fun e=>e h1),Bool.and_false]
   refine ah.fq func71 fun w0 T B E0 hB=>?_
   refine zg ?_;exact aU rfl
  ·have h2:¬bG (rzv x)=0:=fun e=>h1 (hs0.1 e)
   rw[decide_eq_true h1,Bool.and_true];refine ah.fq func71 fun w0 T B E0 hB=>?_
   refine zg ?_;exact aU rfl
theorem yS(hP:vP v=0)(hk:v.k=4):ah prog 71 [.agg (vlA v),.v (.int .i64 (d:Int))] (.v (.bool (vF d v))):=by
 have c:=pK v hz;rw[decide_eq_true hP]at c;rw[vF_4 hP hk];have cB:=aeI v v.fa hz.p hz.fal;have cF:ah prog 120 [.agg [.c (.val (.int .i64 v.fr)),.c (.val (.int .i64 v.fc)),.c (.sat (aD 1 wdC v.fa))]] (.v (.bool (xq v.fr v.fc v.fa.length))):=aaC v.fr v.fc;unfold fOk;cases h:xq v.fr v.fc v.fa.length
 ·rw[h]at cF;refine ah.fq func71 fun w0 T B E0 hB=>?_
  refine zg ?_;refine aU ?_;rw[Bool.and_false,Bool.and_false]
 ·rw[h]at cF;refine ah.fq func71 fun w0 T B E0 hB=>?_
  refine zg ?_;refine aU ?_;rw[Bool.and_true]
theorem yU(hP:vP v=0)(hk:v.k=5):ah prog 71 [.agg (vlA v),.v (.int .i64 (d:Int))] (.v (.bool (vF d v))):=by
 have c:=pK v hz;rw[decide_eq_true hP]at c;rw[vF_5 hP hk];have cB:=aeI v v.ri hz.p hz.ril;have hb:=hz.ril;unfold rOk lw;rw[<-Bool.and_assoc];generalize (decide (PrP v.p)&&v.ri.all (ltp v.p))=b at cB ⊢;cases b
 ·refine ah.fq func71 fun w0 T B E0 hB=>?_
  refine zg ?_;exact aU rfl
 ·by_cases h0:v.ri.length=0
  ·rw[decide_eq_true h0];refine ah.fq func71 fun w0 T B E0 hB=>?_
   refine zg ?_;exact aU rfl
  ·obtain⟨x,hx⟩:∃x,v.ri[v.ri.length - 1]? =some x:=⟨_,zyh zE⟩
   have hg:v.ri.getD (v.ri.length - 1) 0=x:=by rw[zx7,hx];rfl
   rw[hg,decide_eq_false h0,Bool.false_or,Bool.true_and];refine ah.fq func71 fun w0 T B E0 hB=>?_
   refine zg ?_;refine aU ?_;rw[decide_eq_decide];omega
theorem z8(hP:vP v=0)(hk:v.k=6)(hd:d<=20)(hr:∀e,d=e+1->∀x∈v.li,ah prog 71 [.agg (vlA x),.v (.int .i64 (e:Int))] (.v (.bool (vF e x)))):ah prog 71 [.agg (vlA v),.v (.int .i64 (d:Int))] (.v (.bool (vF d v))):=by
 have c:=pK v hz;rw[decide_eq_true hP]at c;cases d with
 |zero=>
  rw[vF_60 hk];refine ah.fq func71 fun w0 T B E0 hB=>?_
  refine zg ?_;refine WP.dG 3 hB rfl rfl ?_;refine WP.aG ?_;refine zg ?_;exact aU rfl
 |succ e=>
  rw[vF_6 hP hk,<-ab8];have cA:=aq7 v.li (.sat (jR 123 [] [.sat (dL [.val (.int .i64 ((e+1:Nat):Int))])])) (fun x=>!vF e x) (fun x hx=>FnV.clo (ahS x ((e+1:Nat):Int) (vF e x) zE zE (by
   rw[show ((e+1:Nat):Int) - 1=(e:Int)by omega];exact hr e rfl x hx))) hz.lil rfl
  refine ah.fq func71 fun w0 T B E0 hB=>?_
  refine zg ?_;refine WP.dG 3 hB rfl rfl ?_;refine WP.aG ?_;refine zg ?_;exact aU rfl
theorem yE(hP:vP v=0)(hk:v.k≠1/\v.k≠2/\v.k≠3/\v.k≠4/\v.k≠5/\v.k≠6):ah prog 71 [.agg (vlA v),.v (.int .i64 (d:Int))] (.v (.bool (vF d v))):=by
 have c:=pK v hz;rw[decide_eq_true hP]at c;rw[vF_7 hk];refine ah.fq func71 ?_;intros
 refine zg ?_;exact aU rfl
end
def ajW:∀(n d:Nat) (v:Vl),vZ n v->d<=20->ah prog 71 [.agg (vlA v),.v (.int .i64 (d:Int))] (.v (.bool (vF d v))):=by
 intro n
 induction n with
 |zero=>
  intro d v hv hd;by_cases hP:vP v=0
  ·have hk:v.k=1\/v.k=2\/v.k=3\/v.k=4\/v.k=5\/v.k=6\/(v.k≠1/\v.k≠2/\v.k≠3/\v.k≠4/\v.k≠5/\v.k≠6):=zE
   rcases hk with hk|hk|hk|hk|hk|hk|hk
   ·exact xV v d hv.z hP hk
   ·exact yR v d hv.z hP hk
   ·exact yt v d hv.z hP hk
   ·exact yS v d hv.z hP hk
   ·exact yU v d hv.z hP hk
   ·exact z8 v d hv.z hP hk hd fun e _ x hx=>by rw[hv.2]at hx;cases hx
   ·exact yE v d hv.z hP hk
  ·exact aaF v d hv.z hP
 |succ n ih=>
  intro d v hv hd;by_cases hP:vP v=0
  ·have hk:v.k=1\/v.k=2\/v.k=3\/v.k=4\/v.k=5\/v.k=6\/(v.k≠1/\v.k≠2/\v.k≠3/\v.k≠4/\v.k≠5/\v.k≠6):=zE
   rcases hk with hk|hk|hk|hk|hk|hk|hk
   ·exact xV v d hv.z hP hk
   ·exact yR v d hv.z hP hk
   ·exact yt v d hv.z hP hk
   ·exact yS v d hv.z hP hk
   ·exact yU v d hv.z hP hk
   ·exact z8 v d hv.z hP hk hd fun e he x hx=>ih e x (hv.2 x hx) zE
   ·exact yE v d hv.z hP hk
  ·exact aaF v d hv.z hP
def oU{n:Nat}{v:Vl}(hv:vZ n v):ah prog 44 [.agg (vlA v)] (.v (.bool (vF 20 v))):=by
 have c:=ajW n 20 v hv (zq6 _);refine ah.fq func44 ?_;intros
 refine zg ?_;exact aU rfl
end
section
open Go.RowKit QM SX LA
section
abbrev vlB(v:Vl):List Atom:=[.c (.val (.int .i64 v.k)),.c (.val (.bool v.q.1)),.c (.sat (dV v.q.2.1)),.c (.val (.bool v.q.2.2.1)),.c (.sat (dV v.q.2.2.2)),.c (.val (.int .i64 v.r)),.c (.val (.int .i64 v.c)),.c (.sat (aD 4 q4C (v.a.map rq))),.c (.sat (aD 2 z2C (v.po.map rz))),.c (.val (.int .u64 (v.p:Int))),.c (.val (.int .i64 v.fr)),.c (.val (.int .i64 v.fc)),.c (.sat (aD 1 wdC v.fa)),.c (.sat (aD 1 wdC v.ri)),.c (.sat (aD 15 vlE v.li))]
def anf(v:Vl):vlA v=vlB v:=by unfold vlA vlB;rw[ab5]
attribute [local irreducible] IntKind.wrap Go1 Reg WP aK aN bD aZ aJ aA aj ak aT Sat
section
variable(v:Vl)(d:Nat)(hz:vZ0 v)
include hz
omit hz in
end
end
section
def vZ0.num{v:Rat}(h:RB v K)(hK:K<=100000):vZ0 (eY v) where
 q:=⟨anl v,zxf (nI h.n) hK,zxf (nI (by rw[zxa];exact h.d)) hK⟩
 a:=by intro x hx;cases hx
 al:=zq8 _
 po:=by intro x hx;cases hx
 pol:=zq8 _
 p:=aX
 fa:=by intro x hx;cases hx
 fal:=zq8 _
 ri:=by intro x hx;cases hx
 ril:=zq8 _
 lil:=zq8 _
def vZ.num{v:Rat}{K:Nat}(h:RB v K)(hK:K<=100000):vZ 0 (eY v):=⟨vZ0.num h hK,rfl⟩
def ayv(v:Rat):vP (eY v)=0:=(vP0 _).2 ⟨.inl rfl,.inr ⟨rfl,rfl,rfl⟩,.inr rfl,.inr ⟨rfl,rfl,rfl⟩,.inr rfl,.inr (.inr rfl),.inr rfl⟩
def akX(d:Nat)(v:Rat):vF d (eY v)=true:=by
 rw[vF_1 (ayv v) rfl];exact(am1 (anl v)).2 (by rw[jF])
def aqD(p q:Int):rmk p q=((qv p q).num,((qv p q).den:Int)):=by
 have h2:Nat.Coprime (qv p q).num.natAbs (qv p q).den:=(qv p q).reduced;have hd:=(qv p q).den_nz;have:=Rd.uniq (oW p q) (ab3 p q) (r:=(qv p q).num) (s:=((qv p q).den:Int)) zE (by unfold Int.gcd;rw[zxa];exact h2) (by rw[jc,jd])
 exact Prod.ext this.1 this.2
def amm(x:Rat):qv (sgn (cq x).1 (nval WB (cq x).2.1)) (sgn (cq x).2.2.1 (nval WB (cq x).2.2.2))=x:=jF x
def qS(v:Rat):List UInt8:=rS (v.num,(v.den:Int))
def qB(v:Rat):Nat:=max (bitLen v.num.natAbs) (bitLen v.den)
attribute [local irreducible] IntKind.wrap Go1 Reg WP aK aN bD aZ aJ aA aj ak aT Sat
attribute [local irreducible] qv vP vF cq rqv
def ajy{x0 x1 x2 x3:Atom}{p q:Int}{k:Nat}[h:ZI [x0,x1] p k][h':ZI [x2,x3] q m](hk:k+m<=1000000):ah prog 239 [.agg [x0,x1,x2,x3]] (.v (.int .i64 ((max (bitLen (rmk p q).1.natAbs) (bitLen (rmk p q).2.natAbs):Nat):Int))):=by
 refine q1 ⟨_,func239,rfl,rfl⟩ fun neg n neg2 n2 hz hz2 hn hn2=>?_
 subst hz;subst hz2;refine ah.fq func239 ?_;intros
 refine zg ?_;exact dZ rfl
def ae4{q:ko}(hk:q.2.1.length+q.2.2.2.length<=1000000):ah prog 239 [.agg (q4A (rq q))] (.v (.int .i64 (qB (rqv q):Int))):=by
 have h:=ajy (h:=ZI.raw q.1 q.2.1) (h':=ZI.raw q.2.2.1 q.2.2.2) hk;rw[aqD]at h
 dsimp only at h
 rw[zxa]at h;unfold rqv qB;exact h
def abM(v:Rat)(e:Int):ah prog 240 [.agg (qA v),.v (.bool true),.v (.int .i64 e)] (.tup [.agg (vlA (eY v)),eNo 0]):=by
 refine ah.fq func240 ?_;intros
 refine zg ?_;refine .ok (aA.mk2 ((aj.fC rfl rfl rfl).imp ?_) (aj.tmp rfl));exact alu
def arV{x:Rat}(hx:RB x K)(hy:RB y L)(hK:K+L<=1000000):ah prog 233 [.agg (vlA (eY x)),.agg (vlA (eY y))] (.tup [.agg (vlA (eY (x+y))),eNo 0]):=by
 haveI:=Ra.cq hx
 haveI:=Ra.cq hy
 obtain⟨X,cA,hX⟩:=eAdd (q4A (rq (cq x))) (q4A (rq (cq y))) (K:=K) (K':=L) zE
 have e:=hX.nf;subst e;have cN:=abM (x+y) 0;refine ah.fq func233 ?_;intros
 refine zg ?_;exact .ok (aA.mk2 aj.fC (aj.tmp rfl))
def aky{x:Rat}(hx:RB x K)(hy:RB y L)(hK:K+L<=400000):ah prog 228 [.agg (vlA (eY x)),.agg (vlA (eY y))] (.v (.bool (decide (x=y)))):=by
 haveI:=Ra.cq hx
 haveI:=Ra.cq hy
 obtain⟨z,cA,hz,_⟩:=eCmp (q4A (rq (cq x))) (q4A (rq (cq y))) (K:=K) (K':=L) zE
 rw[<-decide_eq_decide.2 hz];refine ah.fq func228 ?_;intros
 refine zg ?_;exact aU rfl
def apx{x:Rat}(hx:RB x K)(hy:RB y L)(hK:K+L<=100000):ah prog 201 [.v (.int .i64 4),.agg (vlA (eY x)),.agg (vlA (eY y))] (.tup [.agg (vlA (eY (x+y))),eNo 0]):=by
 have c:=arV hx hy zE
 have c1:=oU (vZ.num hx zE)
 have c2:=oU (vZ.num hy zE)
 rw[akX]at c1 c2;refine ah.fq func201 ?_;intros
 refine zg ?_;exact .ok (aA.mk2 aj.fC (aj.tmp rfl))
def afN{x:Rat}(hx:RB x K)(hK:K<=100000):ah prog 72 [.agg (q4A (rq (cq x)))] (.v (str (qS x))):=by
 have hl:=(vZ0.num hx hK).q.2
 dsimp only at hl
 have h:=(akm (h:=ZI.raw (cq x).1 (cq x).2.1) (h':=ZI.raw (cq x).2.2.1 (cq x).2.2.2)).h zE
 rw[aqD]at h;rw[amm]at h;exact h
def aor{x:Rat}(hx:RB x K)(hK:K<=100000):ah prog 45 [.agg (vlA (eY x))] (.v (str (qS x))):=by
 have c:=afN hx hK;refine ah.fq func45 ?_;intros
 refine zg ?_;exact mX rfl
def abO{x:Rat}(hx:RB x K)(hK:K<=100000):ah prog 27 [.agg (vlA (eY x))] (.tup [.one (.c (.val (str (qS x)))),eNo 0]):=by
 have c:=aor hx hK;have c1:=oU (vZ.num hx hK);rw[akX]at c1;refine ah.fq func27 ?_;intros
 refine zg ?_;exact .ok (aA.mk2 (aj.tmp rfl) (aj.tmp rfl))
def apC{x:Rat}(hx:RB x K)(hK:K<=100000):ah prog 212 [.agg (vlA (eY x))] (.v (.int .i64 (qB x:Int))):=by
 have cO:=akL 0 zc zc
 have cB:ah prog 31 [.r (bI (0:Int).natAbs)] (.v (.int .i64 0)):=by
  haveI:BdN 0 1:=⟨by rw[bf];decide⟩
  exact(zW (a:= .sat (bI 0))).h zc
 have c:=ae4 (q:=cq x) (by have:=(vZ0.num hx hK).q.2;dsimp only at this;omega)
 rw[jF]at c;refine ah.fq func212 ?_;intros
 refine zg ?_;exact dZ rfl
end
section
def awE(h:∀v∈vs,RB v K)(hK:K<=100000):∀x∈vs.map cq,(Sm WB x.2.1/\Sm WB x.2.2.2)/\x.2.1.length<=100000/\x.2.2.2.length<=100000:=fun x hx=>by
 obtain⟨v,hv,rfl⟩:=zqg.1 hx;exact(vZ0.num (h v hv) hK).q
def vZ0.mat{r:Nat}(h:∀v∈vs,RB v K)(hK:K<=100000)(hl:vs.length<=100000):vZ0 (dW r c vs) where
 q:=⟨⟨Sm.nil,Sm.nil⟩,zq8 _,zq8 _⟩
 a:=awE h hK
 al:=by rw[zq5];exact hl
 po:=by intro x hx;cases hx
 pol:=zq8 _
 p:=aX
 fa:=by intro x hx;cases hx
 fal:=zq8 _
 ri:=by intro x hx;cases hx
 ril:=zq8 _
 lil:=zq8 _
def ayV(r c:Nat)(vs:List Rat):vP (dW r c vs)=0:=(vP0 _).2 ⟨.inr ⟨rfl,rfl,rfl,rfl⟩,.inl rfl,.inr rfl,.inr ⟨rfl,rfl,rfl⟩,.inr rfl,.inr (.inr rfl),.inr rfl⟩
def ayt(v:Rat):qOk (cq v)=true:=(am1 (anl v)).2 (by rw[jF])
def ady{r n:Nat}(hr:r<=64)(hc:c<=64)(hl:n=r*c):xq (r:Int) (c:Int) n=true:=decide_eq_true ⟨zE,zE,zE,zE,by rw[hl];simp⟩
def ayK(d:Nat){r:Nat}(hl:vs.length=r*c)(hr:r<=64)(hc:c<=64):vF d (dW r c vs)=true:=by
 rw[vF_2 (ayV r c vs) rfl];unfold mOk;rw[zx4];refine⟨zqh.2 fun x hx=>?_,ady hr hc (by rw[zq5];exact hl)⟩
 obtain⟨v,_,rfl⟩:=zqg.1 hx;exact ayt v
attribute [local irreducible] IntKind.wrap Go1 Reg WP aK aN bD aZ aJ aA aj ak aT Sat
attribute [local irreducible] qOk vP xq vF cq
end
end
section
open Go.RowKit QM SX LA
open Go.ChangeShapes Go.WideShapes Go.ChangeAt Go.Joins
section
variable{H:Type}{enc:TypeId×Value->H}{W:World}{base:Nat}{sp:Nat->Bool}{hd:Bool}
end
end
section
open Go.RowKit QM SX LA
section
instance zeroZ:akM [.bool false,.slice none 0 0] (z2C (z2v 0)):=⟨fun S w=>⟨rfl,bI.zero,trivial⟩⟩
def pl(zs:List Int):Nat->Nat
 |0=>0
 |k+1=>if zs.getD k 0=0 then pl zs k else k+1
def afO(zs:List Int):Nat:=pl zs zs.length
def jD(zs:List Int):List Int:=zs.take (afO zs)
def pN(zs:List Int):Prop:=zs.length=0\/zs.getD (zs.length - 1) 0≠0
def ax0(zs:List Int):∀k,pl zs k<=k
 |0=>zq6 _
 |k+1=>by unfold pl;split;exact Nat.le_succ_of_le (ax0 zs k);exact zq6 _
def ate(zs:List Int):∀k,pl zs k=0\/zs.getD (pl zs k - 1) 0≠0
 |0=> .inl rfl
 |k+1=>by
  unfold pl;split
  ·exact ate zs k
  ·next h=>exact .inr h
def amh(zs:List Int):∀(k j:Nat),pl zs k<=j->j < k->zs.getD j 0=0
 |0,j,_,h=>absurd h (zvj _)
 |k+1,j,h1,h2=>by
  unfold pl at h1
  split at h1
  ·next h=>
   by_cases hj:j=k
   ·subst hj;exact h
   ·exact amh zs k j h1 zE
  ·omega
def amK(zs:List Int):afO zs<=zs.length:=ax0 zs _
def aa6(zs:List Int):(jD zs).length=afO zs:=by unfold jD;rw[zx3];exact zv9 (amK zs)
def sK(h:zs.length<=j):zs.getD j 0=0:=by rw[zx7,zqe h];rfl
def acV(zs:List Int)(j:Nat):(jD zs).getD j 0=zs.getD j 0:=by
 by_cases h:j < afO zs
 ·unfold jD;rw[zx7,zy9,if_pos h,<-zx7]
 ·rw[sK (by rw[aa6];omega)]
  by_cases h2:j < zs.length
  ·exact(amh zs _ j (by unfold afO at h;omega) h2).symm
  ·exact(sK zE).symm
def acU(zs:List Int):pN (jD zs):=by
 rcases ate zs zs.length with h|h
 ·exact .inl (by rw[aa6];exact h)
 ·exact .inr (by rw[aa6,acV];exact h)
def akD{a:List Int}(ha:pN a)(hb:pN b)(h:∀j,a.getD j 0=b.getD j 0):a=b:=by
 have key:∀{a b:List Int},pN a->(∀j,a.getD j 0=b.getD j 0)->a.length<=b.length:=fun {a b} ha h=>by
  rcases ha with h0|h0
  ·omega
  ·rcases zyd b.length a.length with h1|h1
   ·rw[h,sK zE]at h0;exact absurd rfl h0
   ·exact h1
 have hl:a.length=b.length:=Nat.le_antisymm (key ha h) (key hb fun j=>(h j).symm)
 apply zyb;intro j
 by_cases hj:j < a.length
 ·have:=h j;rw[zx7,zx7,zyh hj,zyh zE]at this
  rw[zyh hj,zyh zE]
  exact congrArg some this
 ·rw[zqe zE,zqe zE]
def alm(h:pN zs):jD zs=zs:=akD (acU zs) h (acV zs)
def an9:∀z∈jD zs,z∈zs:=fun z h=>zv3 h
def xg(n:Nat)(f:Nat->Int):List Int:=(List.range n).map f
def aiR(n:Nat)(f:Nat->Int):(xg n f).length=n:=by unfold xg;rw[zq5,zy1]
def axu{n:Nat}{f:Nat->Int}(h:j < n):(xg n f).getD j 0=f j:=by
 unfold xg;rw[zx7,zqa,zvb h];rfl
def aaK(op:Int->Int->Int)(a b:List Int):List Int:=jD (xg (max a.length b.length) fun i=>op (a.getD i 0) (b.getD i 0))
def aus{op:Int->Int->Int}(h0:op 0 0=0)(a b:List Int)(j:Nat):(aaK op a b).getD j 0=op (a.getD j 0) (b.getD j 0):=by
 unfold aaK;rw[acV];by_cases h:j < max a.length b.length
 ·exact axu h
 ·rw[sK (by rw[aiR];omega),sK (zs:=a) zE,sK (zs:=b) zE,h0]
def ao0(l:List Z2)(i:Nat):Z2:=l.getD i (z2v 0)
def ZQ.zero(K:Nat):ZQ (z2v 0) 0 K:=ZQ.made (z:=0) (by rw[show (0:Int).natAbs=0 from rfl];exact gG K)
def MZ.pat(h:MZ l zs K)(i:Nat):ZQ (ao0 l i) (zs.getD i 0) K:=by
 unfold ao0;rw[zx7,zx7]
 have hl:=h.len;by_cases hi:i < l.length
 ·rw[zyh hi,zyh zE]
  exact h.z i _ _ (zyh hi) (zyh zE)
 ·rw[zqe zE,zqe zE]
  exact ZQ.zero K
def zat_b(h:∀z∈zs,z.natAbs < WB ^ K)(i:Nat):(zs.getD i 0).natAbs < WB ^ K:=by
 rw[zx7]
 by_cases hi:i < zs.length
 ·rw[zyh hi];exact h _ (List.getElem_mem hi)
 ·rw[zqe zE];exact gG K
def awn{f:Nat->Z2}{z:Z2}{n k:Nat}(hk:k < n):((List.range n).map fun i=>if i < k then f i else z).set k (f k)=(List.range n).map fun i=>if i < k+1 then f i else z:=by
 apply zyb
 intro j;rw[zv2]
 by_cases hj:k=j
 ·subst hj;rw[if_pos rfl,if_pos (by rw[zq5,zy1];exact hk),zqa,zvb hk]
  simp
 ·rw[if_neg hj,zqa,zqa]
  by_cases hjn:j < n
  ·rw[zvb hjn]
   simp only[Option.map_some];by_cases h1:j < k
   ·rw[if_pos h1,if_pos zE]
   ·rw[if_neg h1,if_neg zE]
  ·rw[zqe (by rw[zy1];omega)];rfl
def awL{f:Nat->Z2}{z:Z2}{n:Nat}:((List.range n).map fun i=>if i < n then f i else z)=(List.range n).map f:=by
 refine zvg fun i hi=>?_
 rw[if_pos (List.mem_range.1 hi)]
def arX{f:Nat->Z2}{z:Z2}{n:Nat}:(List.replicate n (z2C z)).flatten=((List.range n).map fun i=>if i < 0 then f i else z).flatMap z2C:=by
 have:((List.range n).map fun i=>if i < 0 then f i else z)=List.replicate n z:=by
  apply zyb;intro j
  rw[zqa,List.getElem?_replicate]
  by_cases hj:j < n
  ·rw[zvb hj,if_pos hj];simp
  ·rw[zqe (by rw[zy1];omega),if_neg hj];rfl
 rw[this,List.flatMap,List.map_replicate]
attribute [local irreducible] IntKind.wrap Go1 Reg WP aK aN bD aZ aJ aA aj ak aT Sat
attribute [local irreducible] afO
def alz(l:List Z2)(i:Nat)(hl:l.length<=1000000):ah prog 432 [.r (aD 2 z2C l),.v (.int .i64 (i:Int))] (.agg (z2A (ao0 l i))):=by
 unfold ao0;rw[zx7]
 refine ah.fq func432 ?_;intros
 by_cases h:i < l.length
 ·obtain⟨q,hq⟩:∃q,l[i]? =some q:=⟨_,zyh h⟩
  rw[hq];refine zg ?_;exact jG aj.fK rfl
 ·rw[zqe zE]
  refine zg ?_;refine uG aj.fK ?_;exact zH
def afx(hM:MZ l zs K)(hK:K<=1000000)(hl:l.length<=100000):ah prog 378 [.r (aD 2 z2C l)] (.r (aD 2 z2C ((jD zs).map z2v))):=by
 have hlen:=hM.len;have hle:=amK zs;refine ah.fq func378 ?_;intros
 refine zg ?_;refine W.loop (fun k=>k<=l.length/\pl zs k=afO zs) (fun k=>[(0,.r (aD 2 z2C l)),(3,.v (.int .i64 (k:Int)))]) (fun _=>[]) (fun k=>k) l.length ⟨zq6 _,by rw[hlen];unfold afO;rfl⟩ (fun k ⟨hk,he⟩=>?_)
 by_cases h0:0 < k
 ·obtain⟨m,rfl⟩:∃m,k=m+1:=⟨k - 1,zE⟩
  obtain⟨q,hq⟩:∃q,l[m+1 - 1]? =some q:=⟨_,zyh zE⟩
  have hq':l[m]? =some q:=hq;obtain⟨z,hz⟩:∃z,zs[m]? =some z:=⟨_,zyh zE⟩
  have hg:zs.getD m 0=z:=by rw[zx7,hz];rfl
  have zq:=hM.z m q z hq' hz;have cS:=(vk (h:=zq.zi)).h zE
  have hs0:bG z=0↔z=0:=by unfold bG;(repeat' split) <;> omega
  unfold pl at he;rw[hg]at he;by_cases hz0:z=0
  ·rw[if_pos hz0]at he;have h1:=hs0.2 hz0;refine zg ?_;exact W.next m ⟨zE,he⟩ zE
  ·rw[if_neg hz0]at he;have h1:¬bG z=0:=fun e=>hz0 (hs0.1 e)
   rw[<-he]at hle;have e3:(l.take (m+1)).length=m+1:=by rw[zx3];omega
   refine zg ?_;refine W.loop (fun j=>j<=m+1) (fun j=>[(4,.own 100),(24,.r (aD 2 z2C (l.take (m+1)))),(25,.v (.int .i64 ((m+1:Nat):Int))),(26,.v (.int .i64 (j:Int)))]) (fun j=>[(100,.row 33 2 j (((zs.take j).map z2v).flatMap z2C))]) (fun j=>m+1 - j) 0 (zq8 _) (fun j hj=>?_)
    (by
     refine St.aS [(100,none)] z6 ?_ ?_ rfl
     ·repeat(first|exact trivial|refine⟨⟨_,rfl,aF.same rfl⟩,?_⟩|refine⟨⟨_,rfl,aF.nil rfl⟩,?_⟩|refine⟨⟨_,rfl,aF.int (by rw[e3])⟩,?_⟩)
     ·exact⟨ay.dw rfl,trivial⟩)
   by_cases h2:j < m+1
   ·obtain⟨q2,hq2⟩:∃q2,l[j]? =some q2:=⟨_,zyh zE⟩
    have hq3:(l.take (m+1))[j]? =some q2:=by rw[zy9,if_pos h2];exact hq2
    have h3:j < (l.take (m+1)).length:=zE
    obtain⟨z2,hz2⟩:∃z2,zs[j]? =some z2:=⟨_,zyh zE⟩
    have cF:=alc (hM.z j q2 z2 hq2 hz2) hK;have e2:((zs.take j).map z2v).flatMap z2C++z2C (z2v z2)=((zs.take (j+1)).map z2v).flatMap z2C:=by rw[zw7,hz2];simp
    refine zg ?_;refine W.next (j+1) h2 zE (by
     refine St.aS [(100,some 37)] z6 ?_ ?_ rfl
     ·exact ye
     ·exact⟨ay.row rfl rfl rfl e2,trivial⟩)
   ·obtain rfl:j=m+1:=zE
    refine zg ?_;refine aJ.frz 100 ?_;refine agr ?_;unfold jD;rw[<-he];show AV0.one (.c (.sat (aP 2 (m+1) _)))= .one (.c (.sat (aP 2 ((zs.take (m+1)).map z2v).length _)));rw[zq5,zx3,zv9 zE]
 ·obtain rfl:k=0:=zE
  have he':afO zs=0:=he.symm;refine zg ?_;refine W.loop (fun j:Nat=>j=0) (fun j=>[(4,.v (.slice none 0 0)),(25,.v (.int .i64 0)),(26,.v (.int .i64 (j:Int)))]) (fun _=>[]) (fun j=>j) 0 rfl (fun j hj=>?_)
  subst hj;refine zg ?_;refine aaH ?_;unfold jD;rw[he'];exact fun E S w v h=>(aH.nil (α:=Z2) (enc:=z2C) (size:=2)) E S w v h
end
section
def asF{n:Nat}{f:Nat->Int}(h:∀i,i < n->(f i).natAbs < WB ^ K):MZ ((List.range n).map fun i=>z2v (f i)) (xg n f) K:=by
 refine⟨by rw[zq5,zy1,aiR],fun i q z hq hz=>?_⟩
 have hi:i < n:=by have:=oL hq;rwa [zq5,zy1]at this
 rw[zqa,zvb hi]at hq
 unfold xg at hz;rw[zqa,zvb hi]at hz
 cases hq;cases hz;exact ZQ.made (h i hi)
def an3{n:Nat}(h:l.length=n):aD 2 z2C l=aP 2 n (l.flatMap z2C):=by subst h;rfl
attribute [local irreducible] IntKind.wrap Go1 Reg WP aK aN bD aZ aJ aA aj ak aT Sat
attribute [local irreducible] jD
def avf(op:Int->Int->Int)(x:CA)(hx1:x.dN=true)(hM:MZ l zs K)(hM':MZ l' zs' K')(hl:l.length<=10000)(hl':l'.length<=10000)(hx:∀i,FnV prog x [.agg (z2A (ao0 l i)),.agg (z2A (ao0 l' i))] (.agg (zN (op (zs.getD i 0) (zs'.getD i 0)))))(hb:∀i,(op (zs.getD i 0) (zs'.getD i 0)).natAbs < WB ^ L)(hL:L<=1000000):
  ah prog 335 [.r (aD 2 z2C l),.r (aD 2 z2C l'),.it (.one (.c x))] (.r (aD 2 z2C ((aaK op zs zs').map z2v))):=by
 have cN:ah prog 378 [.r (aP 2 (max l.length l'.length) (((List.range (max l.length l'.length)).map fun i=>z2v (op (zs.getD i 0) (zs'.getD i 0))).flatMap z2C))] (.r (aD 2 z2C ((aaK op zs zs').map z2v))):=by
  have h:=afx (asF (n:=max l.length l'.length) (f:=fun i=>op (zs.getD i 0) (zs'.getD i 0)) fun i _=>hb i) hL (by rw[zq5,zy1];omega)
  rw[an3 (n:=max l.length l'.length) (by rw[zq5,zy1])]at h
  unfold aaK;rw[<-hM.len,<-hM'.len];exact h
 have hm:max l.length l'.length<=10000:=zE
 refine ah.fq func335 fun _ _ _ _ hB=>?_
 refine zg ?_;refine W.loop (fun k=>k<=max l.length l'.length) (fun k=>[(0,.r (aD 2 z2C l)),(1,.r (aD 2 z2C l')),(2,.it (.one (.c x))),(7,.own 100),(16,.v (.int .i64 ((max l.length l'.length:Nat):Int))),(17,.v (.int .i64 (k:Int)))]) (fun k=>[(100,.row 33 2 (max l.length l'.length) (((List.range (max l.length l'.length)).map fun i=>if i < k then z2v (op (zs.getD i 0) (zs'.getD i 0))else z2v 0).flatMap z2C))]) (fun k=>max l.length l'.length - k) 0 (zq8 _) (fun k hk=>?_)
  (by
   refine St.aS [(100,some 14)] z6 ?_ ?_ rfl
   ·exact ye
   ·exact⟨ay.row rfl rfl rfl (arX (f:=fun i=>z2v (op (zs.getD i 0) (zs'.getD i 0)))),trivial⟩)
 by_cases h:k < max l.length l'.length
 ·have c1:=alz l k zE
  have c2:=alz l' k zE
  have c3:=hx k;have e2:((List.range (max l.length l'.length)).map fun i=>if i < k then z2v (op (zs.getD i 0) (zs'.getD i 0))else z2v 0).length=max l.length l'.length:=by rw[zq5,zy1]
  have e3:=awn (f:=fun i=>z2v (op (zs.getD i 0) (zs'.getD i 0))) (z:=z2v 0) h
  refine zg ?_;refine SX.G.qJ (a:=z2v (op (zs.getD k 0) (zs'.getD k 0))) ?_;rw[e3];refine zg ?_;exact W.next (k+1) h zE
 ·obtain rfl:k=max l.length l'.length:=zE
  rw[awL];refine WP.freeze 100 hB rfl ?_;refine zg ?_;exact agr rfl
def zG{f g:FuncId}{a b r:AV}(h:ah P f [a,b,.it (.one (.c (.sat (jR g [] []))))] r):ah P f [a,b,.it (.one (.clo g []))] r:=
 weakArgs h fun E S w vs hv=>by
  match vs,hv with
  |[u1,u2,u3],⟨h1,h2,h3,_⟩=>exact⟨h1,h2,alM h3,trivial⟩
abbrev aes:=aaK (· - ·)
def aq1(hM:MZ l zs K)(hM':MZ l' zs' K')(hl:l.length<=10000)(hl':l'.length<=10000)(hK:K+K'<=100000):
  ah prog 244 [.r (aD 2 z2C l),.r (aD 2 z2C l')] (.r (aD 2 z2C ((aes zs zs').map z2v))):=by
 have c:=zG (avf (· - ·) (.sat (jR 336 [] [])) rfl hM hM' hl hl' (fun i=>FnV.const ((asH (h:=(hM.pat i).zi) (h':=(hM'.pat i).zi)).h zE)) (L:=K+K'+1) (fun i=>by
  have h2:(-(zs'.getD i 0)).natAbs < WB ^ K':=by rw[Int.natAbs_neg];exact(hM'.pat i).b
  have:=agA (hM.pat i).b h2
  rwa [<-Int.sub_eq_add_neg]at this) zE)
 refine ah.fq func244 ?_;intros
 refine zg ?_;exact agr rfl
def an0(a b:List Int)(j:Nat):(aes a b).getD j 0=a.getD j 0 - b.getD j 0:=aus (op:=(· - ·)) rfl a b j
def arb(op:Int->Int->Int)(a b:List Int):pN (aaK op a b):=by unfold aaK;exact acU _
def asC{a:List Int}(ha:pN a)(hb:pN b):(aes a b).length=0↔a=b:=by
 constructor
 ·intro h;refine akD ha hb fun j=>?_
  have h2:=an0 a b j;have h3:(aes a b).getD j 0=0:=sK zE
  omega
 ·rintro rfl;have h2:∀j,(aes a a).getD j 0=([]:List Int).getD j 0:=fun j=>by
   rw[an0];show a.getD j 0 - a.getD j 0=0;omega
  have h3:aes a a=[]:=akD (arb _ a a) (.inl rfl) h2;rw[h3];rfl
def aos(hM:MZ l zs K)(hM':MZ l' zs' K')(hl:l.length<=10000)(hl':l'.length<=10000)(hK:K+K'<=100000)(hn:pN zs)(hn':pN zs'):
  ah prog 316 [.r (aD 2 z2C l),.r (aD 2 z2C l')] (.v (.bool (decide (zs=zs')))):=by
 have c:=aq1 hM hM' hl hl' hK;have hlen:((aes zs zs').map z2v).length=(aes zs zs').length:=zq5 _;rw[show decide (zs=zs')=decide ((aes zs zs').length=0)from decide_eq_decide.2 (asC hn hn').symm]
 refine ah.fq func316 ?_;intros
 refine zg ?_;refine aU ?_;rw[decide_eq_decide];omega
def agX(zs:List Int)(d:Int):List Int:=jD (zs.map (· *d))
end
section
def PrP.lt(h:PrP p):2<=p/\p < 2147483648:=⟨h.1,h.2.1⟩
abbrev gfA(p:Nat):List Atom:=[.c (.val (.int .u64 (p:Int)))]
def eqL{α:Type}(p:α->α->Bool):List α->List α->Bool
 |[],[]=>true
 |a::l,b::l'=>p a b&&eqL p l l'
 |_,_=>false
def yx{α:Type}{p:α->α->Bool}:∀{l l':List α},l.length≠l'.length->eqL p l l'=false
 |[],[],h=>absurd rfl h
 |[],_::_,_=>rfl
 |_::_,[],_=>rfl
 |a::l,b::l',h=>by rw[eqL,yx (l:=l) (l':=l') (fun e=>h (by rw[zx6,zx6,e])),Bool.and_false]
def yA{α:Type}{p:α->α->Bool}{l l':List α}{k:Nat}{a b:α}(h:l[k]? =some a)(h':l'[k]? =some b):eqL p (l.drop k) (l'.drop k)=(p a b&&eqL p (l.drop (k+1)) (l'.drop (k+1))):=by
 obtain⟨h1,rfl⟩:=zxg.1 h
 obtain⟨h2,rfl⟩:=zxg.1 h'
 rw[zy4 h1,zy4 h2,eqL]
def xL{α:Type}{p:α->α->Bool}:∀{l l':List α},(∀a∈l,∀b∈l',p a b=true↔a=b)->(eqL p l l'=true↔l=l')
 |[],[],_=>by simp[eqL]
 |[],_::_,_=>by simp[eqL]
 |_::_,[],_=>by simp[eqL]
 |a::l,b::l',h=>by
  rw[eqL,zx4,h a (zq9 ..) b (zq9 ..),xL (l:=l) (l':=l') fun x hx y hy=>h x (zy2 _ hx) y (zy2 _ hy)]
  simp
attribute [local irreducible] IntKind.wrap Go1 Reg WP aK aN bD aZ aJ aA aj ak aT Sat
attribute [local irreducible] PrP xq
def aap(h:PrP p):ah prog 341 [.v (.int .u64 (p:Int))] (.tup [.agg (gfA p),.one (.c (.val (.bool true)))]):=by
 have hp:=h.lt;have c:=adx p zE
 rw[decide_eq_true h]at c;refine ah.fq func341 ?_;intros
 refine zg ?_;exact .ok (aA.mk2 aj.agg1 (aj.tmp rfl))
def pJ(h:PrP p):ah prog 401 [.agg (gfA p)] (.v (.int .u64 (p:Int))):=by
 have hp:=h.lt;refine ah.fq func401 ?_;intros
 refine zg ?_;exact dZ rfl
def eG(h:PrP p)(x:Nat)(hx:x < 18446744073709551616):ah prog 427 [.agg (gfA p),.v (.int .u64 (x:Int))] (.v (.int .u64 ((x % p:Nat):Int))):=by
 have hp:=h.lt;have c:=pJ h;have hr:IntKind.u64.wrap ((x:Int).tmod (p:Int))=((x % p:Nat):Int):=by rw[mH];exact wrapN (zxb (Nat.mod_le x p) hx)
 refine ah.fq func427 ?_;intros
 refine zg ?_;exact dZ rfl
def aoB(v:Vl)(h:PrP v.p):ah prog 247 [.agg (vlA v)] (.agg (gfA v.p)):=by
 have c:=aap h;refine ah.fq func247 ?_;intros
 refine zg ?_;exact jG aj.agg1 rfl
abbrev fmA(r c:Nat)(l:List Nat):List Atom:=[.c (.val (.int .i64 (r:Int))),.c (.val (.int .i64 (c:Int))),.c (.sat (aD 1 wdC l))]
def afX{r:Nat}{l:List Nat}(hl:l.length=r*c)(hr:r<=64)(hc:c<=64):ah prog 120 [.agg (fmA r c l)] (.v (.bool true)):=by
 have h:ah prog 120 [.agg (fmA r c l)] (.v (.bool (xq r c l.length))):=aaC r c;rw[ady hr hc hl]at h;exact h
def akz{r:Nat}{l l':List Nat}(hl:l.length=r*c)(hl':l'.length=r'*c')(hr:r<=64)(hc:c<=64)(hr':r'<=64)(hc':c'<=64):
  ah prog 424 [.agg (fmA r c l),.agg (fmA r' c' l')] (.v (.bool (decide (r=r'/\c=c')))):=by
 have cF:=afX hl hr hc;have cF':=afX hl' hr' hc';refine ah.fq func424 ?_;intros
 by_cases h1:(r:Int)=(r':Int)
 ·refine zg ?_;refine aU ?_;rw[decide_eq_decide];omega
 ·refine zg ?_;refine aU ?_;exact(decide_eq_false fun h=>h1 zE).symm
def asr(l l':List ko)(x:CA)(p:ko->ko->Bool)(hx:∀v∈l,∀u∈l',FnV prog x [.agg (q4A (rq v)),.agg (q4A (rq u))] (.v (.bool (p v u))))(hl:l.length<=100000)(hl':l'.length<=100000)(hx1:x.dN=true):
  ah prog 422 [.r (aD 4 q4C (l.map rq)),.r (aD 4 q4C (l'.map rq)),.it (.one (.c x))] (.v (.bool (eqL p l l'))):=by
 have e1:(l.map rq).length=l.length:=zq5 _;have e2:(l'.map rq).length=l'.length:=zq5 _;refine ah.fq func422 ?_;intros
 by_cases hne:l.length=l'.length
 rotate_left
 ·rw[yx hne];refine zg ?_;exact aU rfl
 refine zg ?_;refine W.loop (fun k=>k<=l.length/\eqL p (l.drop k) (l'.drop k)=eqL p l l') (fun k=>[(1,.r (aD 4 q4C (l'.map rq))),(2,.it (.one (.c x))),(15,.r (aD 4 q4C (l.map rq))),(16,.v (.int .i64 ((l.map rq).length:Int))),(17,.v (.int .i64 (k:Int)))]) (fun _=>[]) (fun k=>l.length - k) 0 ⟨zq8 _,rfl⟩ (fun k ⟨hk,he⟩=>?_)
 by_cases h:k < l.length
 ·obtain⟨a,ha⟩:∃a,l[k]? =some a:=⟨_,zyh h⟩
  obtain⟨b,hb⟩:∃b,l'[k]? =some b:=⟨_,zyh zE⟩
  have hf:=hx a (zq4 ha) b (zq4 hb);have hq:(l.map rq)[k]? =some (rq a):=by rw[zqa,ha];rfl
  have hq':(l'.map rq)[k]? =some (rq b):=by rw[zqa,hb];rfl
  have h1:k < (l.map rq).length:=by rw[zq5];exact h
  have h2:k < (l'.map rq).length:=by rw[zq5];omega
  rw[yA ha hb]at he;cases hp:p a b with
  |false=>
   rw[hp]at hf he;refine zg ?_;refine aU ?_;rw[<-he];rfl
  |true=>
   rw[hp]at hf he;refine zg ?_;exact W.next (k+1) ⟨h,he⟩ zE
 ·obtain rfl:k=l.length:=zE
  rw[zvh,hne,zvh]at he;refine zg ?_;refine aU ?_;rw[<-he];rfl
def anN(l l':List ko)(f:FuncId)(p:ko->ko->Bool)(hx:∀v∈l,∀u∈l',ah prog f [.agg (q4A (rq v)),.agg (q4A (rq u))] (.v (.bool (p v u))))(hl:l.length<=100000)(hl':l'.length<=100000):
  ah prog 422 [.r (aD 4 q4C (l.map rq)),.r (aD 4 q4C (l'.map rq)),.it (.one (.clo f []))] (.v (.bool (eqL p l l'))):=
 zG (asr l l' (.sat (jR f [] [])) p (fun v h u h'=>FnV.const (hx v h u h')) hl hl' rfl)
def auy(l l':List Nat)(x:CA)(p:Nat->Nat->Bool)(hx:∀v∈l,∀u∈l',FnV prog x [.v (.int .u64 (v:Int)),.v (.int .u64 (u:Int))] (.v (.bool (p v u))))(hl:l.length<=100000)(hl':l'.length<=100000)(hx1:x.dN=true):
  ah prog 425 [.r (aD 1 wdC l),.r (aD 1 wdC l'),.it (.one (.c x))] (.v (.bool (eqL p l l'))):=by
 refine ah.fq func425 ?_;intros
 by_cases hne:l.length=l'.length
 rotate_left
 ·rw[yx hne];refine zg ?_;exact aU rfl
 refine zg ?_;refine W.loop (fun k=>k<=l.length/\eqL p (l.drop k) (l'.drop k)=eqL p l l') (fun k=>[(1,.r (aD 1 wdC l')),(2,.it (.one (.c x))),(15,.r (aD 1 wdC l)),(16,.v (.int .i64 (l.length:Int))),(17,.v (.int .i64 (k:Int)))]) (fun _=>[]) (fun k=>l.length - k) 0 ⟨zq8 _,rfl⟩ (fun k ⟨hk,he⟩=>?_)
 by_cases h:k < l.length
 ·obtain⟨a,ha⟩:∃a,l[k]? =some a:=⟨_,zyh h⟩
  obtain⟨b,hb⟩:∃b,l'[k]? =some b:=⟨_,zyh zE⟩
  have hf:=hx a (zq4 ha) b (zq4 hb);rw[yA ha hb]at he;cases hp:p a b with
  |false=>
   rw[hp]at hf he;refine zg ?_;refine aU ?_;rw[<-he];rfl
  |true=>
   rw[hp]at hf he;refine zg ?_;exact W.next (k+1) ⟨h,he⟩ zE
 ·obtain rfl:k=l.length:=zE
  rw[zvh,hne,zvh]at he;refine zg ?_;refine aU ?_;rw[<-he];rfl
def aul(l l':List Vl)(x:CA)(p:Vl->Vl->Bool)(hx:∀v∈l,∀u∈l',FnV prog x [.agg (vlA v),.agg (vlA u)] (.v (.bool (p v u))))(hl:l.length<=100000)(hl':l'.length<=100000)(hx1:x.dN=true):
  ah prog 319 [.r (aD 15 vlC l),.r (aD 15 vlC l'),.it (.one (.c x))] (.v (.bool (eqL p l l'))):=by
 rw[ab5,ab5];refine ah.fq func319 ?_;intros
 by_cases hne:l.length=l'.length
 rotate_left
 ·rw[yx hne];refine zg ?_;exact aU rfl
 refine zg ?_;refine W.loop (fun k=>k<=l.length/\eqL p (l.drop k) (l'.drop k)=eqL p l l') (fun k=>[(1,.r (aD 15 vlE l')),(2,.it (.one (.c x))),(15,.r (aD 15 vlE l)),(16,.v (.int .i64 (l.length:Int))),(17,.v (.int .i64 (k:Int)))]) (fun _=>[]) (fun k=>l.length - k) 0 ⟨zq8 _,rfl⟩ (fun k ⟨hk,he⟩=>?_)
 by_cases h:k < l.length
 ·obtain⟨a,ha⟩:∃a,l[k]? =some a:=⟨_,zyh h⟩
  obtain⟨b,hb⟩:∃b,l'[k]? =some b:=⟨_,zyh zE⟩
  have hf:=hx a (zq4 ha) b (zq4 hb);rw[yA ha hb]at he;cases hp:p a b with
  |false=>
   rw[hp]at hf he;refine zg ?_;refine aU ?_;rw[<-he];rfl
  |true=>
   rw[hp]at hf he;refine zg ?_;exact W.next (k+1) ⟨h,he⟩ zE
 ·obtain rfl:k=l.length:=zE
  rw[zvh,hne,zvh]at he;refine zg ?_;refine aU ?_;rw[<-he];rfl
def aoY(l l':List Vl)(f:FuncId)(p:Vl->Vl->Bool)(hx:∀v∈l,∀u∈l',ah prog f [.agg (vlA v),.agg (vlA u)] (.v (.bool (p v u))))(hl:l.length<=100000)(hl':l'.length<=100000):
  ah prog 319 [.r (aD 15 vlC l),.r (aD 15 vlC l'),.it (.one (.clo f []))] (.v (.bool (eqL p l l'))):=
 zG (aul l l' (.sat (jR f [] [])) p (fun v h u h'=>FnV.const (hx v h u h')) hl hl' rfl)
def akP(l l':List Nat)(hl:l.length<=100000)(hl':l'.length<=100000):ah prog 318 [.r (aD 1 wdC l),.r (aD 1 wdC l')] (.v (.bool (decide (l=l')))):=by
 have e:decide (l=l')=eqL (fun a b=>decide (a=b)) l l':=by
  rw[zyc,decide_eq_true_iff];exact(xL fun a _ b _=>by rw[decide_eq_true_iff]).symm
 rw[e];refine ah.fq func318 ?_;intros
 by_cases hne:l.length=l'.length
 rotate_left
 ·rw[yx hne];refine zg ?_;exact aU rfl
 refine zg ?_;refine W.loop (fun k=>k<=l.length/\eqL (fun a b=>decide (a=b)) (l.drop k) (l'.drop k)=eqL (fun a b=>decide (a=b)) l l') (fun k=>[(0,.r (aD 1 wdC l)),(1,.r (aD 1 wdC l')),(12,.v (.int .i64 (l.length:Int))),(13,.v (.int .i64 (k:Int)))]) (fun _=>[]) (fun k=>l.length - k) 0 ⟨zq8 _,rfl⟩ (fun k ⟨hk,he⟩=>?_)
 by_cases h:k < l.length
 ·obtain⟨a,ha⟩:∃a,l[k]? =some a:=⟨_,zyh h⟩
  obtain⟨b,hb⟩:∃b,l'[k]? =some b:=⟨_,zyh zE⟩
  rw[yA ha hb]at he;by_cases hab:a=b
  ·have hab':(a:Int)=(b:Int):=zE
   rw[decide_eq_true hab]at he;refine zg ?_;exact W.next (k+1) ⟨h,he⟩ zE
  ·have hab':¬(a:Int)=(b:Int):=zE
   rw[decide_eq_false hab]at he;refine zg ?_;refine aU ?_;rw[<-he];rfl
 ·obtain rfl:k=l.length:=zE
  rw[zvh,hne,zvh]at he;refine zg ?_;refine aU ?_;rw[<-he];rfl
def ajT(h:PrP p)(x y:Nat)(hx:x < p)(hy:y < p):ah prog 426 [.v (.int .u64 (x:Int)),.v (.int .u64 (y:Int)),.r (dL [.val (.int .u64 (p:Int))])] (.v (.bool (decide (x=y)))):=by
 have hp:=h.lt;have c1:=eG h x zE
 have c2:=eG h y zE
 rw[zw4 hx]at c1;rw[zw4 hy]at c2;refine ah.fq func426 ?_;intros
 refine zg ?_;refine aU ?_;rw[decide_eq_decide];omega
def aoq{r:Nat}{l l':List Nat}(h:PrP p)(hl:l.length=r*c)(hl':l'.length=r'*c')(hr:r<=64)(hc:c<=64)(hr':r'<=64)(hc':c'<=64)(hb:∀x∈l,x < p)(hb':∀x∈l',x < p):
  ah prog 317 [.agg (gfA p),.agg (fmA r c l),.agg (fmA r' c' l')] (.v (.bool (decide (r=r'/\c=c'/\l=l')))):=by
 have cA:=akz hl hl' hr hc hr' hc';have m1:=zxd hr hc;have m2:=zxd hr' hc';have cE:=auy l l' (.sat (jR 426 [] [.sat (dL [.val (.int .u64 (p:Int))])])) (fun x y=>decide (x=y)) (fun x hx y hy=>FnV.clo (ajT h x y (hb x hx) (hb' y hy))) zE zE rfl
 rw[show eqL (fun x y=>decide (x=y)) l l'=decide (l=l')by
  rw[zyc,decide_eq_true_iff];exact xL fun a _ b _=>by rw[decide_eq_true_iff]]at cE
 refine ah.fq func317 fun _ _ _ _ hB=>?_
 refine zg ?_;refine WP.dG 3 hB rfl rfl ?_;refine WP.aG ?_;by_cases h1:r=r'/\c=c'
 ·rw[decide_eq_true h1]at cA;refine zg ?_;refine aU ?_;rw[decide_eq_decide];exact⟨fun h=>⟨h1.1,h1.2,h⟩,fun h=>h.2.2⟩
 ·rw[decide_eq_false h1]at cA;refine zg ?_;refine aU ?_;exact(decide_eq_false fun h=>h1 ⟨h.1,h.2.1⟩).symm
end
section
def wN(l:List Nat):Prop:=l.length=0\/l.getD (l.length - 1) 0≠0
inductive Sh(K:Nat):Vl->Prop
 |num (x:Rat) (h:RB x K):Sh K (eY x)
 |mat (r c:Nat) (vs:List Rat) (hl:vs.length=r*c) (hr:r<=64) (hc:c<=64) (h:∀v∈vs,RB v K):Sh K (dW r c vs)
 |pol (zs:List Int) (hl:zs.length<=10000) (hn:pN zs) (h:∀z∈zs,z.natAbs < WB ^ K):Sh K (gP zs)
 |fld (p r c:Nat) (l:List Nat) (hp:PrP p) (hl:l.length=r*c) (hr:r<=64) (hc:c<=64) (h:∀x∈l,x < p):Sh K (gu p r c l)
 |rng (p:Nat) (l:List Nat) (hp:PrP p) (hl:l.length<=10000) (hn:wN l) (h:∀x∈l,x < p):Sh K (jS p l)
inductive Cv(K:Nat):Nat->Vl->Prop
 |one {n:Nat} {v:Vl} (h:Sh K v):Cv K n v
 |lst {n:Nat} (l:List Vl) (hl:l.length<=10000) (h:∀x∈l,Cv K n x):Cv K (n+1) (pX l)
noncomputable def mK(u v:Vl):Bool:= @decide (u=v) (Classical.propDecidable _)
def qQ{u v:Vl}:mK u v=true↔u=v:=by unfold mK;exact @decide_eq_true_iff _ (Classical.propDecidable _)
def arN{u v:Vl}(h:u≠v):mK u v=false:=Bool.eq_false_iff.2 fun e=>h (qQ.1 e)
def akW(u:Vl):mK u u=true:=qQ.2 rfl
def uP{u v:Vl}{p:Prop}[Decidable p](h:u=v↔p):mK u v=decide p:=by
 rw[zyc,qQ,decide_eq_true_iff];exact h
def agl{x:Rat}(h:cq x=cq y):x=y:=by rw[<-jF x,h,jF]
def azx{x y:Int}(h:cz x=cz y):x=y:=by rw[<-pV x,h,pV]
def map_inj{α β:Type}{f:α->β}(hf:∀{x y},f x=f y->x=y):∀{l l':List α},l.map f=l'.map f->l=l'
 |[],[],_=>rfl
 |a::l,b::l',h=>by
  rw[zy6,zy6]at h
  injection h with h1 h2
  rw[hf h1,map_inj hf h2]
def apU{x:Rat}:eY x=eY y↔x=y:=⟨fun h=>by injection h with _ h;exact agl h,fun h=>by rw[h]⟩
def asP{r:Nat}:dW r c vs=dW r' c' vs'↔r=r'/\c=c'/\vs=vs':=by
 constructor
 ·intro h
  injection h with _ _ h1 h2 h3
  exact⟨zE,zE,map_inj agl h3⟩
 ·rintro⟨rfl,rfl,rfl⟩;rfl
def asx{a:List Int}:gP a=gP b↔a=b:=⟨fun h=>by injection h with _ _ _ _ _ h;exact map_inj azx h,fun h=>by rw[h]⟩
def au8{r:Nat}{l l':List Nat}:gu p r c l=gu p' r' c' l'↔p=p'/\r=r'/\c=c'/\l=l':=by
 constructor
 ·intro h
  injection h with _ _ _ _ _ _ h1 h2 h3 h4
  exact⟨h1,zE,zE,h4⟩
 ·rintro⟨rfl,rfl,rfl,rfl⟩;rfl
def aqz{l l':List Nat}:jS p l=jS p' l'↔p=p'/\l=l':=by
 constructor
 ·intro h
  injection h with _ _ _ _ _ _ h1 _ _ _ h2
  exact⟨h1,h2⟩
 ·rintro⟨rfl,rfl⟩;rfl
def apS{l l':List Vl}:pX l=pX l'↔l=l':=⟨fun h=>by injection h,fun h=>by rw[h]⟩
def MZ.ofz(h:∀z∈zs,z.natAbs < WB ^ K):MZ ((zs.map cz).map rz) zs K:=by
 have:=MZ.raw (l:=zs.map cz) (K:=K) (fun a ha=>by obtain⟨z,_,rfl⟩:=zqg.1 ha;exact an4 z) (fun a ha=>by obtain⟨z,hz,rfl⟩:=zqg.1 ha;exact nI (h z hz))
 rwa [avM]at this
attribute [local irreducible] IntKind.wrap Go1 Reg WP aK aN bD aZ aJ aA aj ak aT Sat
attribute [local irreducible] PrP cq rqv
def avz{x:Rat}(hx:RB x K)(hy:RB y L)(hK:K+L<=400000):ah prog 423 [.agg (q4A (rq (cq x))),.agg (q4A (rq (cq y)))] (.v (.bool (decide (rqv (cq x)=rqv (cq y))))):=by
 rw[jF,jF]
 haveI:=Ra.cq hx
 haveI:=Ra.cq hy
 obtain⟨z,cA,hz,_⟩:=eCmp (q4A (rq (cq x))) (q4A (rq (cq y))) (K:=K) (K':=L) zE
 rw[<-decide_eq_decide.2 hz];refine ah.fq func423 ?_;intros
 refine zg ?_;exact aU rfl
def ajo{r:Nat}(hv:∀v∈vs,RB v K)(hv':∀v∈vs',RB v L)(hK:K+L<=400000)(hl:vs.length=r*c)(hl':vs'.length=r'*c')(hr:r<=64)(hc:c<=64)(hr':r'<=64)(hc':c'<=64):
  ah prog 315 [.agg (qp r c ((vs.map cq).map rq)),.agg (qp r' c' ((vs'.map cq).map rq))] (.v (.bool (decide (r=r'/\c=c'/\vs=vs')))):=by
 have m1:=zxd hr hc;have m2:=zxd hr' hc';have k1:(vs.map cq).length=vs.length:=zq5 _;have k2:(vs'.map cq).length=vs'.length:=zq5 _;have cA:=ae0 (l:=(vs.map cq).map rq) (l':=(vs'.map cq).map rq) (by rw[zq5,zq5];exact hl) (by rw[zq5,zq5];exact hl') hr hc hr' hc' (decide (r=r'/\c=c')) decide_eq_true_iff
 have cE:=anN (vs.map cq) (vs'.map cq) 423 (fun a b=>decide (rqv a=rqv b)) (fun a ha b hb=>by
  obtain⟨x,hx,rfl⟩:=zqg.1 ha;obtain⟨y,hy,rfl⟩:=zqg.1 hb;exact avz (hv x hx) (hv' y hy) hK) zE zE
 have e:eqL (fun a b=>decide (rqv a=rqv b)) (vs.map cq) (vs'.map cq)=decide (vs=vs'):=by
  rw[zyc,decide_eq_true_iff,xL (fun a ha b hb=>by
   obtain⟨x,hx,rfl⟩:=zqg.1 ha;obtain⟨y,hy,rfl⟩:=zqg.1 hb;rw[decide_eq_true_iff,jF,jF];exact⟨fun h=>by rw[h],agl⟩)]
  exact⟨map_inj agl,fun h=>by rw[h]⟩
 rw[e]at cE;refine ah.fq func315 ?_;intros
 by_cases h1:r=r'/\c=c'
 ·rw[decide_eq_true h1]at cA;refine zg ?_;refine aU ?_;rw[decide_eq_decide];exact⟨fun h=>⟨h1.1,h1.2,h⟩,fun h=>h.2.2⟩
 ·rw[decide_eq_false h1]at cA;refine zg ?_;refine aU ?_;exact(decide_eq_false fun h=>h1 ⟨h.1,h.2.1⟩).symm
def uY(u v:Vl)(h:u.k≠v.k\/u.p≠v.p):ah prog 228 [.agg (vlA u),.agg (vlA v)] (.v (.bool (mK u v))):=by
 rw[arN (by rintro rfl;exact h.elim (fun h=>h rfl) fun h=>h rfl)]
 refine ah.fq func228 ?_;intros
 by_cases h1:u.k=v.k
 ·have h2:¬(u.p:Int)=(v.p:Int):=zE
  refine zg ?_;exact aU rfl
 ·refine zg ?_;exact aU rfl
section
variable{K L:Nat}(hKL:K+L<=100000)
include hKL
theorem apa{r:Nat}(hv:∀v∈vs,RB v K)(hv':∀v∈vs',RB v L)(hl:vs.length=r*c)(hl':vs'.length=r'*c')(hr:r<=64)(hc:c<=64)(hr':r'<=64)(hc':c'<=64):
  ah prog 228 [.agg (vlA (dW r c vs)),.agg (vlA (dW r' c' vs'))] (.v (.bool (mK (dW r c vs) (dW r' c' vs')))):=by
 have c1:=ajo hv hv' zE hl hl' hr hc hr' hc'
 rw[uP asP];refine ah.fq func228 ?_;intros
 refine zg ?_;exact aU rfl
theorem anO{a:List Int}(hl:a.length<=10000)(hn:pN a)(h:∀z∈a,z.natAbs < WB ^ K)(hl':b.length<=10000)(hn':pN b)(h':∀z∈b,z.natAbs < WB ^ L):
  ah prog 228 [.agg (vlA (gP a)),.agg (vlA (gP b))] (.v (.bool (mK (gP a) (gP b)))):=by
 have c1:=aos (MZ.ofz h) (MZ.ofz h') (by rw[zq5,zq5];exact hl) (by rw[zq5,zq5];exact hl') hKL hn hn'
 rw[uP asx];refine ah.fq func228 ?_;intros
 refine zg ?_;exact aU rfl
omit hKL in
theorem anI{r:Nat}{l l':List Nat}(hp:PrP p)(hl:l.length=r*c)(hr:r<=64)(hc:c<=64)(h:∀x∈l,x < p)(hl':l'.length=r'*c')(hr':r'<=64)(hc':c'<=64)(h':∀x∈l',x < p):
  ah prog 228 [.agg (vlA (gu p r c l)),.agg (vlA (gu p r' c' l'))] (.v (.bool (mK (gu p r c l) (gu p r' c' l')))):=by
 have cf:=aoB (gu p r c l) hp;have c1:=aoq hp hl hl' hr hc hr' hc' h h';have e:((gu p r c l).p:Int)=((gu p r' c' l').p:Int):=rfl;rw[uP (p:=r=r'/\c=c'/\l=l') (au8.trans ⟨fun h=>h.2,fun h=>⟨rfl,h⟩⟩)]
 refine ah.fq func228 ?_;intros
 refine zg ?_;exact aU rfl
omit hKL in
theorem aot{p:Nat}{l l':List Nat}(hl:l.length<=10000)(hl':l'.length<=10000):
  ah prog 228 [.agg (vlA (jS p l)),.agg (vlA (jS p l'))] (.v (.bool (mK (jS p l) (jS p l')))):=by
 have c1:=akP l l' zE zE
 have e:((jS p l).p:Int)=((jS p l').p:Int):=rfl;rw[uP (p:=l=l') (aqz.trans ⟨fun h=>h.2,fun h=>⟨rfl,h⟩⟩)]
 refine ah.fq func228 ?_;intros
 refine zg ?_;exact aU rfl
omit hKL in
theorem apd{l l':List Vl}(hl:l.length<=10000)(hl':l'.length<=10000)(h:∀x∈l,∀y∈l',ah prog 228 [.agg (vlA x),.agg (vlA y)] (.v (.bool (mK x y)))):
  ah prog 228 [.agg (vlA (pX l)),.agg (vlA (pX l'))] (.v (.bool (mK (pX l) (pX l')))):=by
 have c1:=aoY l l' 228 mK h zE zE
 rw[show eqL mK l l'=mK (pX l) (pX l')by
  rw[zyc,qQ,apS];exact xL fun a _ b _=>qQ]at c1
 refine ah.fq func228 ?_;intros
 refine zg ?_;exact aU rfl
theorem adU{u v:Vl}(hu:Sh K u)(hv:Sh L v):ah prog 228 [.agg (vlA u),.agg (vlA v)] (.v (.bool (mK u v))):=by
 by_cases hk:u.k=v.k/\u.p=v.p
 ·cases hu with
  |num x h=>cases hv with
   |num y h'=>
    rw[uP apU];exact aky h h' zE
   |_=>exact absurd hk.1 zp
  |mat r c vs hl hr hc h=>cases hv with
   |mat r' c' vs' hl' hr' hc' h'=>exact apa hKL h h' hl hl' hr hc hr' hc'
   |_=>exact absurd hk.1 zp
  |pol zs hl hn h=>cases hv with
   |pol zs' hl' hn' h'=>exact anO hKL hl hn h hl' hn' h'
   |_=>exact absurd hk.1 zp
  |fld p r c l hp hl hr hc h=>cases hv with
   |fld p' r' c' l' hp' hl' hr' hc' h'=>
    obtain rfl:p=p':=hk.2;exact anI hp hl hr hc h hl' hr' hc' h'
   |_=>exact absurd hk.1 zp
  |rng p l hp hl hn h=>cases hv with
   |rng p' l' hp' hl' hn' h'=>
    obtain rfl:p=p':=hk.2;exact aot hl hl'
   |_=>exact absurd hk.1 zp
 ·exact uY u v zE
theorem atK:∀(n m:Nat) (u v:Vl),Cv K n u->Cv L m v->ah prog 228 [.agg (vlA u),.agg (vlA v)] (.v (.bool (mK u v))):=by
 intro n
 induction n with
 |zero=>
  intro m u v hu hv;cases hu with
  |one hu=>cases hv with
   |one hv=>exact adU hKL hu hv
   |lst l hl h=>exact uY u _ (by cases hu <;> exact .inl zp)
 |succ n ih=>
  intro m u v hu hv;cases hu with
  |one hu=>cases hv with
   |one hv=>exact adU hKL hu hv
   |lst l hl h=>exact uY u _ (by cases hu <;> exact .inl zp)
  |lst l hl h=>cases hv with
   |one hv=>exact uY _ v (by cases hv <;> exact .inl zp)
   |lst l' hl' h'=>exact apd hl hl' fun x hx y hy=>ih _ x y (h x hx) (h' y hy)
end
end
section
def ay5(z:Int):zOk (cz z)=true:=(afE (an4 z)).2 (by rw[pV])
def azQ:lz (zs.map cz)=true↔pN zs:=by
 unfold lz pN;rw[Bool.or_eq_true,decide_eq_true_iff,decide_eq_true_iff,zq5];by_cases h:zs.length=0
 ·exact⟨fun _=> .inl h,fun _=> .inl h⟩
 ·have e:rzv ((zs.map cz).getD (zs.length - 1) (false,[]))=zs.getD (zs.length - 1) 0:=by
   rw[zx7,zx7,zqa,zyh (show zs.length - 1 < zs.length by omega)]
   exact pV _
  rw[e]
def azC{l:List Nat}:lw l=true↔wN l:=by
 unfold lw wN;rw[Bool.or_eq_true,decide_eq_true_iff,decide_eq_true_iff]
def alS{l:List Nat}:l.all (ltp p)=true↔∀x∈l,x < p:=by
 rw[zqh];exact⟨fun h x hx=>of_decide_eq_true (h x hx),fun h x hx=>decide_eq_true (h x hx)⟩
def azw(zs:List Int):vP (gP zs)=0:=(vP0 _).2 ⟨.inr ⟨rfl,rfl,rfl,rfl⟩,.inr ⟨rfl,rfl,rfl⟩,.inl rfl,.inr ⟨rfl,rfl,rfl⟩,.inr rfl,.inr (.inr rfl),.inr rfl⟩
def aza(p r c:Nat)(l:List Nat):vP (gu p r c l)=0:=(vP0 _).2 ⟨.inr ⟨rfl,rfl,rfl,rfl⟩,.inr ⟨rfl,rfl,rfl⟩,.inr rfl,.inl rfl,.inr rfl,.inl rfl,.inr rfl⟩
def a0j(p:Nat)(l:List Nat):vP (jS p l)=0:=(vP0 _).2 ⟨.inr ⟨rfl,rfl,rfl,rfl⟩,.inr ⟨rfl,rfl,rfl⟩,.inr rfl,.inr ⟨rfl,rfl,rfl⟩,.inl rfl,.inr (.inl rfl),.inr rfl⟩
def ayP(l:List Vl):vP (pX l)=0:=(vP0 _).2 ⟨.inr ⟨rfl,rfl,rfl,rfl⟩,.inr ⟨rfl,rfl,rfl⟩,.inr rfl,.inr ⟨rfl,rfl,rfl⟩,.inr rfl,.inr (.inr rfl),.inl rfl⟩
def ahb:(Sm WB rq0.2.1/\Sm WB rq0.2.2.2)/\rq0.2.1.length<=100000/\rq0.2.2.2.length<=100000:=⟨⟨Sm.nil,Sm.nil⟩,zq8 _,zq8 _⟩
def kQ{α:Type}{p:α->Prop}:∀x∈([]:List α),p x:=fun x hx=>by cases hx
def awf(h:∀z∈zs,z.natAbs < WB ^ K)(hK:K<=100000)(hl:zs.length<=100000):vZ0 (gP zs) where
 q:=ahb
 a:=kQ
 al:=zq8 _
 po:=fun x hx=>by obtain⟨z,hz,rfl⟩:=zqg.1 hx;exact⟨an4 z,zxf (nI (h z hz)) hK⟩
 pol:=by rw[zq5];exact hl
 p:=aX
 fa:=kQ
 fal:=zq8 _
 ri:=kQ
 ril:=zq8 _
 lil:=zq8 _
def PrP.wb(h:PrP p):p < WB:=by have:=h.2.1;rw[bf];omega
def axp{r:Nat}{l:List Nat}(hp:PrP p)(h:∀x∈l,x < p)(hl:l.length<=100000):vZ0 (gu p r c l) where
 q:=ahb
 a:=kQ
 al:=zq8 _
 po:=kQ
 pol:=zq8 _
 p:=hp.wb
 fa:=fun x hx=>Nat.lt_trans (h x hx) hp.wb
 fal:=hl
 ri:=kQ
 ril:=zq8 _
 lil:=zq8 _
def aww{l:List Nat}(hp:PrP p)(h:∀x∈l,x < p)(hl:l.length<=100000):vZ0 (jS p l) where
 q:=ahb
 a:=kQ
 al:=zq8 _
 po:=kQ
 pol:=zq8 _
 p:=hp.wb
 fa:=kQ
 fal:=zq8 _
 ri:=fun x hx=>Nat.lt_trans (h x hx) hp.wb
 ril:=hl
 lil:=zq8 _
def avh{l:List Vl}(hl:l.length<=100000):vZ0 (pX l) where
 q:=ahb
 a:=kQ
 al:=zq8 _
 po:=kQ
 pol:=zq8 _
 p:=aX
 fa:=kQ
 fal:=zq8 _
 ri:=kQ
 ril:=zq8 _
 lil:=hl
def Sh.z{v:Vl}(h:Sh K v)(hK:K<=100000):vZ0 v/\v.li=[]:=by
 cases h with
 |num x h=>exact⟨vZ0.num h hK,rfl⟩
 |mat r c vs hl hr hc h=>exact⟨vZ0.mat h hK (by have:=zxd hr hc;omega),rfl⟩
 |pol zs hl hn h=>exact⟨awf h hK zE,rfl⟩
 |fld p r c l hp hl hr hc h=>exact⟨axp hp h (by have:=zxd hr hc;omega),rfl⟩
 |rng p l hp hl hn h=>exact⟨aww hp h zE,rfl⟩
def Sh.f{v:Vl}(h:Sh K v)(d:Nat):vF d v=true:=by
 cases h with
 |num x h=>exact akX d x
 |mat r c vs hl hr hc h=>exact ayK d hl hr hc
 |pol zs hl hn h=>
  rw[vF_3 (azw zs) rfl];unfold pOk;rw[zx4];exact⟨zqh.2 fun x hx=>by obtain⟨z,_,rfl⟩:=zqg.1 hx;exact ay5 z,azQ.2 hn⟩
 |fld p r c l hp hl hr hc h=>
  rw[vF_4 (aza p r c l) rfl];unfold fOk;rw[zx4,zx4];exact⟨decide_eq_true hp,alS.2 h,ady hr hc hl⟩
 |rng p l hp hl hn h=>
  rw[vF_5 (a0j p l) rfl];unfold rOk;rw[zx4,zx4];exact⟨decide_eq_true hp,alS.2 h,azC.2 hn⟩
def Sh.zz{v:Vl}(h:Sh K v)(hK:K<=100000):∀n,vZ n v
 |0=>h.z hK
 |n+1=>⟨(h.z hK).1,by rw[(h.z hK).2];exact kQ⟩
def Cv.z(hK:K<=100000):∀{n:Nat} {v:Vl},Cv K n v->vZ n v:=by
 intro n
 induction n with
 |zero=>
  intro v h;cases h with
  |one h=>exact h.zz hK 0
 |succ n ih=>
  intro v h;cases h with
  |one h=>exact h.zz hK _
  |lst l hl h=>exact⟨avh zE,fun x hx=>ih (h x hx)⟩
def Cv.f{K:Nat}:∀{n:Nat} {v:Vl},Cv K n v->∀d,n < d->vF d v=true:=by
 intro n
 induction n with
 |zero=>
  intro v h d hd;cases h with
  |one h=>exact h.f d
 |succ n ih=>
  intro v h d hd;cases h with
  |one h=>exact h.f d
  |lst l hl h=>
   obtain⟨e,rfl⟩:∃e,d=e+1:=⟨d - 1,zE⟩
   rw[vF_6 (ayP l) rfl];exact zqh.2 fun x hx=>ih (h x hx) e zE
attribute [local irreducible] IntKind.wrap Go1 Reg WP aK aN bD aZ aJ aA aj ak aT Sat
attribute [local irreducible] PrP zOk vP lz vF
def Cv.F{n:Nat}{v:Vl}(h:Cv K n v)(hK:K<=100000)(hn:n<=15):ah prog 44 [.agg (vlA v)] (.v (.bool true)):=by
 have c:=oU (h.z hK)
 rwa [h.f 20 zE]at c
end
end
end Go.Proofs.YtcamgbgfelmbaaaGreatDoor
namespace Go.Proofs.YtcamgbgfelmbaaaGreatDoor
open Go.RowKit QM SX LA
def jn(s:UInt8):List (List UInt8)->List UInt8
 |[]=>[]
 |[a]=>a
 |a::b::l=>a++(s::32::jn s (b::l))
def chk{α:Type}(c:Nat):Nat->List α->List (List α)
 |0,_=>[]
 |r+1,l=>l.take c::chk c r (l.drop c)
def tbS(r c:Nat)(l:List (List UInt8)):List UInt8:=
 if r=0\/c=0 then [122,101,114,111,40]++(aQ r++([44,32]++(aQ c++[41])))else 91::(jn 59 ((chk c r l).map (jn 44))++[93])
def plS(l:List (List UInt8)):List UInt8:=[112,111,108,121,40]++(jn 44 l++[41])
def mdS(s:List UInt8)(p:Nat):List UInt8:=[109,111,100,40]++(s++([44,32]++(aQ p++[41])))
mutual
def tS:Vl->List UInt8
 |⟨k,q,r,c,a,po,p,fr,fc,fa,ri,li⟩=>
  if k=1 then qS (rqv q)else if k=2 then tbS r.toNat c.toNat (a.map fun x=>qS (rqv x))else if k=3 then plS (po.map fun x=>zS (rzv x))
  else if k=4 then mdS (tbS fr.toNat fc.toNat (fa.map aQ)) p else if k=5 then mdS (plS (ri.map aQ)) p else 123::(jn 44 (tL li)++[125])
def tL:List Vl->List (List UInt8)
 |[]=>[]
 |v::l=>tS v::tL l
end
def axA:∀l:List Vl,tL l=l.map tS
 |[]=>by rw[tL];rfl
 |v::l=>by rw[tL,axA l];rfl
def afF(x:Rat):tS (eY x)=qS x:=by
 show tS ⟨1,cq x,0,0,[],[],0,0,0,[],[],[]⟩=_;rw[tS,if_pos rfl,jF]
def sH(r c:Nat)(vs:List Rat):tS (dW r c vs)=tbS r c (vs.map qS):=by
 show tS ⟨2,rq0,(r:Int),(c:Int),vs.map cq,[],0,0,0,[],[],[]⟩=_;rw[tS,if_neg zc,if_pos rfl,zv4,zw8,zw8,show (fun x=>qS (rqv x)) ∘ cq=qS from funext fun x=>congrArg qS (jF x)]
def ak2(zs:List Int):tS (gP zs)=plS (zs.map zS):=by
 show tS ⟨3,rq0,0,0,[],zs.map cz,0,0,0,[],[],[]⟩=_;rw[tS,if_neg zc,if_neg zc,if_pos rfl,zv4,show (fun x=>zS (rzv x)) ∘ cz=zS from funext fun x=>congrArg zS (pV x)]
def akn(p r c:Nat)(l:List Nat):tS (gu p r c l)=mdS (tbS r c (l.map aQ)) p:=by
 show tS ⟨4,rq0,0,0,[],[],p,(r:Int),(c:Int),l,[],[]⟩=_;rw[tS,if_neg zc,if_neg zc,if_neg zc,if_pos rfl,zw8,zw8]
def akH(p:Nat)(l:List Nat):tS (jS p l)=mdS (plS (l.map aQ)) p:=by
 show tS ⟨5,rq0,0,0,[],[],p,0,0,[],l,[]⟩=_;rw[tS,if_neg zc,if_neg zc,if_neg zc,if_neg zc,if_pos rfl]
def ak9(l:List Vl):tS (pX l)=123::(jn 44 (l.map tS)++[125]):=by
 show tS ⟨6,rq0,0,0,[],[],0,0,0,[],[],l⟩=_;rw[tS,if_neg zc,if_neg zc,if_neg zc,if_neg zc,if_neg zc,axA]
def dgc(c:UInt8):Prop:=48<=c.toNat/\c.toNat<=57
def dg_of{d:Nat}(h:d < 10):dgc (UInt8.ofNat (48+d))/\(UInt8.ofNat (48+d)).toNat=48+d:=by
 have:(UInt8.ofNat (48+d)).toNat=48+d:=by rw[UInt8.toNat_ofNat'];omega
 unfold dgc;omega
def azj:∀(n x:Nat),x<=n->∀c∈dig x,dgc c:=by
 intro n
 induction n with
 |zero=>intro x hx c hc;rw[show x=0 by omega,kP]at hc;cases hc
 |succ n ih=>
  intro x hx c hc;by_cases h0:x=0
  ·rw[h0,kP]at hc;cases hc
  ·rw[qX h0,zyg,zxi]at hc;rcases hc with hc|rfl
   ·exact ih (x / 10) zE c hc
   ·exact(dg_of (zyi x zc)).1
def afS(x:Nat):∀c∈aQ x,dgc c:=by
 intro c hc;unfold aQ at hc
 split at hc
 ·rw[zxi]at hc;subst hc;unfold dgc;decide
 ·exact azj x x (zq6 _) c hc
def an1(x:Nat):∃c m,aQ x=c::m/\dgc c:=by
 cases h:aQ x with
 |nil=>
  unfold aQ at h
  split at h
  ·cases h
  ·next h0=>exact absurd h (ajE h0)
 |cons c m=>exact⟨c,m,rfl,afS x c (by rw[h];exact zq9 ..)⟩
def zS_ch(z:Int):∀c∈zS z,c=45\/dgc c:=by
 intro c hc;unfold zS at hc
 split at hc
 ·rw[zy3]at hc;exact hc.imp id (afS _ c)
 ·exact .inr (afS _ c hc)
def axS(z:Int):∃c m,zS z=c::m/\(c=45\/dgc c):=by
 cases h:zS z with
 |nil=>
  unfold zS at h
  split at h
  ·cases h
  ·obtain⟨c,m,e,_⟩:=an1 z.natAbs;rw[e]at h;cases h
 |cons c m=>exact⟨c,m,rfl,zS_ch z c (by rw[h];exact zq9 ..)⟩
def wH(x:Rat):qS x=if x.den=1 then zS x.num else zS x.num++47::zS (x.den:Int):=by
 unfold qS rS
 dsimp only
 by_cases h:x.den=1
 ·rw[if_pos (show (x.den:Int)=1 by omega),if_pos h]
 ·rw[if_neg (show¬(x.den:Int)=1 by omega),if_neg h,zqj];rfl
def qS_ne(x:Rat):∃c m,qS x=c::m/\(c=45\/dgc c):=by
 obtain⟨c,m,e,h⟩:=axS x.num;rw[wH,e]
 split
 ·exact⟨c,m,rfl,h⟩
 ·exact⟨c,_,rfl,h⟩
def Tm(r:List UInt8):Prop:=∀c m,r=c::m->c=44\/c=59\/c=93\/c=41\/c=125
def Tell{α:Type}(A:α->Prop)(T:List UInt8->Prop)(f:α->List UInt8):Prop:=∀x y,A x->A y->∀r s,T r->T s->f x++r=f y++s->x=y/\r=s
section
variable{α:Type}{f:α->List UInt8}(hf:Tell (fun _=>True) Tm f)(hn:∀x,∃c m,f x=c::m/\(c=45\/dgc c))
include hf hn
end
def kd(v:Vl)(d:UInt8):Prop:=(v.k=1/\(d=45\/dgc d))\/(v.k=2/\(d=122\/d=91))\/(v.k=3/\d=112)\/(v.k=4/\d=109)\/(v.k=5/\d=109)\/(v.k=6/\d=123)
