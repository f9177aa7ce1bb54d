import Derived.Test.YtcamgbgfelmbaaaGreatDoorO5
import Derived.Test.YtcamgbgfelmbaaaGreatDoorO22
import Derived.Test.YtcamgbgfelmbaaaGreatDoorO3
set_option linter.all false
set_option maxRecDepth 20000
set_option maxHeartbeats 2000000
open Go.Proofs.Tryz
namespace Go.Proofs.YtcamgbgfelmbaaaGreatDoor
open Go.RowKit QM SX LA
variable{vs vs':List Rat}{s:List UInt8}{K L c k:Nat}{x:Rat}{v:Vl}
section
section
abbrev mq(vs:List Rat):List Q4:=(vs.map cq).map rq
abbrev mz(zs:List Int):List Z2:=(zs.map cz).map rz
def xw(vs:List Rat):(mq vs).length=vs.length:=by rw[zq5,zq5]
def akf(zs:List Int):(mz zs).length=zs.length:=by rw[zq5,zq5]
def awH{r:Nat}:AV0.imp (.agg [.c (.val (.int .i64 2)),.c (.val (.bool false)),.c (.val (.slice none 0 0)),.c (.val (.bool false)),.c (.val (.slice none 0 0)),.c (.val (.int .i64 (r:Int))),.c (.val (.int .i64 (c:Int))),.c (.sat (aD 4 q4C (vs.map q4v))),.c (.val (.slice none 0 0)),.c (.val (.int .u64 0)),.c (.val (.int .i64 0)),.c (.val (.int .i64 0)),.c (.val (.slice none 0 0)),.c (.val (.slice none 0 0)),.c (.val (.slice none 0 0))]) (.agg (vlA (dW r c vs))):=
 mg ⟨aH.refl _,aH.refl _,aH.vV,aH.refl _,aH.vV,aH.refl _,aH.refl _,aH.rats vs,aH.nil,aH.refl _,aH.refl _,aH.refl _,aH.nil,aH.nil,aH.nil,trivial⟩
attribute [local irreducible] IntKind.wrap Go1 Reg WP aK aN bD aZ aJ aA aj ak aT Sat
attribute [local irreducible] cq
def acF(r c:Nat)(vs:List Rat):ah prog 242 [.agg (qp r c (vs.map q4v)),.v (.int .i64 0)] (.tup [.agg (vlA (dW r c vs)),eNo 0]):=by
 refine ah.fq func242 ?_;intros
 refine zg ?_;refine .ok (aA.mk2 ((aj.fC rfl rfl rfl).imp ?_) (aj.tmp rfl));exact awH
def mAdd(r c:Nat)(vs vs':List Rat):List Rat:=ku c (fun i k=>vat vs c i k+vat vs' c i k) r
def aag(r c:Nat)(vs:List Rat)(x:Rat):List Rat:=ku c (fun i k=>vat vs c i k*x) r
def aj8{r:Nat}(h:∀v∈vs,RB v K)(h':∀v∈vs',RB v L)(hl:vs.length=r*c)(hl':vs'.length=r*c)(hr:r<=64)(hc:c<=64)(h1:1<=K)(h1':1<=L)(hK:K+L<=300000):
  ah prog 327 [.agg (qp r c (mq vs)),.agg (qp r c (mq vs'))] (.tup [.agg (qp r c ((mAdd r c vs vs').map q4v)),eNo 0]):=by
 have c1:=aoP (MV.cq h) (by rw[xw];exact hl) (MV.cq h') (by rw[xw];exact hl') hr hc h1 h1' hK
 rw[nT]at c1;exact c1
def au5{r:Nat}(h:∀v∈vs,RB v K)(h':∀v∈vs',RB v L)(hl:vs.length=r*c)(hl':vs'.length=r*c)(hr:r<=64)(hc:c<=64)(h1:1<=K)(h1':1<=L)(hK:K+L<=300000):
  ah prog 233 [.agg (vlA (dW r c vs)),.agg (vlA (dW r c vs'))] (.tup [.agg (vlA (dW r c (mAdd r c vs vs'))),eNo 0]):=by
 have c1:=aj8 h h' hl hl' hr hc h1 h1' hK;have c2:=acF r c (mAdd r c vs vs');refine ah.fq func233 ?_;intros
 refine zg ?_;refine .ok (aA.mk2 aj.fC (aj.tmp rfl))
def ato(hx:RB x K)(hK:K<=100000):ah prog 213 [.agg (vlA (eY x))] (.tup [.agg (vlA (eY (-x))),eNo 0]):=by
 haveI:=Ra.cq hx
 obtain⟨X,cA,hX⟩:=eNeg (q4A (rq (cq x))) (K:=K) zE
 have e:=hX.nf;subst e;have cN:=abM (-x) 0;refine ah.fq func213 ?_;intros
 refine zg ?_;refine .ok (aA.mk2 aj.fC (aj.tmp rfl))
def aq9{r:Nat}(h:∀v∈vs,RB v K)(hl:vs.length=r*c)(hr:r<=64)(hc:c<=64)(h1:1<=K)(hK:K<=100000):
  ah prog 213 [.agg (vlA (dW r c vs))] (.tup [.agg (vlA (dW r c (aag r c vs (-1)))),eNo 0]):=by
 have o1:ah prog 8 [.v (.int .i64 (-1))] (.agg (zN (-1))):=pq.h ⟨zc,zc⟩
 haveI b1:Bd (-1) 1:=⟨by rw[bf];decide⟩
 have o2:ah prog 30 [.agg (zN (-1))] (.agg (qA (-1))):=sF.h zc
 have c1:=aaL (d:=q4v (-1)) (v:= -1) (K':=1) (MV.cq h) (by rw[xw];exact hl) (RB.ofI (z:= -1) b1.h zc).ra hr hc h1 zc zE
 rw[nT]at c1;have c2:=acF r c (aag r c vs (-1));refine ah.fq func213 ?_;intros
 refine zg ?_;refine .ok (aA.mk2 aj.fC (aj.tmp rfl))
def asj{u w x:Vl}{e:Int}(c1:ah prog 213 [.agg (vlA v)] (.tup [.agg (vlA w),eNo 0]))(c2:ah prog 233 [.agg (vlA u),.agg (vlA w)] (.tup [.agg (vlA x),eNo e])):
  ah prog 234 [.agg (vlA u),.agg (vlA v)] (.tup [.agg (vlA x),eNo e]):=by
 refine ah.fq func234 ?_;intros
 refine zg ?_;refine .ok (aA.mk2 aj.fC (aj.tmp rfl))
def as1{r:Nat}(hx:RB x L)(h:∀v∈vs,RB v K)(hl:vs.length=r*c)(hr:r<=64)(hc:c<=64)(h1:1<=K)(h1':1<=L)(hK:K+L<=100000):
  ah prog 321 [.agg (vlA (eY x)),.agg (vlA (dW r c vs))] (.tup [.agg (vlA (dW r c (aag r c vs x))),eNo 0]):=by
 have c1:=aaL (d:=rq (cq x)) (v:=x) (K':=L) (MV.cq h) (by rw[xw];exact hl) (Ra.cq hx) hr hc h1 h1' zE
 rw[nT]at c1;have c2:=acF r c (aag r c vs x);refine ah.fq func321 ?_;intros
 refine zg ?_;refine .ok (aA.mk2 aj.fC (aj.tmp rfl))
def awr(hx:RB x K)(hK:K<=100000):ah prog 163 [.agg (q4A (rq (cq x)))] (.tup [.agg (zN (if x.den=1 then x.num else 0)),.one (.c (.val (.bool (decide (x.den=1)))))]):=by
 have hl:=(vZ0.num hx hK).q.2
 dsimp only at hl
 have h:=(xB (h:=ZI.raw (cq x).1 (cq x).2.1) (h':=ZI.raw (cq x).2.2.1 (cq x).2.2.2)).h zE
 unfold wV at h;rw[aqD,amm]at h;have e1:((x.den:Int)=1)↔x.den=1:=zE
 simp only[e1]at h;exact h
section
variable{u v w:Vl}{e:Int}
def akZ(hk:u.k=1)(hk2:v.k≠1)(c:ah prog 321 [.agg (vlA u),.agg (vlA v)] (.tup [.agg (vlA w),eNo e])):ah prog 230 [.agg (vlA u),.agg (vlA v)] (.tup [.agg (vlA w),eNo e]):=by
 refine ah.fq func230 ?_;intros
 refine zg ?_;refine .ok (aA.mk2 aj.fC (aj.tmp rfl))
variable(c1:ah prog 44 [.agg (vlA u)] (.v (.bool true)))(c2:ah prog 44 [.agg (vlA v)] (.v (.bool true)))
include c1 c2
theorem arR(hk:u.k=v.k)(c:ah prog 234 [.agg (vlA u),.agg (vlA v)] (.tup [.agg (vlA w),eNo e])):ah prog 201 [.v (.int .i64 5),.agg (vlA u),.agg (vlA v)] (.tup [.agg (vlA w),eNo e]):=by
 refine ah.fq func201 ?_;intros
 refine zg ?_;refine .ok (aA.mk2 aj.fC (aj.tmp rfl))
theorem atG(c:ah prog 230 [.agg (vlA u),.agg (vlA v)] (.tup [.agg (vlA w),eNo e])):ah prog 201 [.v (.int .i64 6),.agg (vlA u),.agg (vlA v)] (.tup [.agg (vlA w),eNo e]):=by
 refine ah.fq func201 ?_;intros
 refine zg ?_;refine .ok (aA.mk2 aj.fC (aj.tmp rfl))
theorem arw(c:ah prog 231 [.agg (vlA u),.agg (vlA v)] (.tup [.agg (vlA w),eNo e])):ah prog 201 [.v (.int .i64 7),.agg (vlA u),.agg (vlA v)] (.tup [.agg (vlA w),eNo e]):=by
 refine ah.fq func201 ?_;intros
 refine zg ?_;refine .ok (aA.mk2 aj.fC (aj.tmp rfl))
theorem arL{b:Bool}(c:ah prog 228 [.agg (vlA u),.agg (vlA v)] (.v (.bool b))):ah prog 201 [.v (.int .i64 9),.agg (vlA u),.agg (vlA v)] (.tup [.agg (vlA (eY (if b then 1 else 0))),eNo 0]):=by
 have t:=apH b;refine ah.fq func201 ?_;intros
 refine zg ?_;refine .ok (aA.mk2 aj.fC (aj.tmp rfl))
end
end
section
def akE(i:Int):Vl->Vl
 |⟨k,q,r,c,a,po,p,fr,fc,fa,ri,li⟩=>if k=1 then eY (i*rqv q)else if k=2 then dW r.toNat c.toNat (aag r.toNat c.toNat (a.map rqv) i)else gP (agX (po.map rzv) i)
attribute [local irreducible] IntKind.wrap Go1 Reg WP aK aN bD aZ aJ aA aj ak aT Sat
attribute [local irreducible] rqv agX
structure Muls(v:Vl)(k:Nat):Prop where
 a:ah prog 230 [.agg (vlA (eY ((k:Int):Rat))),.agg (vlA v)] (.tup [.agg (vlA (akE k v)),eNo 0])
 b:ah prog 230 [.agg (vlA v),.agg (vlA (eY ((k:Int):Rat)))] (.tup [.agg (vlA (akE k v)),eNo 0])
 h:∃(w:Vl) (e:Int),ah prog 230 [.agg (vlA (eY (1 / 2))),.agg (vlA v)] (.tup [.agg (vlA w),eNo e])/\((v.k≠3/\e=0)\/(v.k=3/\e=5))
 d:ah prog 234 [.agg (vlA v),.agg (vlA v)] (.tup [.agg (vlA (akE 0 v)),eNo 0])
 s:∀i,i < k->ah prog 233 [.agg (vlA (akE (i:Int) v)),.agg (vlA v)] (.tup [.agg (vlA (akE ((i+1:Nat):Int) v)),eNo 0])
 c:∀i,i<=k->Cv 4 0 (akE (i:Int) v)
 kk:∀i,(akE i v).k=v.k
end
section
def txC(s:List UInt8):List CA:=[.val (str s)]
def alG(s:UInt8):∀(a:List UInt8) (l:List (List UInt8)),jn s (a::l)=a++(l.map fun x=>[s,32]++x).flatten
 |a,[]=>by simp[jn]
 |a,b::l=>by rw[jn,alG s b l];simp
attribute [local irreducible] IntKind.wrap Go1 Reg WP aK aN bD aZ aJ aA aj ak aT Sat
attribute [local irreducible] jn aQ zS
def qg(n:Nat):zS (n:Int)=aQ n:=by unfold zS;rw[if_neg zE,zxa]
def ayM{x:Nat}(h:x < WB):(aQ x).length<=21:=abN (k:=1) (by rw[zxh];exact h)
end
end
section
attribute [local irreducible] IntKind.wrap Go1 Reg WP aK aN bD aZ aJ aA aj ak aT Sat
section
variable(n:Int){k:Nat}(hn:n.tmod 7=(k:Int))(hk:k<=6){v:Vl}
include hn hk
end
end
section
section
def aj2(s:UInt8):∀{l:List (List UInt8)} {x:List UInt8},x∈l->x.length<=(jn s l).length
 |[a],x,h=>by rw[zxi]at h;subst h;exact zq6 _
 |a::b::l,x,h=>by
  show x.length<=(a++(s::32::jn s (b::l))).length;rw[zqi,zx6,zx6];rw[zy3]at h;rcases h with rfl|h
  ·omega
  ·have:=aj2 s h;omega
attribute [local irreducible] IntKind.wrap Go1 Reg WP aK aN bD aZ aJ aA aj ak aT Sat
attribute [local irreducible] cq rqv jn qS zS
def av0{z:Int}(h:z.natAbs < WB ^ K)(hK:K<=100000):ah prog 7 [.agg (z2A (rz (cz z)))] (.v (str (zS (rzv (cz z))))):=by
 have hl:(cz z).2.length<=K:=nI h;exact rX (h:=(ZQ.raw (b:=(cz z).1) (an4 z) hl).zi).h zE
def asZ(hx:RB x K)(hK:K<=100000):ah prog 72 [.agg (q4A (rq (cq x)))] (.v (str (qS (rqv (cq x))))):=by
 rw[jF];exact afN hx hK
end
section
def awC(s:UInt8):∀ws:List (List UInt8),Go.Lib.join ws [s,32]=jn s ws
 |[]=>rfl
 |a::l=>by rw[Go.Lib.join_cons,alG];rfl
def avc:∀{ws:List (List UInt8)} {j:Nat} {s:List UInt8},ws[j]? =some s->(ws.flatMap txC)[j]? =some (.val (str s))
 |[],j,s,h=>by simp at h
 |a::l,0,s,h=>by
  simp at h;subst h;rfl
 |a::l,j+1,s,h=>by
  rw[zq7];show ([CA.val (str a)]++l.flatMap txC)[j+1]? =_;simp at h
  simpa using avc h
def acz{n:Nat}{l:List (List UInt8)}(h:l.length=n):aD 1 txC l=aP 1 n (l.flatMap txC):=by subst h;rfl
def abH{ws:List (List UInt8)}(h:ws[k]? =some s):(ws.take k).flatMap txC++[.val (str s)]=(ws.take (k+1)).flatMap txC:=by
 rw[zw7,h];simp[txC]
attribute [local irreducible] IntKind.wrap Go1 Reg WP aK aN bD aZ aJ aA aj ak aT Sat
attribute [local irreducible] aQ
def yD(s:UInt8)(ws:List (List UInt8))(hn:ws.length<=1000000)(hl:(jn s ws).length<=1000000000000):
  ah prog 81 [.r (aD 1 txC ws),.v (str [s,32])] (.v (str (jn s ws))):=
 ah.iU ⟨_,func81,rfl,rfl⟩ rfl fun E S w vs hl2 hv=>by
  match vs,hv with
  |[v1,v2],⟨h1,h2,_⟩=>
   have h1:(aP 1 ws.length (ws.flatMap txC)).has S w v1:=h1;have h2:v2=str [s,32]:=h2;subst h2;obtain⟨oa,am,rfl,hcap,_,_,_,hcells⟩:=bQ.1 h1;by_cases h0:ws=[]
   ·subst h0;refine(strings_Join_none oa am ⟨⟨[s,32]⟩⟩ w).mono fun e w' ⟨g1,g2⟩=>⟨str [],?_,rfl,?_⟩
    ·rw[g1]
    ·subst g2;exact Off.of_below (Below.refl _ _)
   ·obtain⟨a,ha⟩:∃a,ws[0]? =some a:=by
     cases ws with
     |nil=>exact absurd rfl h0
     |cons a l=>exact⟨a,rfl⟩
    obtain⟨b,o,u,rfl,hb,hc,hu⟩:=hcells 0 _ (avc ha);have hmap:(ws.map fun x=>(⟨⟨x⟩⟩:ByteArray)).map (·.data.toList)=ws:=by
     rw[zv4];exact List.map_id _
    have hjl:(Go.Lib.join ((ws.map fun x=>(⟨⟨x⟩⟩:ByteArray)).map (·.data.toList)) (⟨⟨[s,32]⟩⟩:ByteArray).data.toList)=jn s ws:=by
     rw[hmap];exact awC s ws
    have hbk:=World.block_lt_of_cell? _ _ hc;have J:=strings_Join b o am (ws.map fun x=>⟨⟨x⟩⟩) ⟨⟨[s,32]⟩⟩ w (fun j x hx=>by
     rw[zqa]at hx
     obtain⟨t,ht,rfl⟩:=zya.1 hx;obtain⟨b',o',u',e,_,hc',hu'⟩:=hcells j _ (avc ht);cases e;have hu2:u'=str t:=hu';rw[hc',hu2]) hbk (by rw[zq5];omega) (by rw[zq5];exact hcap) (by rw[hjl];omega)
    rw[zq5]at J;refine J.mono fun e w' ⟨g1,g2⟩=>⟨str (jn s ws),?_,rfl,Off.of_below g2⟩
    rw[g1,hjl]
def oz(x:Nat)(hx:x < 18446744073709551616):ah prog 79 [.v (.int .u64 (x:Int))] (.v (str (aQ x))):=by
 have c1:=akL (x:Int) zE zE
 rw[zxa]at c1;have hx2:x < WB ^ 1:=by rw[zxh,bf];omega
 haveI:NI (.sat (bI x)) x 1:=NI.aaV hx2
 have c2:=ae5 (a:= .sat (bI x)) (x:=x) (k:=1) hx2 zc
 refine ah.fq func79 ?_;intros
 refine zg ?_;exact mX rfl
def aew(ws:List (List UInt8))(x:CA)(hx1:x.dN=true)(hn:ws.length<=10000)(hl:(jn 44 ws).length<=100000000000)(hx:∀(i:Nat) (s:List UInt8),ws[i]? =some s->FnV prog x [.v (.int .i64 (i:Int))] (.v (str s))):
  ah prog 75 [.v (.int .i64 (ws.length:Int)),.it (.one (.c x))] (.v (str (plS ws))):=by
 have cJ:=yD 44 ws zE zE
 unfold plS;refine ah.fq func75 fun _ _ _ _ hB=>?_
 refine zg ?_;refine W.loop (fun k=>k<=ws.length) (fun k=>[(1,.it (.one (.c x))),(5,.own 100),(7,.v (.int .i64 (ws.length:Int))),(8,.v (.int .i64 (k:Int)))]) (fun k=>[(100,.row 9 1 k ((ws.take k).flatMap txC))]) (fun k=>ws.length - k) 0 (zq8 _) (fun k hk=>?_)
  (by
   refine St.aS [(100,none)] z6 ?_ ?_ rfl
   ·exact yk
   ·exact⟨ay.dw rfl,trivial⟩)
 by_cases h:k < ws.length
 ·obtain⟨s,hs⟩:∃s,ws[k]? =some s:=⟨_,zyh h⟩
  have c:=hx k s hs;refine zg ?_;refine W.next (k+1) h zE (by
   refine St.aS [(100,some 16)] z6 ?_ ?_ rfl
   ·exact ye
   ·exact⟨ay.row rfl rfl rfl (abH hs),trivial⟩)
 ·obtain rfl:k=ws.length:=zE
  rw[zy8];refine WP.freeze 100 hB rfl ?_;refine zg ?_;refine mX ?_;simp
end
section
def asQ{α:Type}(c:Nat):∀(r:Nat) (l:List α) (i:Nat),i < r->(chk c r l)[i]? =some ((l.drop (i*c)).take c)
 |0,l,i,h=>absurd h (zvj _)
 |r+1,l,0,h=>by rw[zw3];rfl
 |r+1,l,i+1,h=>by
  show (chk c r (l.drop c))[i]? =_;rw[asQ c r (l.drop c) i zE,List.drop_drop,zv8,Nat.add_comm]
def ado{α:Type}(c:Nat):∀(r:Nat) (l:List α),(chk c r l).length=r
 |0,l=>rfl
 |r+1,l=>by show (chk c r (l.drop c)).length+1=_;rw[ado c r]
def avQ{α:Type}{l:List α}{a:Nat}(hk:k < c):((l.drop a).take c)[k]? =l[a+k]? :=by
 rw[zy9,if_pos hk,zv1]
attribute [local irreducible] IntKind.wrap Go1 Reg WP aK aN bD aZ aJ aA aj ak aT Sat
attribute [local irreducible] aQ jn
def adl{r:Nat}(l:List (List UInt8))(x:CA)(hx1:x.dN=true)(hl:l.length=r*c)(hr:r<=64)(hc:c<=64)(hb:(tbS r c l).length<=10000000000)(hx:∀(i:Nat) (s:List UInt8),l[i]? =some s->FnV prog x [.v (.int .i64 (i:Int))] (.v (str s))):
  ah prog 73 [.v (.int .i64 (r:Int)),.v (.int .i64 (c:Int)),.it (.one (.c x))] (.v (str (tbS r c l))):=by
 have n1:=oz r zE
 have n2:=oz c zE
 unfold tbS at hb ⊢;by_cases h0:r=0\/c=0
 ·rw[if_pos h0]at hb ⊢;simp only[zqi]at hb;refine ah.fq func73 fun w0 T B E0 hB=>?_
  by_cases h1:r=0
  ·subst h1;refine zg ?_;refine mX ?_;simp
  ·have h2:=h0.resolve_left h1;subst h2;refine zg ?_;refine mX ?_;simp
 rw[if_neg h0]at hb ⊢;rw[zx6,zqi]at hb;have h1:¬r=0:=fun e=>h0 (.inl e)
 have h2:¬c=0:=fun e=>h0 (.inr e)
 obtain⟨R,hR⟩:∃R,R=(chk c r l).map (jn 44):=⟨_,rfl⟩;rw[<-hR]at hb ⊢;have hRl:R.length=r:=by rw[hR,zq5,ado]
 have cJ:=yD 59 R zE zE
 rw[acz hRl]at cJ;refine ah.fq func73 fun w0 T B E0 hB=>?_
 refine zg ?_;refine W.loop (fun i=>i<=r) (fun i=>[(1,.v (.int .i64 (c:Int))),(2,.it (.one (.c x))),(7,.own 101),(27,.v (.int .i64 (r:Int))),(28,.v (.int .i64 (i:Int)))]) (fun i=>[(101,.row 9 1 i ((R.take i).flatMap txC))]) (fun i=>r - i) 0 (zq8 _) (fun i hi=>?_)
  (by
   refine St.aS [(101,none)] z6 ?_ ?_ rfl
   ·exact yk
   ·exact⟨ay.dw rfl,trivial⟩)
 by_cases h:i < r
 ·obtain⟨ri,hri⟩:∃ri,ri=(l.drop (i*c)).take c:=⟨_,rfl⟩;have hRi:R[i]? =some (jn 44 ri):=by rw[hR,zqa,asQ c r l i h,hri];rfl
  have hm:=aj2 59 (zq4 hRi);have hil:i*c+c<=r*c:=by rw[<-zv8];exact zx1 c h
  have hrl:ri.length=c:=by rw[hri,zx3,zxe];omega
  have cI:=yD 44 ri zE zE
  rw[acz hrl]at cI;have hic:=zxd (show i<=64 by omega) hc
  refine zg ?_;refine W.loop (fun k=>k<=c) (fun k=>[(1,.v (.int .i64 (c:Int))),(2,.it (.one (.c x))),(7,.own 101),(8,.v (.int .i64 (i:Int))),(9,.own 100),(27,.v (.int .i64 (r:Int))),(28,.v (.int .i64 (i:Int))),(31,.v (.int .i64 (c:Int))),(32,.v (.int .i64 (k:Int)))]) (fun k=>[(101,.row 9 1 i ((R.take i).flatMap txC)),(100,.row 9 1 k ((ri.take k).flatMap txC))]) (fun k=>c - k) 0 (zq8 _) (fun k hk=>?_)
   (by
    refine St.aS [(101,some 101),(100,none)] z6 ?_ ?_ rfl
    ·repeat(first|exact trivial|refine⟨⟨_,rfl,aF.same rfl⟩,?_⟩|refine⟨⟨_,rfl,aF.nil rfl⟩,?_⟩|refine⟨⟨_,rfl,aF.own rfl⟩,?_⟩)
    ·exact⟨ay.row rfl rfl rfl rfl,ay.dw rfl,trivial⟩)
  by_cases h3:k < c
  ·obtain⟨s,hs⟩:∃s,ri[k]? =some s:=⟨_,zyh zE⟩
   have hs2:l[i*c+k]? =some s:=by rw[<-avQ (c:=c) h3,<-hri];exact hs
   have cx:=hx (i*c+k) s hs2;refine zg ?_;refine W.next (k+1) h3 zE (by
    refine St.aS [(101,some 101),(100,some 44)] z6 ?_ ?_ rfl
    ·exact ye
    ·exact⟨ay.row rfl rfl rfl rfl,ay.row rfl rfl rfl (abH hs),trivial⟩)
  ·obtain rfl:k=c:=zE
   have e4:ri.take k=ri:=zxc zE
   rw[e4];refine WP.freeze 100 hB rfl ?_;refine zg ?_;refine W.next (i+1) h zE (by
    refine St.aS [(101,some 50)] z6 ?_ ?_ rfl
    ·exact ye
    ·exact⟨ay.row rfl rfl rfl (abH hRi),trivial⟩)
 ·obtain rfl:i=r:=zE
  have e4:R.take i=R:=zxc zE
  rw[e4];refine WP.freeze 101 hB rfl ?_;refine zg ?_;refine mX ?_;simp
def ajq(v:Vl)(hp:v.p < 18446744073709551616)(s:List UInt8)(hs:s.length<=10000000000)(hd:(aQ v.p).length<=1000):ah prog 77 [.agg (vlA v),.v (str s)] (.v (str (mdS s v.p))):=by
 have n1:=oz v.p hp;unfold mdS;refine ah.fq func77 ?_;intros
 refine zg ?_;refine mX ?_;simp
section
variable(v:Vl){i:Nat}
theorem arB{x:ko}(hx:(v.a.map rq)[i]? =some (rq x))(hl:v.a.length<=100000)(c:ah prog 72 [.agg (q4A (rq x))] (.v (str s))):
  ah prog 74 [.v (.int .i64 (i:Int)),.r (dL (vlK v))] (.v (str s)):=by
 have h1:=oL hx;refine ah.fq func74 ?_;intros
 refine zg ?_;exact mX rfl
theorem asG{x:mM}(hx:(v.po.map rz)[i]? =some (rz x))(hl:v.po.length<=100000)(c:ah prog 7 [.agg (z2A (rz x))] (.v (str s))):
  ah prog 76 [.v (.int .i64 (i:Int)),.r (dL (vlK v))] (.v (str s)):=by
 have h1:=oL hx;refine ah.fq func76 ?_;intros
 refine zg ?_;exact mX rfl
theorem aqO{x:Nat}(hx:v.fa[i]? =some x)(hb:x < 18446744073709551616)(hl:v.fa.length<=100000):
  ah prog 78 [.v (.int .i64 (i:Int)),.r (dL (vlK v))] (.v (str (aQ x))):=by
 have h1:=oL hx;have c:=oz x hb;refine ah.fq func78 ?_;intros
 refine zg ?_;exact mX rfl
theorem asV{x:Nat}(hx:v.ri[i]? =some x)(hb:x < 18446744073709551616)(hl:v.ri.length<=100000):
  ah prog 80 [.v (.int .i64 (i:Int)),.r (dL (vlK v))] (.v (str (aQ x))):=by
 have h1:=oL hx;have c:=oz x hb;refine ah.fq func80 ?_;intros
 refine zg ?_;exact mX rfl
end
end
section
def amn{p:Nat}(h:p < WB):(aQ p).length<=21:=ayM h
attribute [local irreducible] IntKind.wrap Go1 Reg WP aK aN bD aZ aJ aA aj ak aT Sat
attribute [local irreducible] cq jn aQ qS zS tS tbS plS mdS
def acg(h:Sh K v)(hK:K<=100000)(hb:(tS v).length<=10000000000):ah prog 45 [.agg (vlA v)] (.v (str (tS v))):=by
 cases h with
 |num x h=>
  rw[afF];have c:=afN h hK;refine ah.fq func45 fun w0 T B E0 hB=>?_
  refine zg ?_;exact mX rfl
 |mat r c vs hl hr hc h=>
  rw[sH]at hb ⊢;have hm:=zxd hr hc;have ml:(dW r c vs).a.length=vs.length:=zq5 _;have cT:=adl (vs.map qS) (.sat (jR 74 [] [.sat (dL (vlK (dW r c vs)))])) rfl (by rw[zq5];exact hl) hr hc hb (fun i s hs=>by
   rw[zqa]at hs
   obtain⟨x,hx,rfl⟩:=zya.1 hs;have cc:=asZ (h x (zq4 hx)) hK;rw[jF]at cc;exact FnV.clo (arB (dW r c vs) (x:=cq x) (by show ((vs.map cq).map rq)[i]? =_;rw[zqa,zqa,hx];rfl) (by rw[ml];omega) cc))
  refine ah.fq func45 fun w0 T B E0 hB=>?_
  refine zg ?_;refine WP.dG 1 hB rfl rfl ?_;refine WP.aG ?_;refine zg ?_;exact mX rfl
 |pol zs hl hn h=>
  rw[ak2]at hb ⊢;have ml:(gP zs).po.length=zs.length:=zq5 _;have hb2:(jn 44 (zs.map zS)).length<=100000000000:=by
   unfold plS at hb;simp only[zqi]at hb;omega
  have cT:=aew (zs.map zS) (.sat (jR 76 [] [.sat (dL (vlK (gP zs)))])) rfl (by rw[zq5];exact hl) hb2 (fun i s hs=>by
   rw[zqa]at hs
   obtain⟨x,hx,rfl⟩:=zya.1 hs;have cc:=av0 (h x (zq4 hx)) hK;rw[pV]at cc;exact FnV.clo (asG (gP zs) (x:=cz x) (by show ((zs.map cz).map rz)[i]? =_;rw[zqa,zqa,hx];rfl) (by rw[ml];omega) cc))
  have e1:(zs.map zS).length=((gP zs).po.map rz).length:=by rw[zq5,zq5,ml]
  rw[e1]at cT;refine ah.fq func45 fun w0 T B E0 hB=>?_
  refine zg ?_;refine WP.dG 1 hB rfl rfl ?_;refine WP.aG ?_;refine zg ?_;exact mX rfl
 |fld p r c l hp hl hr hc h=>
  rw[akn]at hb ⊢;have hm:=zxd hr hc;have hpb:=hp.wb;have hd:=amn hpb;rw[bf]at hpb;have hb2:(tbS r c (l.map aQ)).length<=10000000000:=by
   unfold mdS at hb;simp only[zqi]at hb;omega
  have cT:=adl (l.map aQ) (.sat (jR 78 [] [.sat (dL (vlK (gu p r c l)))])) rfl (by rw[zq5];exact hl) hr hc hb2 (fun i s hs=>by
   rw[zqa]at hs
   obtain⟨x,hx,rfl⟩:=zya.1 hs;have hxp:=h x (zq4 hx);exact FnV.clo (aqO (gu p r c l) hx zE (by show l.length<=_;omega)))
  have cM:=ajq (gu p r c l) hpb (tbS r c (l.map aQ)) hb2 (by show (aQ p).length<=_;omega)
  refine ah.fq func45 fun w0 T B E0 hB=>?_
  refine zg ?_;refine WP.dG 1 hB rfl rfl ?_;refine WP.adr yW ?_
  refine zg ?_;exact mX rfl
 |rng p l hp hl hn h=>
  rw[akH]at hb ⊢;have hpb:=hp.wb;have hd:=amn hpb;rw[bf]at hpb;have hb2:(plS (l.map aQ)).length<=10000000000:=by
   unfold mdS at hb;simp only[zqi]at hb;omega
  have hb3:(jn 44 (l.map aQ)).length<=100000000000:=by
   unfold plS at hb2;simp only[zqi]at hb2;omega
  have cT:=aew (l.map aQ) (.sat (jR 80 [] [.sat (dL (vlK (jS p l)))])) rfl (by rw[zq5];exact hl) hb3 (fun i s hs=>by
   rw[zqa]at hs
   obtain⟨x,hx,rfl⟩:=zya.1 hs;have hxp:=h x (zq4 hx);exact FnV.clo (asV (jS p l) hx zE (by show l.length<=_;omega)))
  have e1:(l.map aQ).length=(jS p l).ri.length:=zq5 _;rw[e1]at cT;have cM:=ajq (jS p l) hpb (plS (l.map aQ)) hb2 (by show (aQ p).length<=_;omega)
  refine ah.fq func45 fun w0 T B E0 hB=>?_
  refine zg ?_;refine WP.dG 1 hB rfl rfl ?_;refine WP.adr yW ?_
  refine zg ?_;exact mX rfl
def apB(l:List Vl)(hl:l.length<=10000)(hb:(jn 44 (l.map tS)).length<=10000000000)(hx:∀x∈l,ah prog 45 [.agg (vlA x)] (.v (str (tS x)))):ah prog 45 [.agg (vlA (pX l))] (.v (str (123::(jn 44 (l.map tS)++[125])))):=by
 have hml:(l.map tS).length=l.length:=zq5 _;have ml:(pX l).li.length=l.length:=rfl;have cJ:=yD 44 (l.map tS) zE zE
 rw[acz hml]at cJ;rw[anf];refine ah.fq func45 fun _ _ _ _ hB=>?_
 refine zg ?_;refine W.loop (fun k=>k<=l.length) (fun k=>[(3,.own 100),(52,.r (aD 15 vlE (pX l).li)),(53,.v (.int .i64 (l.length:Int))),(54,.v (.int .i64 (k:Int)))]) (fun k=>[(100,.row 9 1 k (((l.map tS).take k).flatMap txC))]) (fun k=>l.length - k) 0 (zq8 _) (fun k hk=>?_)
  (by
   refine St.aS [(100,none)] z6 ?_ ?_ rfl
   ·exact yk
   ·exact⟨ay.dw rfl,trivial⟩)
 by_cases h:k < l.length
 ·obtain⟨x,hx'⟩:∃x,l[k]? =some x:=⟨_,zyh h⟩
  have hx2:(pX l).li[k]? =some x:=hx';have c:=hx x (zq4 hx');have hs:(l.map tS)[k]? =some (tS x):=by rw[zqa,hx'];rfl
  refine zg ?_;refine W.next (k+1) h zE (by
   refine St.aS [(100,some 62)] z6 ?_ ?_ rfl
   ·exact ye
   ·exact⟨ay.row rfl rfl rfl (abH hs),trivial⟩)
 ·obtain rfl:k=l.length:=zE
  rw[zxc (by omega:(l.map tS).length<=l.length)]
  refine WP.freeze 100 hB rfl ?_;refine zg ?_;refine mX ?_;simp
def aqv:∀{K:Nat} (n:Nat) {v:Vl},Cv K n v->K<=100000->(tS v).length<=10000000000->ah prog 45 [.agg (vlA v)] (.v (str (tS v))):=by
 intro K n
 induction n with
 |zero=>
  intro v hv hK hb;cases hv with
  |one h=>exact acg h hK hb
 |succ n ih=>
  intro v hv hK hb;cases hv with
  |one h=>exact acg h hK hb
  |lst l hl h=>
   rw[ak9]at hb ⊢;rw[zx6,zqi]at hb;exact apB l hl zE fun x hx=>ih (h x hx) hK (by
    have:=aj2 44 (List.mem_map_of_mem (f:=tS) hx);omega)
end
end
section
attribute [local irreducible] IntKind.wrap Go1 Reg WP aK aN bD aZ aJ aA aj ak aT Sat
def qz(z:Int):Rat:=qv z 1
attribute [local irreducible] qv qz
structure Agr(r c:Nat)(l:List Z2)(lq:List Q4):Prop where
 h:∃zs,MZ l zs 20/\MV lq (zs.map qz) 100
 l:l.length=r*c
 lq:lq.length=r*c
 r:r<=64
 c:c<=64
section
variable{r c r' c':Nat}{l l':List Z2}{zs zs':List Int}(hM:MZ l zs 2)(hl:l.length=r*c)(hM':MZ l' zs' 2)(hl':l'.length=r'*c')(hr:r<=4)(hc:c<=4)(hr':r'<=4)(hc':c'<=4)
include hM hl hM' hl' hr hc hr' hc'
end
section
variable{r c:Nat}{l:List Z2}{zs:List Int}(hM:MZ l zs 2)(hl:l.length=r*c)(hr:r<=4)(hc:c<=4)
include hM hl hr hc
end
end
