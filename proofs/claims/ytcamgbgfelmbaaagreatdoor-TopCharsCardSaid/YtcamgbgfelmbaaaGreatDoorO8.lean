import Derived.Test.YtcamgbgfelmbaaaGreatDoorO4
import Derived.Test.YtcamgbgfelmbaaaGreatDoorO2
set_option linter.all false
open Go.Proofs.Tryz
namespace Go.Proofs.YtcamgbgfelmbaaaGreatDoor
open Go.RowKit QM SX
variable{r:SX.AV}{f:Go.FuncId}{ao:List SX.AV}{l:List UInt8}{i k:Nat}
section
def ah.exR{ι:Type}{P:Program}(args':ι->List AV)(he:∃fn,P.funcs[f]? =some fn/\(fn.name== "runtime.NumGoroutine")=false/\fn.body.isNone=false)(h:∀i,ah P f (args' i) r)(hm:∀E S w vs,aM (AV.has E S w) ao vs->∃i,aM (AV.has E S w) (args' i) vs):ah P f ao r:=
 ⟨he,fun E S w vs hl hg hv h1 h2 h3=>let⟨i,hi⟩:=hm E S w vs hv;(h i).2 E S w vs hl hg hi h1 h2 h3⟩
attribute [local irreducible] IntKind.wrap Go1 Reg WP aK aN bD aZ aJ aA aj ak aT Sat
def wC(w:Nat):List CA:=[.val (.int .u64 (w:Int))]
instance:dY wC 1:=⟨fun _=>rfl⟩
def au0(l:List Nat):(l.map fun x:Nat=>CA.val (.int .u64 (x:Int)))=l.flatMap wC:=by
 induction l with
 |nil=>rfl
 |cons x l ih=>rw[zy6,zq7,ih];rfl
instance afy.raw(l:List Nat):afy (dV l) 1 wC l:=⟨fun S w v h=>by
 have:=(nY.1 h).2;rw[au0]at this;exact this⟩
def abY{l:List Nat}(hs:Sm WB l){S:Nat->Prop}{w:World}{v:Value}(h:(aD 1 wC l).has S w v):(dV l).has S w v:=
 nY.2 ⟨hs,by rw[au0];exact h⟩
def awk{l:List Nat}(hs:Sm WB l):AV0.imp (.one (.c (.sat (aD 1 wC l)))) (.one (.c (.sat (dV l)))):=fun E S w v h=>abY hs h
def lawN{l:List Nat}(he:∃fn,prog.funcs[f]? =some fn/\(fn.name== "runtime.NumGoroutine")=false/\fn.body.isNone=false)(hf:Sm WB l->ah prog f (.r (dV l)::ao) r):ah prog f (.r (dV l)::ao) r:=by
 refine ah.fact (φ:=Sm WB l) he hf fun E S w vs hv=>?_
 match vs,hv with
 |x::xs,⟨h1,h2⟩=>exact⟨⟨h1,h2⟩,(dV.rn h1).sm⟩
def aeB(l:List Nat)(hl:l.length<=4398046511104):ah prog 49 [.r (dV l)] (.r (dV (l.take (aO l)))):=by
 refine lawN ⟨_,func49,rfl,rfl⟩ fun hs=>?_
 refine ah.fq func49 ?_;intros
 refine zg ?_;refine W.loop (fun n=>aO l<=n/\n<=l.length) (fun n=>[(0,.r (dV l)),(3,.v (.int .i64 (n:Int)))]) (fun _=>[]) (fun n=>n) l.length ⟨dI l,zq6 _⟩ (fun n ⟨h1,h2⟩=>?_)
 have fin:n=aO l->AV0.imp (.one (.c (.sat (aD 1 wC (l.take n))))) (.one (.c (.sat (dV (l.take (aO l)))))):=fun e=>by rw[e];exact awk (hs.take _)
 cases n with
 |zero=>
  refine zg ?_;exact aaH (fin zE)
 |succ m=>
  obtain⟨w,hw⟩:∃w,l[m]? =some w:=⟨_,zyh zE⟩
  have hg:l.getD m 0=w:=by rw[zx7,hw];rfl
  have hw':l[m+1 - 1]? =some w:=hw;by_cases hz:aO l=m+1
  ·have hw0:w≠0:=by
    have:=vR (l:=l) zE
    rw[hz,show m+1 - 1=m by omega,hg]at this;exact this
   refine zg ?_;exact aaH (fin hz.symm)
  ·have hw0:w=0:=by rw[<-hg];exact j6 zE
   refine zg ?_;exact W.next m ⟨zE,zE⟩ zE
def as8{l:List Nat}(hs:Sm WB l):l.take (aO l)=wds (nval WB l):=by
 have:=yY (hs.take (aO l)) (uT l);rw[dA]at this;exact this
def ah2(l:List Nat)(hl:l.length<=4398046511104):ah prog 59 [.r (dV l)] (.r (bI (nval WB l))):=by
 refine lawN ⟨_,func59,rfl,rfl⟩ fun hs=>?_
 have cT:=aeB l hl;rw[as8 hs]at cT;have hn:=abp (nval WB l);have hv:=rC (nval WB l);refine ah.fq func59 ?_;intros
 by_cases h0:(wds (nval WB l)).length=0
 ·refine zg ?_;exact aJ.ok (aA.mk1 ((aj.tmp rfl).imp (fun E S w v h=>by
   rw[show v=_ from h,show nval WB l=0 from (tQ _).1 h0];exact bI.zero)))
 ·refine zg ?_;exact aJ.ok (aA.mk1 (aj.imp (x:= .one (.c (.sat (dV (wds (nval WB l)))))) (aj.tmp rfl) (fun E S w v h=>ach.2 ⟨_,hn,hv,fun e=>absurd (by rw[e];rfl) h0,h⟩)))
def mac1{y w c:Nat}(hy:y < WB)(hw:w < WB)(hc:c < WB):
  gK (y*w)+gK (bV (y*w)+c) < WB/\y*w+c=bV (bV (y*w)+c)+WB*(gK (y*w)+gK (bV (y*w)+c)):=by
 have h1:=abf (y*w);have h2:=abf (bV (y*w)+c);have hm:y*w<=(WB - 1)*(WB - 1):=zxd zE zE
 refine⟨?_,?_⟩
 ·rw[bf]at*;omega
 ·rw[Nat.mul_add];omega
def ao3(x y:Nat)(hx:x < WB)(hy:y < WB):ah prog 184 [.v (.int .u64 (x:Int)),.v (.int .u64 (y:Int))] (.tup [.one (.c (.val (.int .u64 ((gK (x*y):Nat):Int)))),.one (.c (.val (.int .u64 ((bV (x*y):Nat):Int))))]):=
 ah.iU ⟨_,func184,rfl,rfl⟩ rfl fun E S w vs hl hv=>by
  have hvs:=SX.acS (ao:=[.int .u64 (x:Int),.int .u64 (y:Int)]) hv;subst hvs;exact(uW x y hx hy w).mono fun e w' ⟨h1,h2⟩=>⟨_,h1,⟨_,rfl,rfl,rfl,trivial⟩,by subst h2;exact Off.refl _ _⟩
def auK(n:Nat):List.replicate n (CA.val (.int .u64 0))=(([]:List Nat)++List.replicate (n - 0) 0).flatMap wC:=by
 rw[zvd,Nat.sub_zero]
 induction n with
 |zero=>rfl
 |succ n ih=>rw[List.replicate_succ,List.replicate_succ,zq7,ih];rfl
attribute [local irreducible] gK bV
def ahl(l:List Nat)(hl:l.length<=1000000000)(y z:Nat)(hy:y < WB)(hz:z < WB):ah prog 211 [.r (dV l),.v (.int .u64 (y:Int)),.v (.int .u64 (z:Int))] (.r (bI (nval WB l*y+z))):=by
 refine lawN ⟨_,func211,rfl,rfl⟩ fun hs0=>?_
 have cT:=aeB l zE
 have hs:=hs0.take (aO l);have hv:=dA (B:=WB) l;have hUl:(l.take (aO l)).length<=1000000000:=by rw[zx3];omega
 rw[<-hv];generalize l.take (aO l)=U at*;clear hv hs0;have e0:=auK (U.length+1);refine ah.fq func211 fun _ _ B _ hB=>?_
 refine zg ?_;refine W.aht (fun(k c:Nat) (ws:List Nat)=>k<=U.length/\ws.length=k/\c < WB/\Sm WB ws/\nval WB ws+WB ^ k*c=nval WB (U.take k)*y+z)
  (fun k c ws=>[(0,.r (dV U)),(1,.v (.int .u64 (y:Int))),(7,.own 100),(8,.v (.int .u64 (c:Int))),(21,.r (dV U)),(22,.v (.int .i64 (U.length:Int))),(23,.v (.int .i64 (k:Int)))])
  (fun k c ws=>[(100,.row 35 1 (U.length+1) ((ws++List.replicate (U.length+1 - k) 0).flatMap wC))]) (fun k _ _=>U.length - k) 0 z [] ⟨zq8 _,rfl,hz,Sm.nil,by simp[nval]⟩ (fun k c ws ⟨hk,hw,hc,hsm,hval⟩=>?_)
 by_cases hlt:k < U.length
 ·obtain⟨w,hw'⟩:∃w,U[k]? =some w:=⟨_,zyh hlt⟩
  have hwb:w < WB:=hs w (zq4 hw');have hm:=mac1 hy hwb hc;have hm1:=hm.1;rw[bf]at hm1;have cM:=ao3 y w hy hwb;have e:spl ((ws++List.replicate (U.length+1 - k) 0).flatMap wC) (k*1) [.val (.int .u64 ((bV (bV (y*w)+c):Nat):Int))]=((ws++[bV (bV (y*w)+c)])++List.replicate (U.length+1 - (k+1)) 0).flatMap wC:=by
   rw[show [CA.val (.int .u64 ((bV (bV (y*w)+c):Nat):Int))]=wC (bV (bV (y*w)+c))from rfl,tN _ _ _ (by simp;omega)]
   congr 1
   rw[List.set_append_right _ _ zE,hw,Nat.sub_self,show U.length+1 - k=(U.length+1 - (k+1))+1 by omega,List.replicate_succ]
   simp
  refine zg ?_;refine SX.Go1.callE (ao:=[.int .u64 ((bV (y*w):Nat):Int),.int .u64 (c:Int),.int .u64 0]) (vs:=[.int .u64 ((bV (bV (y*w)+c):Nat):Int),.int .u64 ((gK (bV (y*w)+c):Nat):Int)]) rfl (fun w=>lg _ _ w) rfl ?_
  refine zg ?_;refine W.afn (k+1) (gK (y*w)+gK (bV (y*w)+c)) (ws++[bV (bV (y*w)+c)]) ⟨zE,by simp;omega,hm.1,hsm.append (Sm.cons (by unfold bV WB;exact zyi _ zc) Sm.nil),?_⟩ zE
  have hg:U.getD k 0=w:=by rw[zx7,hw'];rfl
  rw[gT,kJ,hg,hw,zy5];have hm2:=hm.2;generalize bV (bV (y*w)+c)=s at*;generalize gK (y*w)+gK (bV (y*w)+c)=c' at*;rw[zyf];generalize WB ^ k=p at*;generalize nval WB ws=a at*;generalize nval WB (U.take k)=b at*
  grind
 ·obtain rfl:k=U.length:=zE
  rw[zy8]at hval;have hlen:(ws++[c]).length=U.length+1:=by simp;omega
  have hsm':Sm WB (ws++[c]):=hsm.append (Sm.cons hc Sm.nil);have hvn:nval WB (ws++[c])=nval WB U*y+z:=by rw[gT,hw];exact hval
  have cN:=ah2 (ws++[c]) zE
  rw[hvn]at cN;have cN':ah prog 59 [.r (aP 1 (U.length+1) ((ws++[c]).flatMap wC))] (.r (bI (nval WB U*y+z))):=by
   refine ah.args cN fun E S w vs hv=>?_
   match vs,hv with
   |[v],⟨h1,_⟩=>exact⟨abY hsm' (by show (aP 1 (ws++[c]).length _).has S w v;rw[hlen];exact h1),trivial⟩
  have e:spl ((ws++List.replicate (U.length+1 - U.length) 0).flatMap wC) (U.length*1) [.val (.int .u64 (c:Int))]=(ws++[c]).flatMap wC:=by
   rw[show [CA.val (.int .u64 (c:Int))]=wC c from rfl,tN _ _ _ (by simp;omega)]
   congr 1
   rw[List.set_append_right _ _ zE,hw,Nat.sub_self,show U.length+1 - U.length=1 by omega]
   rfl
  refine WP.seq ?_;refine WP.aG ?_;refine goR ?_;first|refine SX.Reg.nil ⟨yW,?_⟩|refine SX.Reg.nil ?_
  refine SX.aiK ?_;refine WP.seq ?_;refine SX.W.adK ?_;refine WP.exit ?_;repeat(first|refine SX.aty ?_|refine SX.aiK ?_|refine SX.akp ?_)
  refine WP.seq ?_;refine WP.aG ?_;refine goR ?_;first|refine SX.Reg.nil ⟨yW,?_⟩|refine SX.Reg.nil ?_
  refine SX.aiK ?_;rw[<-e]at cN';refine WP.freeze 100 hB rfl ?_;refine zg ?_;exact aaH (z7 _)
instance akl{a:CA}{x k:Nat}[ha:NI a x k](y z:Nat):Con prog 211 [.it (.one (.c a)),.v (.int .u64 (y:Int)),.v (.int .u64 (z:Int))] (k<=1000000000/\y < WB/\z < WB) (.r (bI (x*y+z))):=⟨fun⟨hk,hy,hz⟩=>
 ah.exR (ι:={l:List Nat // nval WB l=x/\l.length<=k}) (fun i=>[.r (dV i.1),.v (.int .u64 (y:Int)),.v (.int .u64 (z:Int))]) ⟨_,func211,rfl,rfl⟩
  (fun i=>by
   have:=ahl i.1 (zxf i.2.2 hk) y z hy hz;rw[i.2.1]at this;exact this)
  (fun E S w vs hv=>by
   match vs,hv with
   |u::us,⟨h1,h2⟩=>
    obtain⟨l,e1,e2,e3⟩:=yM.1 (ha.p S w u h1);exact⟨⟨l,e1,e2⟩,e3,h2⟩)⟩
end
attribute [local irreducible] IntKind.wrap Go1 Reg WP aK aN bD aZ aJ aA aj ak aT Sat
section
def isD(c:UInt8):Bool:=decide (48<=c.toNat/\c.toNat<=57)
def isN(l:List UInt8):Bool:=decide (1<=l.length/\l.length<=20000/\(l.length=1\/(byt l 0).toNat≠48))&&l.all isD
def atc(p:UInt8->Bool)(l:List UInt8)(k:Nat)(h:k < l.length):(l.drop k).all p=(p (byt l k)&&(l.drop (k+1)).all p):=by
 rw[zy4 h];have:byt l k=l[k]:=by simp[byt,h]
 rw[this];rfl
instance amZ(l:List UInt8):Con prog 210 [.v (str l)] (l.length<=1000000000) (.v (.bool (isN l))):=⟨fun hl=>by
 refine ah.fq func210 ?_;intros
 repeat'(first|refine zg ?_|refine SX.W.ite (fun h=>?_) (fun h=>?_)|refine SX.W.iteN (fun h=>?_) (fun h=>?_)|refine SX.W.gD (fun h=>?_) (fun h=>?_)|refine SX.R.ite (fun h=>?_) (fun h=>?_)|refine SX.R.iteN (fun h=>?_) (fun h=>?_)|refine SX.R.gD (fun h=>?_) (fun h=>?_))
 all_goals(first|(refine aU ?_;rw[eq_comm];unfold isN;rw[Bool.and_eq_false_iff];refine .inl (decide_eq_false fun hn=>?_);omega)|skip)
 all_goals
  have hb:decide (1<=l.length/\l.length<=20000/\(l.length=1\/(byt l 0).toNat≠48))=true:=decide_eq_true zE
  refine W.loop (fun k=>k<=l.length/\isN l=(l.drop k).all isD) (fun k=>[(0,.v (str l)),(23,.v (.int .i64 (l.length:Int))),(24,.v (.int .i64 (k:Int)))]) (fun _=>[]) (fun k=>l.length - k) 0 ⟨zq8 _,by unfold isN;rw[hb];rfl⟩ (fun k ⟨hk,hn⟩=>?_)
  have hs:=atc isD l k
  repeat'(first|refine zg ?_|refine SX.W.ite (fun h=>?_) (fun h=>?_)|refine SX.W.iteN (fun h=>?_) (fun h=>?_)|refine SX.W.gD (fun h=>?_) (fun h=>?_)|refine SX.R.ite (fun h=>?_) (fun h=>?_)|refine SX.R.iteN (fun h=>?_) (fun h=>?_)|refine SX.R.gD (fun h=>?_) (fun h=>?_))
  all_goals first
   |(refine aU ?_;rw[hn,hs zE,show isD (byt l k)=false from decide_eq_false zE];rfl)
   |exact W.next (k+1) ⟨zE,by rw[hn,hs zE,show isD (byt l k)=true from decide_eq_true zE];rfl⟩ zE
   |(refine aU ?_;rw[hn,List.drop_eq_nil_of_le zE];rfl)⟩
def dval(l:List UInt8):Nat:=l.foldl (fun n c=>10*n+(c.toNat - 48)) 0
def ze:∀(l:List UInt8) (n:Nat),l.foldl (fun n c=>10*n+(c.toNat - 48)) n=n*10 ^ l.length+dval l
 |[],n=>by simp[dval]
 |c::l,n=>by
  have h1:=ze l (10*n+(c.toNat - 48));have h2:=ze l (10*0+(c.toNat - 48));unfold dval at*;rw[List.foldl_cons,List.foldl_cons,h1,h2,zx6,zyf];generalize 10 ^ l.length=p
  grind
def au2(l m:List UInt8):dval (l++m)=dval l*10 ^ m.length+dval m:=by
 conv=>lhs;unfold dval
 rw[List.foldl_append,ze];rfl
def anx:∀{l:List UInt8},l.all isD=true->dval l < 10 ^ l.length:=by
 intro l
 induction l with
 |nil=>intro _;simp[dval]
 |cons c l ih=>
  intro h;rw[List.all_cons,zx4]at h;have h1:=ih h.2;have h2:48<=c.toNat/\c.toNat<=57:=of_decide_eq_true h.1;have:=ze l (10*0+(c.toNat - 48));unfold dval;rw[List.foldl_cons,this,zx6,zyf];generalize 10 ^ l.length=p at*;have:(10*0+(c.toNat - 48))*p<=9*p:=zx1 _ zE
  omega
def av6(h:l.all isD=true)(hi:i < l.length):48<=(byt l i).toNat/\(byt l i).toNat<=57:=by
 have hb:byt l i=l[i]:=by simp[byt,hi]
 rw[hb];exact of_decide_eq_true (zqh.1 h _ (List.getElem_mem hi))
def aft(l:List UInt8)(c:UInt8):dval (l++[c])=10*dval l+(c.toNat - 48):=by
 unfold dval;rw[List.foldl_append];rfl
def ale(hi:i < l.length):l.take (i+1)=l.take i++[byt l i]:=by
 have hb:byt l i=l[i]:=by simp[byt,hi]
 rw[zw7,zyh hi,hb];rfl
def p18{n:Nat}(h:n<=18):10 ^ n<=1000000000000000000:=zx2 (n:=10) zc h
def alr(h:l.all isD=true):dval l < WB ^ l.length:=
 zqf (anx h) (Nat.pow_le_pow_left (by rw[bf];decide) _)
attribute [local irreducible] isN dval
def aqw:AV0.imp (.one (.c (.val (.slice none 0 0)))) (.one (.c (.sat (bI 0)))):=fun E S w v h=>by
 rw[show v=_ from h];exact bI.zero
def amG(h:isN l=true):l.all isD=true/\1<=l.length/\l.length<=20000:=by
 unfold isN at h;rw[zx4,decide_eq_true_iff]at h;exact⟨h.2,h.1.1,h.1.2.1⟩
def tK:dval []=0:=by unfold dval;rfl
def atW{c:UInt8}(h:48<=c.toNat/\c.toNat<=57):IntKind.u8.wrap ((c.toNat:Int) - 48)=((c.toNat - 48:Nat):Int):=by
 rw[IntKind.wrap_u8];omega
def apy(l:List UInt8)(hl:l.length<=1000000000):ah prog 192 [.v (str l)] (.tup [.one (.c (.sat (bI (if isN l=true then dval l else 0)))),.one (.c (.val (.bool (isN l))))]):=by
 cases hN:isN l with
 |false=>
  have ci:=(amZ l).h hl;rw[hN]at ci;refine ah.fq func192 fun w0 T B E0 hB=>?_
  refine zg ?_;exact sO (aj.tmp rfl) (aj.tmp rfl) (by rw[if_neg zp];exact aqw) (z7 _)
 |true=>
  have ci:=(amZ l).h hl;rw[hN]at ci;obtain⟨hD,hL1,hL⟩:=amG hN;refine ah.fq func192 fun w0 T B E0 hB=>?_
  refine zg ?_;refine W.aht (fun(k:Nat) (n:Nat) (A:CA)=>k<=l.length/\n=dval (l.take k)/\(k=0\/(l.length - k) % 18=0)/\((k=0/\A= .val (.slice none 0 0))\/A= .sat (bI n))) (fun k n A=>[(0,.v (str (l.drop k))),(4,.it (.one (.c A)))]) (fun _ _ _=>[]) (fun k _ _=>l.length - k) 0 0 (.val (.slice none 0 0)) ⟨zq8 _,by rw[List.take_zero,tK],.inl rfl,.inl ⟨rfl,rfl⟩⟩ (fun k n A ⟨hk,hn,hk18,hA⟩=>?_)
  have hdl:(l.drop k).length=l.length - k:=zxe;by_cases hlt:k < l.length
  ·obtain⟨m,hm⟩:∃m,((l.drop k).length - 1) % 18+1=m:=⟨_,rfl⟩;have hm18:m<=18:=zE
   have hml:m<=(l.drop k).length:=zE
   have hDk:(l.drop k).all isD=true:=by
    rw[zqh]at*;intro c hc;exact hD c (zw9 hc)
   have hmm:m=18\/k=0:=by
    rcases hk18 with h|h
    ·exact .inr h
    ·left;omega
   have bn:BdN n k:=⟨by
    rw[hn];have:=alr (l:=l.take k) (by rw[zqh]at*;intro c hc;exact hD c (zv3 hc))
    rwa [zx3,zv9 hk]at this⟩
   have hNI:NI A n k:=by
    rcases hA with⟨h0,rfl⟩|rfl
    ·have:n=0:=by rw[hn,h0,List.take_zero,tK]
     subst this;subst h0;exact NI.nil
    ·infer_instance
   refine zg ?_;refine W.nu (fun(i x:Nat)=>i<=m/\x=dval ((l.drop k).take i)) (fun i x=>[(0,.v (str (l.drop k))),(4,.it (.one (.c A))),(5,.v (.int .i64 (m:Int))),(6,.v (.int .u64 (x:Int))),(19,.v (.int .i64 (m:Int))),(20,.v (.int .i64 (i:Int)))]) (fun _ _=>[]) (fun i _=>m - i) 0 0 ⟨zq8 _,by rw[List.take_zero,tK]⟩ (fun i x ⟨hi,hx⟩=>?_)
   have hxl:x < 10 ^ i:=by
    have:=anx (l:=(l.drop k).take i) (by rw[zqh]at*;intro c hc;exact hDk c (zv3 hc))
    rwa [<-hx,zx3,zv9 zE]at this
   by_cases hil:i < m
   ·have hx17:x < 1000000000000000000:=zqf hxl (p18 zE)
    have hbd:=av6 hDk (show i < (l.drop k).length by omega)
    have hw:=atW hbd;refine zg ?_;refine W.mV (i+1) (10*x+((byt (l.drop k) i).toNat - 48)) ⟨zE,?_⟩ zE
    rw[ale zE,aft,<-hx]
   ·obtain rfl:i=m:=zE
    have hxw:x < WB:=Nat.lt_trans (zqf hxl (p18 hm18)) (by rw[bf];decide)
    have cM:ah prog 211 [.it (.one (.c A)),.v (.int .u64 1000000000000000000),.v (.int .u64 (x:Int))] (.r (bI (n*1000000000000000000+x))):=(akl (ha:=hNI) 1000000000000000000 x).h ⟨zE,by rw[bf];decide,hxw⟩
    have ed:List.drop i (List.drop k l)=List.drop (k+i) l:=by rw[List.drop_drop]
    refine zg ?_;refine W.afn (k+i) (n*1000000000000000000+x) (.sat (bI (n*1000000000000000000+x))) ⟨zE,?_,?_,.inr rfl⟩ zE
    ·have et:l.take (k+i)=l.take k++(l.drop k).take i:=by rw[List.take_add]
     rw[et,au2,<-hn,<-hx,zx3,zv9 zE]
     rcases hmm with h|h
     ·rw[h]
     ·have:n=0:=by rw[hn,h,List.take_zero,tK]
      rw[this];simp
    ·right;omega
  ·have hn':n=dval l:=by rw[hn,zxc zE]
   have hA':A= .sat (bI (dval l)):=by
    rcases hA with⟨h0,_⟩|h
    ·omega
    ·rw[h,hn']
   subst hA';refine zg ?_;exact sO (aj.tmp rfl) (aj.tmp rfl) (by rw[if_pos rfl];exact z7 _) (z7 _)
end
section
def anW{d:Nat}(h:d < 10):isD (UInt8.ofNat (48+d))=true/\(UInt8.ofNat (48+d)).toNat - 48=d:=by
 have e:(UInt8.ofNat (48+d)).toNat=48+d:=by rw[UInt8.toNat_ofNat'];omega
 exact⟨decide_eq_true zE,zE⟩
def zQ(x:Nat):(dig x).all isD=true/\dval (dig x)=x/\(x≠0->(byt (dig x) 0).toNat≠48/\1<=(dig x).length):=by
 induction x using Nat.strongRecOn with
 |_ x ih=>
  by_cases h0:x=0
  ·subst h0;rw[kP];exact⟨rfl,tK,fun h=>absurd rfl h⟩
  ·obtain⟨h1,h2,h3⟩:=ih (x / 10) zE
   have hd:=anW (d:=x % 10) zE
   rw[qX h0];refine⟨by rw[List.all_append,h1,List.all_cons,hd.1];rfl,by rw[aft,h2,hd.2];omega,fun _=>⟨?_,by simp⟩⟩
   by_cases hq:x / 10=0
   ·rw[hq,kP];show (UInt8.ofNat (48+x % 10)).toNat≠48;rw[UInt8.toNat_ofNat'];omega
   ·have h4:=h3 hq;have:byt (dig (x / 10)++[UInt8.ofNat (48+x % 10)]) 0=byt (dig (x / 10)) 0:=by
     unfold byt;rw[zx7,zx7,zyj zE]
    rw[this];exact h4.1
def arO(h:l.all isD=true)(h1:1<=l.length)(h2:l.length<=20000)(h3:l.length=1\/(byt l 0).toNat≠48):isN l=true:=by
 unfold isN;rw[zx4,decide_eq_true_iff];exact⟨⟨h1,h2,h3⟩,h⟩
def atF{x:Nat}(h:x < WB ^ k)(hk:k<=900):isN (aQ x)=true/\dval (aQ x)=x:=by
 have hl:(aQ x).length<=20*k+1:=by
  unfold aQ
  split
  ·simp
  ·have:WB ^ k<=10 ^ (20*k):=by rw[Nat.pow_mul];exact Nat.pow_le_pow_left (by rw[bf];decide) _
   have:=afT (zqf h this);omega
 unfold aQ at*;by_cases h0:x=0
 ·subst h0;rw[if_pos rfl]at*;exact⟨arO zc zc zc (.inl rfl),by unfold dval;rfl⟩
 ·rw[if_neg h0]at*;have hf:=zQ x;exact⟨arO hf.1 (hf.2.2 h0).2 zE (.inr (hf.2.2 h0).1),hf.2.1⟩
section
def take1(l:List UInt8):l.take 1=[45]↔∃m,l=45::m:=by
 cases l with
 |nil=>simp
 |cons c m=>simp
def ngB(l:List UInt8):Bool:=decide (l.take 1=[45])
def mdB(l:List UInt8):List UInt8:=if ngB l then l.drop 1 else l
def agk(l:List UInt8):Bool:=isN (mdB l)&&!(ngB l&&decide (dval (mdB l)=0))
def zPv(l:List UInt8):Int:=if agk l then sgn (ngB l) (dval (mdB l))else 0
def awU(l:List UInt8):(mdB l).length<=l.length:=by
 unfold mdB;split
 ·rw[zxe];omega
 ·exact zq6 _
def atJ{x:Nat}(h:x≠0):∃c m,dig x=c::m/\c≠45:=by
 have hf:=zQ x;have h1:=(hf.2.2 h).2
 match hd:dig x,h1 with
 |c::m,_=>
  rw[hd,List.all_cons,zx4]at hf;have h2:48<=c.toNat/\c.toNat<=57:=of_decide_eq_true hf.1.1;exact⟨c,m,rfl,fun e=>by rw[e]at h2;exact absurd h2.1 zc⟩
def ao5(x:Nat):ngB (aQ x)=false:=by
 unfold ngB;refine decide_eq_false fun h=>?_
 obtain⟨m,hm⟩:=(take1 _).1 h;unfold aQ at hm
 split at hm
 ·cases hm
 ·rename_i h0;obtain⟨c,m',e,hc⟩:=atJ h0;rw[e]at hm;cases hm;exact hc rfl
def asW{z:Int}(h:Bd z k)(hk:k<=900):agk (zS z)=true/\zPv (zS z)=z:=by
 have hd:=atF h.h hk;have key:agk (zS z)=true/\ngB (zS z)=decide (z < 0)/\mdB (zS z)=aQ z.natAbs:=by
  by_cases hz:z < 0
  ·have e:zS z=45::aQ z.natAbs:=by unfold zS;rw[if_pos hz]
   have hn:ngB (zS z)=true:=by rw[e];unfold ngB;exact decide_eq_true rfl
   have hm:mdB (zS z)=aQ z.natAbs:=by unfold mdB;rw[hn,if_pos rfl,e];rfl
   refine⟨?_,by rw[hn,decide_eq_true hz],hm⟩
   unfold agk;rw[hm,hn,hd.1,hd.2,decide_eq_false zE];rfl
  ·have e:zS z=aQ z.natAbs:=by unfold zS;rw[if_neg hz]
   have hn:ngB (zS z)=false:=by rw[e];exact ao5 _
   have hm:mdB (zS z)=aQ z.natAbs:=by unfold mdB;rw[hn,if_neg zp,e]
   refine⟨?_,by rw[hn,decide_eq_false hz],hm⟩
   unfold agk;rw[hm,hn,hd.1];rfl
 refine⟨key.1,?_⟩;unfold zPv;rw[if_pos key.1,key.2.1,key.2.2,hd.2,af0]
attribute [local irreducible] isN dval aQ zS sgn
def ajI(l:List UInt8):ah prog 238 [.v (str l),.v (str [45])] (.v (.bool (ngB l))):=by
 refine ah.fq func238 ?_;intros
 by_cases h1:1<=l.length
 ·have hk:([45]:List UInt8).length<=l.length:=h1;refine zg ?_;exact aU rfl
 ·have hk:¬([45]:List UInt8).length<=l.length:=h1;refine zg ?_;refine aU ?_;rw[eq_comm];exact decide_eq_false (fun h=>by obtain⟨m,rfl⟩:=(take1 l).1 h;simp at h1)
def ahA(l:List UInt8):ah prog 209 [.v (str l),.v (str [45])] (.tup [.one (.c (.val (str (mdB l)))),.one (.c (.val (.bool (ngB l))))]):=by
 have cH:=ajI l;refine ah.fq func209 ?_;intros
 cases hn:ngB l with
 |true=>
  rw[hn]at cH;have h1:1<=l.length:=by
   obtain⟨m,rfl⟩:=(take1 l).1 (of_decide_eq_true hn);simp
  refine zg ?_;rw[show mdB l=l.drop 1 by unfold mdB;rw[hn,if_pos rfl]]
  exact ret2 rfl rfl
 |false=>
  rw[hn]at cH;refine zg ?_;rw[show mdB l=l by unfold mdB;rw[hn,if_neg zp]]
  exact ret2 rfl rfl
def aj5(l:List UInt8):ah prog 191 [.v (str l),.v (str [45])] (.tup [.one (.c (.val (str (mdB l)))),.one (.c (.val (.bool (ngB l))))]):=by
 have cH:=ahA l;refine ah.fq func191 ?_;intros
 refine zg ?_;exact ret2 rfl rfl
def ajQ(l:List UInt8)(hl:l.length<=1000000000):ah prog 154 [.v (str l)] (.tup [.agg (zN (zPv l)),.one (.c (.val (.bool (agk l))))]):=by
 have cC:=aj5 l;have hml:=awU l;have cP:=apy (mdB l) zE
 have hp:agk l=(isN (mdB l)&&!(ngB l&&decide (dval (mdB l)=0))):=by unfold agk;rfl
 have hv:zPv l=if agk l then sgn (ngB l) (dval (mdB l))else 0:=by unfold zPv;rfl
 generalize mdB l=m at*;generalize ngB l=b at*;cases hN:isN m with
 |false=>
  rw[hN,if_neg zp]at cP
  rw[hN,Bool.false_and]at hp;rw[hp,if_neg zp]at hv
  refine ah.fq func154 fun w0 T B E0 hB=>?_
  refine zg ?_;rw[hp,hv];exact sO aj.fK (aj.tmp rfl) zH (z7 _)
 |true=>
  rw[hN,if_pos rfl]at cP;rw[hN,Bool.true_and]at hp;have bd:BdN (dval m) m.length:=⟨alr (amG hN).1⟩;have hw:=tQ (dval m);have cF:=qV (a:= .sat (bI (dval m))) b (show m.length<=1099511627775 by omega)
  cases hb:b with
  |false=>
   rw[hb]at cC cF hp hv;rw[Bool.false_and,Bool.not_false]at hp;rw[hp,if_pos rfl]at hv;refine ah.fq func154 fun w0 T B E0 hB=>?_
   refine zg ?_;rw[hp,hv];exact sO aj.fK (aj.tmp rfl) (z7 _) (z7 _)
  |true=>
   rw[hb]at cC cF hp hv;by_cases h0:dval m=0
   ·rw[decide_eq_true h0]at hp;rw[hp,if_neg zp]at hv
    refine ah.fq func154 fun w0 T B E0 hB=>?_
    refine zg ?_;rw[hp,hv];exact sO aj.fK (aj.tmp rfl) zH (z7 _)
   ·rw[decide_eq_false h0]at hp;rw[hp,if_pos zp]at hv
    refine ah.fq func154 fun w0 T B E0 hB=>?_
    refine zg ?_;rw[hp,hv];exact sO aj.fK (aj.tmp rfl) (z7 _) (z7 _)
end
end
