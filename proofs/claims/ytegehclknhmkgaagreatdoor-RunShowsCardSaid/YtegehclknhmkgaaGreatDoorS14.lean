import Derived.Test.YtegehclknhmkgaaGreatDoorS7
import Derived.Test.YtegehclknhmkgaaGreatDoorS4
set_option linter.unusedVariables false
set_option linter.unusedSimpArgs false
open Go.Proofs.Tryz
namespace Go.Proofs.YtegehclknhmkgaaGreatDoor
open Go.RowKit QM SX
section
theorem ah.exR{ι:Type}{P:Program}{f:FuncId}{args:List AV}{r:AV}(args':ι→List AV)(he:∃fn,P.funcs[f]? =some fn∧(fn.name== "runtime.NumGoroutine")=false∧fn.body.isNone=false)(h:∀i,ah P f (args' i) r)
  (hm:∀E S w vs,aK (AV.has E S w) args vs→∃i,aK (AV.has E S w) (args' i) vs):ah P f args r:=
 ⟨he,fun E S w vs hl hg hv h1 h2 h3=>let⟨i,hi⟩:=hm E S w vs hv;(h i).2 E S w vs hl hg hi h1 h2 h3⟩
attribute [local irreducible] IntKind.wrap Go1 Reg WP aS aT bR bO aQ aC ak aj aX Sat
def wC(w:Nat):List CA:=[.val (.int .u64 (w:Int))]
instance:dO wC 1:=⟨fun _=>rfl⟩
theorem amY(l:List Nat):(l.map fun x:Nat=>CA.val (.int .u64 (x:Int)))=l.flatMap wC:=by
 induction l with
 |nil=>rfl
 |cons x l ih=>rw[List.map_cons,List.flatMap_cons,ih];rfl
instance acC.raw(l:List Nat):acC (dN l) 1 wC l:=⟨fun S w v h=>by
 have:=(nR.1 h).2;rw[amY]at this;exact this⟩
theorem zG{l:List Nat}(hs:Sm WB l){S:Nat→Prop}{w:World}{v:Value}(h:(aA 1 wC l).has S w v):(dN l).has S w v:=
 nR.2 ⟨hs,by rw[amY];exact h⟩
theorem aq2{l:List Nat}(hs:Sm WB l):AV0.imp (.one (.c (.sat (aA 1 wC l)))) (.one (.c (.sat (dN l)))):=fun E S w v h=>zG hs h
theorem lawN{f:FuncId}{l:List Nat}{args:List AV}{r:AV}(he:∃fn,prog.funcs[f]? =some fn∧(fn.name== "runtime.NumGoroutine")=false∧fn.body.isNone=false)
  (hf:Sm WB l→ah prog f (.r (dN l)::args) r):ah prog f (.r (dN l)::args) r:=by
 refine ah.fact (φ:=Sm WB l) he hf fun E S w vs hv=>?_
 match vs,hv with
 |x::xs,⟨h1,h2⟩=>exact⟨⟨h1,h2⟩,(dN.rn h1).sm⟩
theorem acK(l:List Nat)(hl:l.length≤4398046511104):ah prog 70 [.r (dN l)] (.r (dN (l.take (aL l)))):=by
 refine lawN ⟨_,func70,rfl,rfl⟩ fun hs=>?_
 refine ah.fnF func70 results70 ntmps70 rfl rfl rfl (by simp[AV.ids,AV0.ids,Atom.ids]) rfl (fun w0 T B E0 hB=>?_)
 refine SX.goM ?_;refine W.loop (fun n=>aL l≤n∧n≤l.length) (fun n=>[(0,.r (dN l)),(3,.v (.int .i64 (n:Int)))]) (fun _=>[]) (fun n=>n) l.length ⟨dx l,Nat.le_refl _⟩ (fun n ⟨h1,h2⟩=>?_)
 have fin:n=aL l→AV0.imp (.one (.c (.sat (aA 1 wC (l.take n))))) (.one (.c (.sat (dN (l.take (aL l)))))):=fun e=>by rw[e];exact aq2 (hs.take _)
 cases n with
 |zero=>
  refine SX.goM ?_;exact acG (fin (by omega))
 |succ m=>
  obtain⟨w,hw⟩:∃w,l[m]? =some w:=⟨_,zq2 (by omega)⟩
  have hg:l.getD m 0=w:=by rw[zq3,hw];rfl
  have hw':l[m+1 - 1]? =some w:=hw;by_cases hz:aL l=m+1
  ·have hw0:w≠0:=by
    have:=qP (l:=l) (by omega)
    rw[hz,show m+1 - 1=m by omega,hg]at this;exact this
   refine SX.goM ?_;exact acG (fin hz.symm)
  ·have hw0:w=0:=by rw[←hg];exact iN (by omega)
   refine SX.goM ?_;exact W.next m ⟨by omega,by omega⟩ (by omega)
theorem anU{l:List Nat}(hs:Sm WB l):l.take (aL l)=wds (nval WB l):=by
 have:=vo (hs.take (aL l)) (qH l);rw[cK]at this;exact this
theorem afd(l:List Nat)(hl:l.length≤4398046511104):ah prog 80 [.r (dN l)] (.r (bD (nval WB l))):=by
 refine lawN ⟨_,func80,rfl,rfl⟩ fun hs=>?_
 have cT:=acK l hl;rw[anU hs]at cT;have hn:=yN (nval WB l);have hv:=oq (nval WB l);refine ah.fnF func80 results80 ntmps80 rfl rfl rfl (by simp[AV.ids,AV0.ids,Atom.ids]) rfl (fun w0 T B E0 hB=>?_)
 by_cases h0:(wds (nval WB l)).length=0
 ·refine SX.goM ?_;exact aQ.ok (aC.mk1 ((ak.tmp rfl).imp (fun E S w v h=>by
   rw[show v=_ from h,show nval WB l=0 from (pO _).1 h0];exact bD.zero)))
 ·refine SX.goM ?_;exact aQ.ok (aC.mk1 (ak.imp (x:= .one (.c (.sat (dN (wds (nval WB l)))))) (ak.tmp rfl) (fun E S w v h=>afK.2 ⟨_,hn,hv,fun e=>absurd (by rw[e];rfl) h0,h⟩)))
theorem mac1{y w c:Nat}(hy:y < WB)(hw:w < WB)(hc:c < WB):
  fB (y*w)+fB (bM (y*w)+c) < WB∧y*w+c=bM (bM (y*w)+c)+WB*(fB (y*w)+fB (bM (y*w)+c)):=by
 have h1:=yE (y*w);have h2:=yE (bM (y*w)+c);have hm:y*w≤(WB - 1)*(WB - 1):=Nat.mul_le_mul (by omega) (by omega)
 refine⟨?_,?_⟩
 ·rw[bB]at*;omega
 ·rw[Nat.mul_add];omega
theorem alz(x y:Nat)(hx:x < WB)(hy:y < WB):ah prog 209 [.v (.int .u64 (x:Int)),.v (.int .u64 (y:Int))] (.tup [.one (.c (.val (.int .u64 ((fB (x*y):Nat):Int)))),.one (.c (.val (.int .u64 ((bM (x*y):Nat):Int))))]):=
 ah.gM ⟨_,func209,rfl,rfl⟩ rfl fun E S w vs hl hv=>by
  have hvs:=SX.aaN (args:=[.int .u64 (x:Int),.int .u64 (y:Int)]) hv;subst hvs;exact(rA x y hx hy w).mono fun e w' ⟨h1,h2⟩=>⟨_,h1,⟨_,rfl,rfl,rfl,trivial⟩,by subst h2;exact Off.refl _ _⟩
theorem aob(n:Nat):List.replicate n (CA.val (.int .u64 0))=(([]:List Nat)++List.replicate (n - 0) 0).flatMap wC:=by
 rw[List.nil_append,Nat.sub_zero]
 induction n with
 |zero=>rfl
 |succ n ih=>rw[List.replicate_succ,List.replicate_succ,List.flatMap_cons,ih];rfl
attribute [local irreducible] fB bM
theorem agb(l:List Nat)(hl:l.length≤1000000000)(y z:Nat)(hy:y < WB)(hz:z < WB):ah prog 237 [.r (dN l),.v (.int .u64 (y:Int)),.v (.int .u64 (z:Int))] (.r (bD (nval WB l*y+z))):=by
 refine lawN ⟨_,func237,rfl,rfl⟩ fun hs0=>?_
 have cT:=acK l (by omega)
 have hs:=hs0.take (aL l);have hv:=cK (B:=WB) l;have hUl:(l.take (aL l)).length≤1000000000:=by rw[List.length_take];omega
 rw[←hv];generalize l.take (aL l)=U at*;clear hv hs0;have e0:=aob (U.length+1);refine ah.fnF func237 results237 ntmps237 rfl rfl rfl (by simp[AV.ids,AV0.ids,Atom.ids]) rfl (fun w0 T B E0 hB=>?_)
 refine SX.goM ?_;refine W.anF (fun(k c:Nat) (ws:List Nat)=>k≤U.length∧ws.length=k∧c < WB∧Sm WB ws∧nval WB ws+WB ^ k*c=nval WB (U.take k)*y+z)
  (fun k c ws=>[(0,.r (dN U)),(1,.v (.int .u64 (y:Int))),(7,.own 100),(8,.v (.int .u64 (c:Int))),(21,.r (dN U)),(22,.v (.int .i64 (U.length:Int))),(23,.v (.int .i64 (k:Int)))])
  (fun k c ws=>[(100,.row 44 1 (U.length+1) ((ws++List.replicate (U.length+1 - k) 0).flatMap wC))]) (fun k _ _=>U.length - k) 0 z [] ⟨Nat.zero_le _,rfl,hz,Sm.nil,by simp[nval]⟩ (fun k c ws ⟨hk,hw,hc,hsm,hval⟩=>?_)
 by_cases hlt:k < U.length
 ·obtain⟨w,hw'⟩:∃w,U[k]? =some w:=⟨_,zq2 hlt⟩
  have hwb:w < WB:=hs w (zq4 hw');have hm:=mac1 hy hwb hc;have hm1:=hm.1;rw[bB]at hm1;have cM:=alz y w hy hwb;have e:spl ((ws++List.replicate (U.length+1 - k) 0).flatMap wC) (k*1) [.val (.int .u64 ((bM (bM (y*w)+c):Nat):Int))]=((ws++[bM (bM (y*w)+c)])++List.replicate (U.length+1 - (k+1)) 0).flatMap wC:=by
   rw[show [CA.val (.int .u64 ((bM (bM (y*w)+c):Nat):Int))]=wC (bM (bM (y*w)+c))from rfl,pX _ _ _ (by simp;omega)]
   congr 1
   rw[List.set_append_right _ _ (by omega),hw,Nat.sub_self,show U.length+1 - k=(U.length+1 - (k+1))+1 by omega,List.replicate_succ]
   simp
  refine SX.goM ?_;refine SX.Go1.callE (args:=[.int .u64 ((bM (y*w):Nat):Int),.int .u64 (c:Int),.int .u64 0]) (vs:=[.int .u64 ((bM (bM (y*w)+c):Nat):Int),.int .u64 ((fB (bM (y*w)+c):Nat):Int)]) rfl (fun w=>jX _ _ w) rfl ?_
  refine SX.goM ?_;refine W.anJ (k+1) (fB (y*w)+fB (bM (y*w)+c)) (ws++[bM (bM (y*w)+c)]) ⟨by omega,by simp;omega,hm.1,hsm.append (Sm.cons (by unfold bM WB;exact Nat.mod_lt _ (by decide)) Sm.nil),?_⟩ (by omega)
  have hg:U.getD k 0=w:=by rw[zq3,hw'];rfl
  rw[fD,jw,hg,hw,Nat.add_mul];have hm2:=hm.2;generalize bM (bM (y*w)+c)=s at*;generalize fB (y*w)+fB (bM (y*w)+c)=c' at*;rw[Nat.pow_succ];generalize WB ^ k=p at*;generalize nval WB ws=a at*;generalize nval WB (U.take k)=b at*
  grind
 ·obtain rfl:k=U.length:=by omega
  rw[List.take_length]at hval;have hlen:(ws++[c]).length=U.length+1:=by simp;omega
  have hsm':Sm WB (ws++[c]):=hsm.append (Sm.cons hc Sm.nil);have hvn:nval WB (ws++[c])=nval WB U*y+z:=by rw[fD,hw];exact hval
  have cN:=afd (ws++[c]) (by omega)
  rw[hvn]at cN;have cN':ah prog 80 [.r (aM 1 (U.length+1) ((ws++[c]).flatMap wC))] (.r (bD (nval WB U*y+z))):=by
   refine ah.args cN fun E S w vs hv=>?_
   match vs,hv with
   |[v],⟨h1,_⟩=>exact⟨zG hsm' (by show (aM 1 (ws++[c]).length _).has S w v;rw[hlen];exact h1),trivial⟩
  have e:spl ((ws++List.replicate (U.length+1 - U.length) 0).flatMap wC) (U.length*1) [.val (.int .u64 (c:Int))]=(ws++[c]).flatMap wC:=by
   rw[show [CA.val (.int .u64 (c:Int))]=wC c from rfl,pX _ _ _ (by simp;omega)]
   congr 1
   rw[List.set_append_right _ _ (by omega),hw,Nat.sub_self,show U.length+1 - U.length=1 by omega]
   rfl
  refine SX.WP.seq ?_;refine SX.WP.aF ?_;refine SX.goR ?_;first|refine SX.Reg.nil ⟨by kernel_rfl,?_⟩|refine SX.Reg.nil ?_
  refine SX.agi ?_;refine SX.WP.seq ?_;refine SX.W.aaX ?_;refine SX.WP.exit ?_;repeat(first|refine SX.amU ?_|refine SX.agi ?_|refine SX.ah7 ?_)
  refine SX.WP.seq ?_;refine SX.WP.aF ?_;refine SX.goR ?_;first|refine SX.Reg.nil ⟨by kernel_rfl,?_⟩|refine SX.Reg.nil ?_
  refine SX.agi ?_;rw[←e]at cN';refine SX.WP.freeze 100 hB rfl ?_;refine SX.goM ?_;exact acG (AV0.imp.refl _)
instance ahf{a:CA}{x k:Nat}[ha:NI a x k](y z:Nat):Con prog 237 [.it (.one (.c a)),.v (.int .u64 (y:Int)),.v (.int .u64 (z:Int))] (k≤1000000000∧y < WB∧z < WB) (.r (bD (x*y+z))):=⟨fun⟨hk,hy,hz⟩=>
 ah.exR (ι:={l:List Nat // nval WB l=x∧l.length≤k}) (fun i=>[.r (dN i.1),.v (.int .u64 (y:Int)),.v (.int .u64 (z:Int))]) ⟨_,func237,rfl,rfl⟩
  (fun i=>by
   have:=agb i.1 (Nat.le_trans i.2.2 hk) y z hy hz;rw[i.2.1]at this;exact this)
  (fun E S w vs hv=>by
   match vs,hv with
   |u::us,⟨h1,h2⟩=>
    obtain⟨l,e1,e2,e3⟩:=vL.1 (ha.p S w u h1);exact⟨⟨l,e1,e2⟩,e3,h2⟩)⟩
end
section
attribute [local irreducible] IntKind.wrap Go1 Reg WP aS aT bR bO aQ aC ak aj aX Sat
def isD(c:UInt8):Bool:=decide (48≤c.toNat∧c.toNat≤57)
def isN(l:List UInt8):Bool:=decide (1≤l.length∧l.length≤20000∧(l.length=1∨(byt l 0).toNat≠48))&&l.all isD
theorem ap9(p:UInt8→Bool)(l:List UInt8)(k:Nat)(h:k < l.length):(l.drop k).all p=(p (byt l k)&&(l.drop (k+1)).all p):=by
 rw[List.drop_eq_getElem_cons h];have:byt l k=l[k]:=by simp[byt,h]
 rw[this];rfl
instance aiu(l:List UInt8):Con prog 236 [.v (str l)] (l.length≤1000000000) (.v (.bool (isN l))):=⟨fun hl=>by
 refine ah.fnF func236 results236 ntmps236 rfl rfl rfl (by simp[AV.ids,AV0.ids,Atom.ids]) rfl (fun w0 T B E0 hB=>?_)
 repeat'(first|refine SX.goM ?_|refine SX.W.ite (fun h=>?_) (fun h=>?_)|refine SX.W.iteN (fun h=>?_) (fun h=>?_)|refine SX.W.eT (fun h=>?_) (fun h=>?_)|refine SX.R.ite (fun h=>?_) (fun h=>?_)|refine SX.R.iteN (fun h=>?_) (fun h=>?_)|refine SX.R.eT (fun h=>?_) (fun h=>?_))
 all_goals(first|(refine aJ ?_;rw[eq_comm];unfold isN;rw[Bool.and_eq_false_iff];refine .inl (decide_eq_false fun hn=>?_);omega)|skip)
 all_goals
  have hb:decide (1≤l.length∧l.length≤20000∧(l.length=1∨(byt l 0).toNat≠48))=true:=decide_eq_true (by omega)
  refine W.loop (fun k=>k≤l.length∧isN l=(l.drop k).all isD) (fun k=>[(0,.v (str l)),(23,.v (.int .i64 (l.length:Int))),(24,.v (.int .i64 (k:Int)))]) (fun _=>[]) (fun k=>l.length - k) 0 ⟨Nat.zero_le _,by unfold isN;rw[hb];rfl⟩ (fun k ⟨hk,hn⟩=>?_)
  have hs:=ap9 isD l k
  repeat'(first|refine SX.goM ?_|refine SX.W.ite (fun h=>?_) (fun h=>?_)|refine SX.W.iteN (fun h=>?_) (fun h=>?_)|refine SX.W.eT (fun h=>?_) (fun h=>?_)|refine SX.R.ite (fun h=>?_) (fun h=>?_)|refine SX.R.iteN (fun h=>?_) (fun h=>?_)|refine SX.R.eT (fun h=>?_) (fun h=>?_))
  all_goals first
   |(refine aJ ?_;rw[hn,hs (by omega),show isD (byt l k)=false from decide_eq_false (by omega)];rfl)
   |exact W.next (k+1) ⟨by omega,by rw[hn,hs (by omega),show isD (byt l k)=true from decide_eq_true (by omega)];rfl⟩ (by omega)
   |(refine aJ ?_;rw[hn,List.drop_eq_nil_of_le (by omega)];rfl)⟩
def dval(l:List UInt8):Nat:=l.foldl (fun n c=>10*n+(c.toNat - 48)) 0
theorem vN:∀(l:List UInt8) (n:Nat),l.foldl (fun n c=>10*n+(c.toNat - 48)) n=n*10 ^ l.length+dval l
 |[],n=>by simp[dval]
 |c::l,n=>by
  have h1:=vN l (10*n+(c.toNat - 48));have h2:=vN l (10*0+(c.toNat - 48));unfold dval at*;rw[List.foldl_cons,List.foldl_cons,h1,h2,List.length_cons,Nat.pow_succ];generalize 10 ^ l.length=p
  grind
theorem ap4(l m:List UInt8):dval (l++m)=dval l*10 ^ m.length+dval m:=by
 conv=>lhs;unfold dval
 rw[List.foldl_append,vN];rfl
theorem aiA:∀{l:List UInt8},l.all isD=true→dval l < 10 ^ l.length:=by
 intro l
 induction l with
 |nil=>intro _;simp[dval]
 |cons c l ih=>
  intro h;rw[List.all_cons,Bool.and_eq_true]at h;have h1:=ih h.2;have h2:48≤c.toNat∧c.toNat≤57:=of_decide_eq_true h.1;have:=vN l (10*0+(c.toNat - 48));unfold dval;rw[List.foldl_cons,this,List.length_cons,Nat.pow_succ];generalize 10 ^ l.length=p at*;have:(10*0+(c.toNat - 48))*p≤9*p:=Nat.mul_le_mul_right _ (by omega)
  omega
theorem arK{l:List UInt8}(h:l.all isD=true){i:Nat}(hi:i < l.length):48≤(byt l i).toNat∧(byt l i).toNat≤57:=by
 have hb:byt l i=l[i]:=by simp[byt,hi]
 rw[hb];exact of_decide_eq_true (List.all_eq_true.1 h _ (List.getElem_mem hi))
theorem acp(l:List UInt8)(c:UInt8):dval (l++[c])=10*dval l+(c.toNat - 48):=by
 unfold dval;rw[List.foldl_append];rfl
theorem ahA{l:List UInt8}{i:Nat}(hi:i < l.length):l.take (i+1)=l.take i++[byt l i]:=by
 have hb:byt l i=l[i]:=by simp[byt,hi]
 rw[List.take_add_one,zq2 hi,hb];rfl
theorem p18{n:Nat}(h:n≤18):10 ^ n≤1000000000000000000:=Nat.pow_le_pow_right (n:=10) (by decide) h
theorem ajK{l:List UInt8}(h:l.all isD=true):dval l < WB ^ l.length:=
 Nat.lt_of_lt_of_le (aiA h) (Nat.pow_le_pow_left (by rw[bB];decide) _)
attribute [local irreducible] isN dval
theorem anK:AV0.imp (.one (.c (.val (.slice none 0 0)))) (.one (.c (.sat (bD 0)))):=fun E S w v h=>by
 rw[show v=_ from h];exact bD.zero
theorem ajs{l:List UInt8}(h:isN l=true):l.all isD=true∧1≤l.length∧l.length≤20000:=by
 unfold isN at h;rw[Bool.and_eq_true,decide_eq_true_iff]at h;exact⟨h.2,h.1.1,h.1.2.1⟩
theorem qI:dval []=0:=by unfold dval;rfl
theorem aoh{c:UInt8}(h:48≤c.toNat∧c.toNat≤57):IntKind.u8.wrap ((c.toNat:Int) - 48)=((c.toNat - 48:Nat):Int):=by
 rw[IntKind.wrap_u8];omega
theorem alH(l:List UInt8)(hl:l.length≤1000000000):ah prog 221 [.v (str l)] (.tup [.one (.c (.sat (bD (if isN l=true then dval l else 0)))),.one (.c (.val (.bool (isN l))))]):=by
 cases hN:isN l with
 |false=>
  have ci:=(aiu l).h hl;rw[hN]at ci;refine ah.fnF func221 results221 ntmps221 rfl rfl rfl (by simp[AV.ids,AV0.ids,Atom.ids]) rfl (fun w0 T B E0 hB=>?_)
  refine SX.goM ?_;exact pq (ak.tmp rfl) (ak.tmp rfl) (by rw[if_neg (by simp)];exact anK) (AV0.imp.refl _)
 |true=>
  have ci:=(aiu l).h hl;rw[hN]at ci;obtain⟨hD,hL1,hL⟩:=ajs hN;refine ah.fnF func221 results221 ntmps221 rfl rfl rfl (by simp[AV.ids,AV0.ids,Atom.ids]) rfl (fun w0 T B E0 hB=>?_)
  refine SX.goM ?_;refine W.anF (fun(k:Nat) (n:Nat) (A:CA)=>k≤l.length∧n=dval (l.take k)∧(k=0∨(l.length - k) % 18=0)∧((k=0∧A= .val (.slice none 0 0))∨A= .sat (bD n))) (fun k n A=>[(0,.v (str (l.drop k))),(4,.it (.one (.c A)))]) (fun _ _ _=>[]) (fun k _ _=>l.length - k) 0 0 (.val (.slice none 0 0)) ⟨Nat.zero_le _,by rw[List.take_zero,qI],.inl rfl,.inl ⟨rfl,rfl⟩⟩ (fun k n A ⟨hk,hn,hk18,hA⟩=>?_)
  have hdl:(l.drop k).length=l.length - k:=List.length_drop;by_cases hlt:k < l.length
  ·obtain⟨m,hm⟩:∃m,((l.drop k).length - 1) % 18+1=m:=⟨_,rfl⟩;have hm18:m≤18:=by omega
   have hml:m≤(l.drop k).length:=by omega
   have hDk:(l.drop k).all isD=true:=by
    rw[List.all_eq_true]at*;intro c hc;exact hD c (List.mem_of_mem_drop hc)
   have hmm:m=18∨k=0:=by
    rcases hk18 with h|h
    ·exact .inr h
    ·left;omega
   have bn:BdN n k:=⟨by
    rw[hn];have:=ajK (l:=l.take k) (by rw[List.all_eq_true]at*;intro c hc;exact hD c (List.mem_of_mem_take hc))
    rwa [List.length_take,Nat.min_eq_left hk]at this⟩
   have hNI:NI A n k:=by
    rcases hA with⟨h0,rfl⟩|rfl
    ·have:n=0:=by rw[hn,h0,List.take_zero,qI]
     subst this;subst h0;exact NI.nil
    ·infer_instance
   refine SX.goM ?_;refine W.mO (fun(i x:Nat)=>i≤m∧x=dval ((l.drop k).take i)) (fun i x=>[(0,.v (str (l.drop k))),(4,.it (.one (.c A))),(5,.v (.int .i64 (m:Int))),(6,.v (.int .u64 (x:Int))),(19,.v (.int .i64 (m:Int))),(20,.v (.int .i64 (i:Int)))]) (fun _ _=>[]) (fun i _=>m - i) 0 0 ⟨Nat.zero_le _,by rw[List.take_zero,qI]⟩ (fun i x ⟨hi,hx⟩=>?_)
   have hxl:x < 10 ^ i:=by
    have:=aiA (l:=(l.drop k).take i) (by rw[List.all_eq_true]at*;intro c hc;exact hDk c (List.mem_of_mem_take hc))
    rwa [←hx,List.length_take,Nat.min_eq_left (by omega)]at this
   by_cases hil:i < m
   ·have hx17:x < 1000000000000000000:=Nat.lt_of_lt_of_le hxl (p18 (by omega))
    have hbd:=arK hDk (show i < (l.drop k).length by omega)
    have hw:=aoh hbd;refine SX.goM ?_;refine W.lX (i+1) (10*x+((byt (l.drop k) i).toNat - 48)) ⟨by omega,?_⟩ (by omega)
    rw[ahA (by omega),acp,←hx]
   ·obtain rfl:i=m:=by omega
    have hxw:x < WB:=Nat.lt_trans (Nat.lt_of_lt_of_le hxl (p18 hm18)) (by rw[bB];decide)
    have cM:ah prog 237 [.it (.one (.c A)),.v (.int .u64 1000000000000000000),.v (.int .u64 (x:Int))] (.r (bD (n*1000000000000000000+x))):=(ahf (ha:=hNI) 1000000000000000000 x).h ⟨by omega,by rw[bB];decide,hxw⟩
    have ed:List.drop i (List.drop k l)=List.drop (k+i) l:=by rw[List.drop_drop]
    refine SX.goM ?_;refine W.anJ (k+i) (n*1000000000000000000+x) (.sat (bD (n*1000000000000000000+x))) ⟨by omega,?_,?_,.inr rfl⟩ (by omega)
    ·have et:l.take (k+i)=l.take k++(l.drop k).take i:=by rw[List.take_add]
     rw[et,ap4,←hn,←hx,List.length_take,Nat.min_eq_left (by omega)]
     rcases hmm with h|h
     ·rw[h]
     ·have:n=0:=by rw[hn,h,List.take_zero,qI]
      rw[this];simp
    ·right;omega
  ·have hn':n=dval l:=by rw[hn,List.take_of_length_le (by omega)]
   have hA':A= .sat (bD (dval l)):=by
    rcases hA with⟨h0,_⟩|h
    ·omega
    ·rw[h,hn']
   subst hA';refine SX.goM ?_;exact pq (ak.tmp rfl) (ak.tmp rfl) (by rw[if_pos rfl];exact AV0.imp.refl _) (AV0.imp.refl _)
end
section
theorem akw{d:Nat}(h:d < 10):isD (UInt8.ofNat (48+d))=true∧(UInt8.ofNat (48+d)).toNat - 48=d:=by
 have e:(UInt8.ofNat (48+d)).toNat=48+d:=by rw[UInt8.toNat_ofNat'];omega
 exact⟨decide_eq_true (by omega),by omega⟩
theorem wW(x:Nat):(dig x).all isD=true∧dval (dig x)=x∧(x≠0→(byt (dig x) 0).toNat≠48∧1≤(dig x).length):=by
 induction x using Nat.strongRecOn with
 |_ x ih=>
  by_cases h0:x=0
  ·subst h0;rw[jC];exact⟨rfl,qI,fun h=>absurd rfl h⟩
  ·obtain⟨h1,h2,h3⟩:=ih (x / 10) (by omega)
   have hd:=akw (d:=x % 10) (by omega)
   rw[nk h0];refine⟨by rw[List.all_append,h1,List.all_cons,hd.1];rfl,by rw[acp,h2,hd.2];omega,fun _=>⟨?_,by simp⟩⟩
   by_cases hq:x / 10=0
   ·rw[hq,jC];show (UInt8.ofNat (48+x % 10)).toNat≠48;rw[UInt8.toNat_ofNat'];omega
   ·have h4:=h3 hq;have:byt (dig (x / 10)++[UInt8.ofNat (48+x % 10)]) 0=byt (dig (x / 10)) 0:=by
     unfold byt;rw[zq3,zq3,List.getElem?_append_left (by omega)]
    rw[this];exact h4.1
theorem an2{l:List UInt8}(h:l.all isD=true)(h1:1≤l.length)(h2:l.length≤20000)(h3:l.length=1∨(byt l 0).toNat≠48):isN l=true:=by
 unfold isN;rw[Bool.and_eq_true,decide_eq_true_iff];exact⟨⟨h1,h2,h3⟩,h⟩
theorem aoe{x k:Nat}(h:x < WB ^ k)(hk:k≤900):isN (aO x)=true∧dval (aO x)=x:=by
 have hl:(aO x).length≤20*k+1:=by
  unfold aO
  split
  ·simp
  ·have:WB ^ k≤10 ^ (20*k):=by rw[Nat.pow_mul];exact Nat.pow_le_pow_left (by rw[bB];decide) _
   have:=acO (Nat.lt_of_lt_of_le h this);omega
 unfold aO at*;by_cases h0:x=0
 ·subst h0;rw[if_pos rfl]at*;exact⟨an2 (by decide) (by decide) (by decide) (.inl rfl),by unfold dval;rfl⟩
 ·rw[if_neg h0]at*;have hf:=wW x;exact⟨an2 hf.1 (hf.2.2 h0).2 (by omega) (.inr (hf.2.2 h0).1),hf.2.1⟩
section
theorem take1(l:List UInt8):l.take 1=[45]↔∃m,l=45::m:=by
 cases l with
 |nil=>simp
 |cons c m=>simp
def ngB(l:List UInt8):Bool:=decide (l.take 1=[45])
def mdB(l:List UInt8):List UInt8:=if ngB l then l.drop 1 else l
def adf(l:List UInt8):Bool:=isN (mdB l)&&!(ngB l&&decide (dval (mdB l)=0))
def zPv(l:List UInt8):Int:=if adf l then sgn (ngB l) (dval (mdB l))else 0
theorem aqH(l:List UInt8):(mdB l).length≤l.length:=by
 unfold mdB;split
 ·rw[List.length_drop];omega
 ·exact Nat.le_refl _
theorem apg{x:Nat}(h:x≠0):∃c m,dig x=c::m∧c≠45:=by
 have hf:=wW x;have h1:=(hf.2.2 h).2
 match hd:dig x,h1 with
 |c::m,_=>
  rw[hd,List.all_cons,Bool.and_eq_true]at hf;have h2:48≤c.toNat∧c.toNat≤57:=of_decide_eq_true hf.1.1;exact⟨c,m,rfl,fun e=>by rw[e]at h2;exact absurd h2.1 (by decide)⟩
theorem alb(x:Nat):ngB (aO x)=false:=by
 unfold ngB;refine decide_eq_false fun h=>?_
 obtain⟨m,hm⟩:=(take1 _).1 h;unfold aO at hm
 split at hm
 ·cases hm
 ·rename_i h0;obtain⟨c,m',e,hc⟩:=apg h0;rw[e]at hm;cases hm;exact hc rfl
theorem apC{z:Int}{k:Nat}(h:Bd z k)(hk:k≤900):adf (zS z)=true∧zPv (zS z)=z:=by
 have hd:=aoe h.h hk;have key:adf (zS z)=true∧ngB (zS z)=decide (z < 0)∧mdB (zS z)=aO z.natAbs:=by
  by_cases hz:z < 0
  ·have e:zS z=45::aO z.natAbs:=by unfold zS;rw[if_pos hz]
   have hn:ngB (zS z)=true:=by rw[e];unfold ngB;exact decide_eq_true rfl
   have hm:mdB (zS z)=aO z.natAbs:=by unfold mdB;rw[hn,if_pos rfl,e];rfl
   refine⟨?_,by rw[hn,decide_eq_true hz],hm⟩
   unfold adf;rw[hm,hn,hd.1,hd.2,decide_eq_false (by omega)];rfl
  ·have e:zS z=aO z.natAbs:=by unfold zS;rw[if_neg hz]
   have hn:ngB (zS z)=false:=by rw[e];exact alb _
   have hm:mdB (zS z)=aO z.natAbs:=by unfold mdB;rw[hn,if_neg (by simp),e]
   refine⟨?_,by rw[hn,decide_eq_false hz],hm⟩
   unfold adf;rw[hm,hn,hd.1];rfl
 refine⟨key.1,?_⟩;unfold zPv;rw[if_pos key.1,key.2.1,key.2.2,hd.2,aej]
attribute [local irreducible] IntKind.wrap Go1 Reg WP aS aT bR bO aQ aC ak aj aX Sat
attribute [local irreducible] isN dval aO zS sgn
theorem ahG(l:List UInt8):ah prog 264 [.v (str l),.v (str [45])] (.v (.bool (ngB l))):=by
 refine ah.fnF func264 results264 ntmps264 rfl rfl rfl (by simp[AV.ids,AV0.ids,Atom.ids]) rfl (fun w0 T B E0 hB=>?_)
 by_cases h1:1≤l.length
 ·have hk:([45]:List UInt8).length≤l.length:=h1;refine SX.goM ?_;exact aJ rfl
 ·have hk:¬([45]:List UInt8).length≤l.length:=h1;refine SX.goM ?_;refine aJ ?_;rw[eq_comm];exact decide_eq_false (fun h=>by obtain⟨m,rfl⟩:=(take1 l).1 h;simp at h1)
theorem aeD(l:List UInt8):ah prog 235 [.v (str l),.v (str [45])] (.tup [.one (.c (.val (str (mdB l)))),.one (.c (.val (.bool (ngB l))))]):=by
 have cH:=ahG l;refine ah.fnF func235 results235 ntmps235 rfl rfl rfl (by simp[AV.ids,AV0.ids,Atom.ids]) rfl (fun w0 T B E0 hB=>?_)
 cases hn:ngB l with
 |true=>
  rw[hn]at cH;have h1:1≤l.length:=by
   obtain⟨m,rfl⟩:=(take1 l).1 (of_decide_eq_true hn);simp
  refine SX.goM ?_;rw[show mdB l=l.drop 1 by unfold mdB;rw[hn,if_pos rfl]]
  exact ret2 rfl rfl
 |false=>
  rw[hn]at cH;refine SX.goM ?_;rw[show mdB l=l by unfold mdB;rw[hn,if_neg (by simp)]]
  exact ret2 rfl rfl
theorem ah1(l:List UInt8):ah prog 220 [.v (str l),.v (str [45])] (.tup [.one (.c (.val (str (mdB l)))),.one (.c (.val (.bool (ngB l))))]):=by
 have cH:=aeD l;refine ah.fnF func220 results220 ntmps220 rfl rfl rfl (by simp[AV.ids,AV0.ids,Atom.ids]) rfl (fun w0 T B E0 hB=>?_)
 refine SX.goM ?_;exact ret2 rfl rfl
theorem agT(l:List UInt8)(hl:l.length≤1000000000):ah prog 185 [.v (str l)] (.tup [.agg (zN (zPv l)),.one (.c (.val (.bool (adf l))))]):=by
 have cC:=ah1 l;have hml:=aqH l;have cP:=alH (mdB l) (by omega)
 have hp:adf l=(isN (mdB l)&&!(ngB l&&decide (dval (mdB l)=0))):=by unfold adf;rfl
 have hv:zPv l=if adf l then sgn (ngB l) (dval (mdB l))else 0:=by unfold zPv;rfl
 generalize mdB l=m at*;generalize ngB l=b at*;cases hN:isN m with
 |false=>
  rw[hN,if_neg (by simp)]at cP
  rw[hN,Bool.false_and]at hp;rw[hp,if_neg (by simp)]at hv
  refine ah.fnF func185 results185 ntmps185 rfl rfl rfl (by simp[AV.ids,AV0.ids,Atom.ids]) rfl (fun w0 T B E0 hB=>?_)
  refine SX.goM ?_;rw[hp,hv];exact pq (ak.fC rfl rfl rfl) (ak.tmp rfl) tX (AV0.imp.refl _)
 |true=>
  rw[hN,if_pos rfl]at cP;rw[hN,Bool.true_and]at hp;have bd:BdN (dval m) m.length:=⟨ajK (ajs hN).1⟩;have hw:=pO (dval m);have cF:=oW (a:= .sat (bD (dval m))) b (show m.length≤1099511627775 by omega)
  cases hb:b with
  |false=>
   rw[hb]at cC cF hp hv;rw[Bool.false_and,Bool.not_false]at hp;rw[hp,if_pos rfl]at hv;refine ah.fnF func185 results185 ntmps185 rfl rfl rfl (by simp[AV.ids,AV0.ids,Atom.ids]) rfl (fun w0 T B E0 hB=>?_)
   refine SX.goM ?_;rw[hp,hv];exact pq (ak.fC rfl rfl rfl) (ak.tmp rfl) (AV0.imp.refl _) (AV0.imp.refl _)
  |true=>
   rw[hb]at cC cF hp hv;by_cases h0:dval m=0
   ·rw[decide_eq_true h0]at hp;rw[hp,if_neg (by simp)]at hv
    refine ah.fnF func185 results185 ntmps185 rfl rfl rfl (by simp[AV.ids,AV0.ids,Atom.ids]) rfl (fun w0 T B E0 hB=>?_)
    refine SX.goM ?_;rw[hp,hv];exact pq (ak.fC rfl rfl rfl) (ak.tmp rfl) tX (AV0.imp.refl _)
   ·rw[decide_eq_false h0]at hp;rw[hp,if_pos (by simp)]at hv
    refine ah.fnF func185 results185 ntmps185 rfl rfl rfl (by simp[AV.ids,AV0.ids,Atom.ids]) rfl (fun w0 T B E0 hB=>?_)
    refine SX.goM ?_;rw[hp,hv];exact pq (ak.fC rfl rfl rfl) (ak.tmp rfl) (AV0.imp.refl _) (AV0.imp.refl _)
end
end
end Go.Proofs.YtegehclknhmkgaaGreatDoor