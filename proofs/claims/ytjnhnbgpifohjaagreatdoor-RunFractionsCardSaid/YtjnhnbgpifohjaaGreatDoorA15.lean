import Derived.Test.YtjnhnbgpifohjaaGreatDoorA8
import Derived.Test.YtjnhnbgpifohjaaGreatDoorA4
set_option linter.unusedVariables false
set_option linter.unusedSimpArgs false
open Go.Proofs.Tryz
namespace Go.Proofs.YtjnhnbgpifohjaaGreatDoor
open Go.RowKit QM SX
section
theorem ah.exR{ι:Type}{P:Program}{f:FuncId}{args:List AV}{r:AV}(args':ι→List AV)(he:∃fn,P.funcs[f]? =some fn∧(fn.name== "runtime.NumGoroutine")=false∧fn.body.isNone=false)(h:∀i,ah P f (args' i) r)
  (hm:∀E S w vs,aI (AV.has E S w) args vs→∃i,aI (AV.has E S w) (args' i) vs):ah P f args r:=
 ⟨he,fun E S w vs hl hg hv h1 h2 h3=>let⟨i,hi⟩:=hm E S w vs hv;(h i).2 E S w vs hl hg hi h1 h2 h3⟩
attribute [local irreducible] IntKind.wrap Go1 Reg WP aR aU bR bO aN aF ak aj aY Sat
def wC(w:Nat):List CA:=[.val (.int .u64 (w:Int))]
instance:dH wC 1:=⟨fun _=>rfl⟩
theorem anN(l:List Nat):(l.map fun x:Nat=>CA.val (.int .u64 (x:Int)))=l.flatMap wC:=by
 induction l with
 |nil=>rfl
 |cons x l ih=>rw[List.map_cons,List.flatMap_cons,ih];rfl
instance ab0.raw(l:List Nat):ab0 (dM l) 1 wC l:=⟨fun S w v h=>by
 have:=(nk.1 h).2;rw[anN]at this;exact this⟩
theorem aad{l:List Nat}(hs:Sm WB l){S:Nat→Prop}{w:World}{v:Value}(h:(aA 1 wC l).has S w v):(dM l).has S w v:=
 nk.2 ⟨hs,by rw[anN];exact h⟩
theorem apH{l:List Nat}(hs:Sm WB l):AV0.imp (.one (.c (.sat (aA 1 wC l)))) (.one (.c (.sat (dM l)))):=fun E S w v h=>aad hs h
theorem lawN{f:FuncId}{l:List Nat}{args:List AV}{r:AV}(he:∃fn,prog.funcs[f]? =some fn∧(fn.name== "runtime.NumGoroutine")=false∧fn.body.isNone=false)
  (hf:Sm WB l→ah prog f (.r (dM l)::args) r):ah prog f (.r (dM l)::args) r:=by
 refine ah.fact (φ:=Sm WB l) he hf fun E S w vs hv=>?_
 match vs,hv with
 |x::xs,⟨h1,h2⟩=>exact⟨⟨h1,h2⟩,(dM.rn h1).sm⟩
theorem abM(l:List Nat)(hl:l.length≤4398046511104):ah prog 193 [.r (dM l)] (.r (dM (l.take (aJ l)))):=by
 refine lawN ⟨_,func193,rfl,rfl⟩ fun hs=>?_
 refine ah.fnF func193 results193 ntmps193 rfl rfl rfl (by simp[AV.ids,AV0.ids,Atom.ids]) rfl (fun w0 T B E0 hB=>?_)
 refine SX.goM ?_;refine W.loop (fun n=>aJ l≤n∧n≤l.length) (fun n=>[(0,.r (dM l)),(3,.v (.int .i64 (n:Int)))]) (fun _=>[]) (fun n=>n) l.length ⟨dz l,Nat.le_refl _⟩ (fun n ⟨h1,h2⟩=>?_)
 have fin:n=aJ l→AV0.imp (.one (.c (.sat (aA 1 wC (l.take n))))) (.one (.c (.sat (dM (l.take (aJ l)))))):=fun e=>by rw[e];exact apH (hs.take _)
 cases n with
 |zero=>
  refine SX.goM ?_;exact adW (fin (by omega))
 |succ m=>
  obtain⟨w,hw⟩:∃w,l[m]? =some w:=⟨_,zq2 (by omega)⟩
  have hg:l.getD m 0=w:=by rw[zq3,hw];rfl
  have hw':l[m+1 - 1]? =some w:=hw;by_cases hz:aJ l=m+1
  ·have hw0:w≠0:=by
    have:=qX (l:=l) (by omega)
    rw[hz,show m+1 - 1=m by omega,hg]at this;exact this
   refine SX.goM ?_;exact adW (fin hz.symm)
  ·have hw0:w=0:=by rw[←hg];exact iK (by omega)
   refine SX.goM ?_;exact W.next m ⟨by omega,by omega⟩ (by omega)
theorem alT{l:List Nat}(hs:Sm WB l):l.take (aJ l)=wds (nval WB l):=by
 have:=uR (hs.take (aJ l)) (qm l);rw[bX]at this;exact this
theorem aeO(l:List Nat)(hl:l.length≤4398046511104):ah prog 191 [.r (dM l)] (.r (bI (nval WB l))):=by
 refine lawN ⟨_,func191,rfl,rfl⟩ fun hs=>?_
 have cT:=abM l hl;rw[alT hs]at cT;have hn:=yF (nval WB l);have hv:=nU (nval WB l);refine ah.fnF func191 results191 ntmps191 rfl rfl rfl (by simp[AV.ids,AV0.ids,Atom.ids]) rfl (fun w0 T B E0 hB=>?_)
 by_cases h0:(wds (nval WB l)).length=0
 ·refine SX.goM ?_;exact aN.ok (aF.mk1 ((ak.tmp rfl).imp (fun E S w v h=>by
   rw[show v=_ from h,show nval WB l=0 from (qw _).1 h0];exact bI.zero)))
 ·refine SX.goM ?_;exact aN.ok (aF.mk1 (ak.imp (x:= .one (.c (.sat (dM (wds (nval WB l)))))) (ak.tmp rfl) (fun E S w v h=>af7.2 ⟨_,hn,hv,fun e=>absurd (by rw[e];rfl) h0,h⟩)))
theorem mac1{y w c:Nat}(hy:y < WB)(hw:w < WB)(hc:c < WB):
  eZ (y*w)+eZ (bM (y*w)+c) < WB∧y*w+c=bM (bM (y*w)+c)+WB*(eZ (y*w)+eZ (bM (y*w)+c)):=by
 have h1:=yt (y*w);have h2:=yt (bM (y*w)+c);have hm:y*w≤(WB - 1)*(WB - 1):=Nat.mul_le_mul (by omega) (by omega)
 refine⟨?_,?_⟩
 ·rw[bV]at*;omega
 ·rw[Nat.mul_add];omega
theorem aks(x y:Nat)(hx:x < WB)(hy:y < WB):ah prog 402 [.v (.int .u64 (x:Int)),.v (.int .u64 (y:Int))] (.tup [.one (.c (.val (.int .u64 ((eZ (x*y):Nat):Int)))),.one (.c (.val (.int .u64 ((bM (x*y):Nat):Int))))]):=
 ah.iB ⟨_,func402,rfl,rfl⟩ rfl fun E S w vs hl hv=>by
  have hvs:=SX.zO (args:=[.int .u64 (x:Int),.int .u64 (y:Int)]) hv;subst hvs;exact(rQ x y hx hy w).mono fun e w' ⟨h1,h2⟩=>⟨_,h1,⟨_,rfl,rfl,rfl,trivial⟩,by subst h2;exact Off.refl _ _⟩
theorem aoL(n:Nat):List.replicate n (CA.val (.int .u64 0))=(([]:List Nat)++List.replicate (n - 0) 0).flatMap wC:=by
 rw[List.nil_append,Nat.sub_zero]
 induction n with
 |zero=>rfl
 |succ n ih=>rw[List.replicate_succ,List.replicate_succ,List.flatMap_cons,ih];rfl
attribute [local irreducible] eZ bM
theorem aef(l:List Nat)(hl:l.length≤1000000000)(y z:Nat)(hy:y < WB)(hz:z < WB):ah prog 504 [.r (dM l),.v (.int .u64 (y:Int)),.v (.int .u64 (z:Int))] (.r (bI (nval WB l*y+z))):=by
 refine lawN ⟨_,func504,rfl,rfl⟩ fun hs0=>?_
 have cT:=abM l (by omega)
 have hs:=hs0.take (aJ l);have hv:=bX (B:=WB) l;have hUl:(l.take (aJ l)).length≤1000000000:=by rw[List.length_take];omega
 rw[←hv];generalize l.take (aJ l)=U at*;clear hv hs0;have e0:=aoL (U.length+1);refine ah.fnF func504 results504 ntmps504 rfl rfl rfl (by simp[AV.ids,AV0.ids,Atom.ids]) rfl (fun w0 T B E0 hB=>?_)
 refine SX.goM ?_;refine W.amH (fun(k c:Nat) (ws:List Nat)=>k≤U.length∧ws.length=k∧c < WB∧Sm WB ws∧nval WB ws+WB ^ k*c=nval WB (U.take k)*y+z)
  (fun k c ws=>[(0,.r (dM U)),(1,.v (.int .u64 (y:Int))),(7,.own 100),(8,.v (.int .u64 (c:Int))),(21,.r (dM U)),(22,.v (.int .i64 (U.length:Int))),(23,.v (.int .i64 (k:Int)))])
  (fun k c ws=>[(100,.row 36 1 (U.length+1) ((ws++List.replicate (U.length+1 - k) 0).flatMap wC))]) (fun k _ _=>U.length - k) 0 z [] ⟨Nat.zero_le _,rfl,hz,Sm.nil,by simp[nval]⟩ (fun k c ws ⟨hk,hw,hc,hsm,hval⟩=>?_)
 by_cases hlt:k < U.length
 ·obtain⟨w,hw'⟩:∃w,U[k]? =some w:=⟨_,zq2 hlt⟩
  have hwb:w < WB:=hs w (zq4 hw');have hm:=mac1 hy hwb hc;have hm1:=hm.1;rw[bV]at hm1;have cM:=aks y w hy hwb;have e:spl ((ws++List.replicate (U.length+1 - k) 0).flatMap wC) (k*1) [.val (.int .u64 ((bM (bM (y*w)+c):Nat):Int))]=((ws++[bM (bM (y*w)+c)])++List.replicate (U.length+1 - (k+1)) 0).flatMap wC:=by
   rw[show [CA.val (.int .u64 ((bM (bM (y*w)+c):Nat):Int))]=wC (bM (bM (y*w)+c))from rfl,pJ _ _ _ (by simp;omega)]
   congr 1
   rw[List.set_append_right _ _ (by omega),hw,Nat.sub_self,show U.length+1 - k=(U.length+1 - (k+1))+1 by omega,List.replicate_succ]
   simp
  refine SX.goM ?_;refine SX.Go1.callE (args:=[.int .u64 ((bM (y*w):Nat):Int),.int .u64 (c:Int),.int .u64 0]) (vs:=[.int .u64 ((bM (bM (y*w)+c):Nat):Int),.int .u64 ((eZ (bM (y*w)+c):Nat):Int)]) rfl (fun w=>jV _ _ w) rfl ?_
  refine SX.goM ?_;refine W.anE (k+1) (eZ (y*w)+eZ (bM (y*w)+c)) (ws++[bM (bM (y*w)+c)]) ⟨by omega,by simp;omega,hm.1,hsm.append (Sm.cons (by unfold bM WB;exact Nat.mod_lt _ (by decide)) Sm.nil),?_⟩ (by omega)
  have hg:U.getD k 0=w:=by rw[zq3,hw'];rfl
  rw[fH,jK,hg,hw,Nat.add_mul];have hm2:=hm.2;generalize bM (bM (y*w)+c)=s at*;generalize eZ (y*w)+eZ (bM (y*w)+c)=c' at*;rw[Nat.pow_succ];generalize WB ^ k=p at*;generalize nval WB ws=a at*;generalize nval WB (U.take k)=b at*
  grind
 ·obtain rfl:k=U.length:=by omega
  rw[List.take_length]at hval;have hlen:(ws++[c]).length=U.length+1:=by simp;omega
  have hsm':Sm WB (ws++[c]):=hsm.append (Sm.cons hc Sm.nil);have hvn:nval WB (ws++[c])=nval WB U*y+z:=by rw[fH,hw];exact hval
  have cN:=aeO (ws++[c]) (by omega)
  rw[hvn]at cN;have cN':ah prog 191 [.r (aL 1 (U.length+1) ((ws++[c]).flatMap wC))] (.r (bI (nval WB U*y+z))):=by
   refine ah.args cN fun E S w vs hv=>?_
   match vs,hv with
   |[v],⟨h1,_⟩=>exact⟨aad hsm' (by show (aL 1 (ws++[c]).length _).has S w v;rw[hlen];exact h1),trivial⟩
  have e:spl ((ws++List.replicate (U.length+1 - U.length) 0).flatMap wC) (U.length*1) [.val (.int .u64 (c:Int))]=(ws++[c]).flatMap wC:=by
   rw[show [CA.val (.int .u64 (c:Int))]=wC c from rfl,pJ _ _ _ (by simp;omega)]
   congr 1
   rw[List.set_append_right _ _ (by omega),hw,Nat.sub_self,show U.length+1 - U.length=1 by omega]
   rfl
  refine SX.WP.seq ?_;refine SX.WP.aD ?_;refine SX.goR ?_;first|refine SX.Reg.nil ⟨by kernel_rfl,?_⟩|refine SX.Reg.nil ?_
  refine SX.aeC ?_;refine SX.WP.seq ?_;refine SX.W.aau ?_;refine SX.WP.exit ?_;repeat(first|refine SX.amZ ?_|refine SX.aeC ?_|refine SX.ahf ?_)
  refine SX.WP.seq ?_;refine SX.WP.aD ?_;refine SX.goR ?_;first|refine SX.Reg.nil ⟨by kernel_rfl,?_⟩|refine SX.Reg.nil ?_
  refine SX.aeC ?_;rw[←e]at cN';refine SX.WP.freeze 100 hB rfl ?_;refine SX.goM ?_;exact adW (AV0.imp.refl _)
instance agw{a:CA}{x k:Nat}[ha:NI a x k](y z:Nat):Con prog 504 [.it (.one (.c a)),.v (.int .u64 (y:Int)),.v (.int .u64 (z:Int))] (k≤1000000000∧y < WB∧z < WB) (.r (bI (x*y+z))):=⟨fun⟨hk,hy,hz⟩=>
 ah.exR (ι:={l:List Nat // nval WB l=x∧l.length≤k}) (fun i=>[.r (dM i.1),.v (.int .u64 (y:Int)),.v (.int .u64 (z:Int))]) ⟨_,func504,rfl,rfl⟩
  (fun i=>by
   have:=aef i.1 (Nat.le_trans i.2.2 hk) y z hy hz;rw[i.2.1]at this;exact this)
  (fun E S w vs hv=>by
   match vs,hv with
   |u::us,⟨h1,h2⟩=>
    obtain⟨l,e1,e2,e3⟩:=uJ.1 (ha.p S w u h1);exact⟨⟨l,e1,e2⟩,e3,h2⟩)⟩
end
section
attribute [local irreducible] IntKind.wrap Go1 Reg WP aR aU bR bO aN aF ak aj aY Sat
def isD(c:UInt8):Bool:=decide (48≤c.toNat∧c.toNat≤57)
def isN(l:List UInt8):Bool:=decide (1≤l.length∧l.length≤20000∧(l.length=1∨(byt l 0).toNat≠48))&&l.all isD
theorem aoc(p:UInt8→Bool)(l:List UInt8)(k:Nat)(h:k < l.length):(l.drop k).all p=(p (byt l k)&&(l.drop (k+1)).all p):=by
 rw[List.drop_eq_getElem_cons h];have:byt l k=l[k]:=by simp[byt,h]
 rw[this];rfl
instance ajb(l:List UInt8):Con prog 503 [.v (str l)] (l.length≤1000000000) (.v (.bool (isN l))):=⟨fun hl=>by
 refine ah.fnF func503 results503 ntmps503 rfl rfl rfl (by simp[AV.ids,AV0.ids,Atom.ids]) rfl (fun w0 T B E0 hB=>?_)
 repeat'(first|refine SX.goM ?_|refine SX.W.ite (fun h=>?_) (fun h=>?_)|refine SX.W.iteN (fun h=>?_) (fun h=>?_)|refine SX.W.eP (fun h=>?_) (fun h=>?_)|refine SX.R.ite (fun h=>?_) (fun h=>?_)|refine SX.R.iteN (fun h=>?_) (fun h=>?_)|refine SX.R.eP (fun h=>?_) (fun h=>?_))
 all_goals(first|(refine aP ?_;rw[eq_comm];unfold isN;rw[Bool.and_eq_false_iff];refine .inl (decide_eq_false fun hn=>?_);omega)|skip)
 all_goals
  have hb:decide (1≤l.length∧l.length≤20000∧(l.length=1∨(byt l 0).toNat≠48))=true:=decide_eq_true (by omega)
  refine W.loop (fun k=>k≤l.length∧isN l=(l.drop k).all isD) (fun k=>[(0,.v (str l)),(23,.v (.int .i64 (l.length:Int))),(24,.v (.int .i64 (k:Int)))]) (fun _=>[]) (fun k=>l.length - k) 0 ⟨Nat.zero_le _,by unfold isN;rw[hb];rfl⟩ (fun k ⟨hk,hn⟩=>?_)
  have hs:=aoc isD l k
  repeat'(first|refine SX.goM ?_|refine SX.W.ite (fun h=>?_) (fun h=>?_)|refine SX.W.iteN (fun h=>?_) (fun h=>?_)|refine SX.W.eP (fun h=>?_) (fun h=>?_)|refine SX.R.ite (fun h=>?_) (fun h=>?_)|refine SX.R.iteN (fun h=>?_) (fun h=>?_)|refine SX.R.eP (fun h=>?_) (fun h=>?_))
  all_goals first
   |(refine aP ?_;rw[hn,hs (by omega),show isD (byt l k)=false from decide_eq_false (by omega)];rfl)
   |exact W.next (k+1) ⟨by omega,by rw[hn,hs (by omega),show isD (byt l k)=true from decide_eq_true (by omega)];rfl⟩ (by omega)
   |(refine aP ?_;rw[hn,List.drop_eq_nil_of_le (by omega)];rfl)⟩
def dval(l:List UInt8):Nat:=l.foldl (fun n c=>10*n+(c.toNat - 48)) 0
theorem uS:∀(l:List UInt8) (n:Nat),l.foldl (fun n c=>10*n+(c.toNat - 48)) n=n*10 ^ l.length+dval l
 |[],n=>by simp[dval]
 |c::l,n=>by
  have h1:=uS l (10*n+(c.toNat - 48));have h2:=uS l (10*0+(c.toNat - 48));unfold dval at*;rw[List.foldl_cons,List.foldl_cons,h1,h2,List.length_cons,Nat.pow_succ];generalize 10 ^ l.length=p
  grind
theorem ao8(l m:List UInt8):dval (l++m)=dval l*10 ^ m.length+dval m:=by
 conv=>lhs;unfold dval
 rw[List.foldl_append,uS];rfl
theorem aiD:∀{l:List UInt8},l.all isD=true→dval l < 10 ^ l.length:=by
 intro l
 induction l with
 |nil=>intro _;simp[dval]
 |cons c l ih=>
  intro h;rw[List.all_cons,Bool.and_eq_true]at h;have h1:=ih h.2;have h2:48≤c.toNat∧c.toNat≤57:=of_decide_eq_true h.1;have:=uS l (10*0+(c.toNat - 48));unfold dval;rw[List.foldl_cons,this,List.length_cons,Nat.pow_succ];generalize 10 ^ l.length=p at*;have:(10*0+(c.toNat - 48))*p≤9*p:=Nat.mul_le_mul_right _ (by omega)
  omega
theorem aqj{l:List UInt8}(h:l.all isD=true){i:Nat}(hi:i < l.length):48≤(byt l i).toNat∧(byt l i).toNat≤57:=by
 have hb:byt l i=l[i]:=by simp[byt,hi]
 rw[hb];exact of_decide_eq_true (List.all_eq_true.1 h _ (List.getElem_mem hi))
theorem abK(l:List UInt8)(c:UInt8):dval (l++[c])=10*dval l+(c.toNat - 48):=by
 unfold dval;rw[List.foldl_append];rfl
theorem afZ{l:List UInt8}{i:Nat}(hi:i < l.length):l.take (i+1)=l.take i++[byt l i]:=by
 have hb:byt l i=l[i]:=by simp[byt,hi]
 rw[List.take_add_one,zq2 hi,hb];rfl
theorem p18{n:Nat}(h:n≤18):10 ^ n≤1000000000000000000:=Nat.pow_le_pow_right (n:=10) (by decide) h
theorem ahS{l:List UInt8}(h:l.all isD=true):dval l < WB ^ l.length:=
 Nat.lt_of_lt_of_le (aiD h) (Nat.pow_le_pow_left (by rw[bV];decide) _)
attribute [local irreducible] isN dval
theorem alU:AV0.imp (.one (.c (.val (.slice none 0 0)))) (.one (.c (.sat (bI 0)))):=fun E S w v h=>by
 rw[show v=_ from h];exact bI.zero
theorem ajl{l:List UInt8}(h:isN l=true):l.all isD=true∧1≤l.length∧l.length≤20000:=by
 unfold isN at h;rw[Bool.and_eq_true,decide_eq_true_iff]at h;exact⟨h.2,h.1.1,h.1.2.1⟩
theorem pG:dval []=0:=by unfold dval;rfl
theorem alB{c:UInt8}(h:48≤c.toNat∧c.toNat≤57):IntKind.u8.wrap ((c.toNat:Int) - 48)=((c.toNat - 48:Nat):Int):=by
 rw[IntKind.wrap_u8];omega
theorem ajY(l:List UInt8)(hl:l.length≤1000000000):ah prog 483 [.v (str l)] (.tup [.one (.c (.sat (bI (if isN l=true then dval l else 0)))),.one (.c (.val (.bool (isN l))))]):=by
 cases hN:isN l with
 |false=>
  have ci:=(ajb l).h hl;rw[hN]at ci;refine ah.fnF func483 results483 ntmps483 rfl rfl rfl (by simp[AV.ids,AV0.ids,Atom.ids]) rfl (fun w0 T B E0 hB=>?_)
  refine SX.goM ?_;exact oW (ak.tmp rfl) (ak.tmp rfl) (by rw[if_neg (by simp)];exact alU) (AV0.imp.refl _)
 |true=>
  have ci:=(ajb l).h hl;rw[hN]at ci;obtain⟨hD,hL1,hL⟩:=ajl hN;refine ah.fnF func483 results483 ntmps483 rfl rfl rfl (by simp[AV.ids,AV0.ids,Atom.ids]) rfl (fun w0 T B E0 hB=>?_)
  refine SX.goM ?_;refine W.amH (fun(k:Nat) (n:Nat) (A:CA)=>k≤l.length∧n=dval (l.take k)∧(k=0∨(l.length - k) % 18=0)∧((k=0∧A= .val (.slice none 0 0))∨A= .sat (bI n))) (fun k n A=>[(0,.v (str (l.drop k))),(4,.it (.one (.c A)))]) (fun _ _ _=>[]) (fun k _ _=>l.length - k) 0 0 (.val (.slice none 0 0)) ⟨Nat.zero_le _,by rw[List.take_zero,pG],.inl rfl,.inl ⟨rfl,rfl⟩⟩ (fun k n A ⟨hk,hn,hk18,hA⟩=>?_)
  have hdl:(l.drop k).length=l.length - k:=List.length_drop;by_cases hlt:k < l.length
  ·obtain⟨m,hm⟩:∃m,((l.drop k).length - 1) % 18+1=m:=⟨_,rfl⟩;have hm18:m≤18:=by omega
   have hml:m≤(l.drop k).length:=by omega
   have hDk:(l.drop k).all isD=true:=by
    rw[List.all_eq_true]at*;intro c hc;exact hD c (List.mem_of_mem_drop hc)
   have hmm:m=18∨k=0:=by
    rcases hk18 with h|h
    ·exact .inr h
    ·left;omega
   have bn:BdN n k:=⟨by
    rw[hn];have:=ahS (l:=l.take k) (by rw[List.all_eq_true]at*;intro c hc;exact hD c (List.mem_of_mem_take hc))
    rwa [List.length_take,Nat.min_eq_left hk]at this⟩
   have hNI:NI A n k:=by
    rcases hA with⟨h0,rfl⟩|rfl
    ·have:n=0:=by rw[hn,h0,List.take_zero,pG]
     subst this;subst h0;exact NI.nil
    ·infer_instance
   refine SX.goM ?_;refine W.mH (fun(i x:Nat)=>i≤m∧x=dval ((l.drop k).take i)) (fun i x=>[(0,.v (str (l.drop k))),(4,.it (.one (.c A))),(5,.v (.int .i64 (m:Int))),(6,.v (.int .u64 (x:Int))),(19,.v (.int .i64 (m:Int))),(20,.v (.int .i64 (i:Int)))]) (fun _ _=>[]) (fun i _=>m - i) 0 0 ⟨Nat.zero_le _,by rw[List.take_zero,pG]⟩ (fun i x ⟨hi,hx⟩=>?_)
   have hxl:x < 10 ^ i:=by
    have:=aiD (l:=(l.drop k).take i) (by rw[List.all_eq_true]at*;intro c hc;exact hDk c (List.mem_of_mem_take hc))
    rwa [←hx,List.length_take,Nat.min_eq_left (by omega)]at this
   by_cases hil:i < m
   ·have hx17:x < 1000000000000000000:=Nat.lt_of_lt_of_le hxl (p18 (by omega))
    have hbd:=aqj hDk (show i < (l.drop k).length by omega)
    have hw:=alB hbd;refine SX.goM ?_;refine W.lS (i+1) (10*x+((byt (l.drop k) i).toNat - 48)) ⟨by omega,?_⟩ (by omega)
    rw[afZ (by omega),abK,←hx]
   ·obtain rfl:i=m:=by omega
    have hxw:x < WB:=Nat.lt_trans (Nat.lt_of_lt_of_le hxl (p18 hm18)) (by rw[bV];decide)
    have cM:ah prog 504 [.it (.one (.c A)),.v (.int .u64 1000000000000000000),.v (.int .u64 (x:Int))] (.r (bI (n*1000000000000000000+x))):=(agw (ha:=hNI) 1000000000000000000 x).h ⟨by omega,by rw[bV];decide,hxw⟩
    have ed:List.drop i (List.drop k l)=List.drop (k+i) l:=by rw[List.drop_drop]
    refine SX.goM ?_;refine W.anE (k+i) (n*1000000000000000000+x) (.sat (bI (n*1000000000000000000+x))) ⟨by omega,?_,?_,.inr rfl⟩ (by omega)
    ·have et:l.take (k+i)=l.take k++(l.drop k).take i:=by rw[List.take_add]
     rw[et,ao8,←hn,←hx,List.length_take,Nat.min_eq_left (by omega)]
     rcases hmm with h|h
     ·rw[h]
     ·have:n=0:=by rw[hn,h,List.take_zero,pG]
      rw[this];simp
    ·right;omega
  ·have hn':n=dval l:=by rw[hn,List.take_of_length_le (by omega)]
   have hA':A= .sat (bI (dval l)):=by
    rcases hA with⟨h0,_⟩|h
    ·omega
    ·rw[h,hn']
   subst hA';refine SX.goM ?_;exact oW (ak.tmp rfl) (ak.tmp rfl) (by rw[if_pos rfl];exact AV0.imp.refl _) (AV0.imp.refl _)
end
section
theorem ajM{d:Nat}(h:d < 10):isD (UInt8.ofNat (48+d))=true∧(UInt8.ofNat (48+d)).toNat - 48=d:=by
 have e:(UInt8.ofNat (48+d)).toNat=48+d:=by rw[UInt8.toNat_ofNat'];omega
 exact⟨decide_eq_true (by omega),by omega⟩
theorem wm(x:Nat):(dig x).all isD=true∧dval (dig x)=x∧(x≠0→(byt (dig x) 0).toNat≠48∧1≤(dig x).length):=by
 induction x using Nat.strongRecOn with
 |_ x ih=>
  by_cases h0:x=0
  ·subst h0;rw[jB];exact⟨rfl,pG,fun h=>absurd rfl h⟩
  ·obtain⟨h1,h2,h3⟩:=ih (x / 10) (by omega)
   have hd:=ajM (d:=x % 10) (by omega)
   rw[nG h0];refine⟨by rw[List.all_append,h1,List.all_cons,hd.1];rfl,by rw[abK,h2,hd.2];omega,fun _=>⟨?_,by simp⟩⟩
   by_cases hq:x / 10=0
   ·rw[hq,jB];show (UInt8.ofNat (48+x % 10)).toNat≠48;rw[UInt8.toNat_ofNat'];omega
   ·have h4:=h3 hq;have:byt (dig (x / 10)++[UInt8.ofNat (48+x % 10)]) 0=byt (dig (x / 10)) 0:=by
     unfold byt;rw[zq3,zq3,List.getElem?_append_left (by omega)]
    rw[this];exact h4.1
theorem alm{l:List UInt8}(h:l.all isD=true)(h1:1≤l.length)(h2:l.length≤20000)(h3:l.length=1∨(byt l 0).toNat≠48):isN l=true:=by
 unfold isN;rw[Bool.and_eq_true,decide_eq_true_iff];exact⟨⟨h1,h2,h3⟩,h⟩
theorem anL{x k:Nat}(h:x < WB ^ k)(hk:k≤900):isN (aV x)=true∧dval (aV x)=x:=by
 have hl:(aV x).length≤20*k+1:=by
  unfold aV
  split
  ·simp
  ·have:WB ^ k≤10 ^ (20*k):=by rw[Nat.pow_mul];exact Nat.pow_le_pow_left (by rw[bV];decide) _
   have:=acK (Nat.lt_of_lt_of_le h this);omega
 unfold aV at*;by_cases h0:x=0
 ·subst h0;rw[if_pos rfl]at*;exact⟨alm (by decide) (by decide) (by decide) (.inl rfl),by unfold dval;rfl⟩
 ·rw[if_neg h0]at*;have hf:=wm x;exact⟨alm hf.1 (hf.2.2 h0).2 (by omega) (.inr (hf.2.2 h0).1),hf.2.1⟩
section
theorem take1(l:List UInt8):l.take 1=[45]↔∃m,l=45::m:=by
 cases l with
 |nil=>simp
 |cons c m=>simp
def ngB(l:List UInt8):Bool:=decide (l.take 1=[45])
def mdB(l:List UInt8):List UInt8:=if ngB l then l.drop 1 else l
def adG(l:List UInt8):Bool:=isN (mdB l)&&!(ngB l&&decide (dval (mdB l)=0))
def zPv(l:List UInt8):Int:=if adG l then sgn (ngB l) (dval (mdB l))else 0
theorem aqb(l:List UInt8):(mdB l).length≤l.length:=by
 unfold mdB;split
 ·rw[List.length_drop];omega
 ·exact Nat.le_refl _
theorem ano{x:Nat}(h:x≠0):∃c m,dig x=c::m∧c≠45:=by
 have hf:=wm x;have h1:=(hf.2.2 h).2
 match hd:dig x,h1 with
 |c::m,_=>
  rw[hd,List.all_cons,Bool.and_eq_true]at hf;have h2:48≤c.toNat∧c.toNat≤57:=of_decide_eq_true hf.1.1;exact⟨c,m,rfl,fun e=>by rw[e]at h2;exact absurd h2.1 (by decide)⟩
theorem ajS(x:Nat):ngB (aV x)=false:=by
 unfold ngB;refine decide_eq_false fun h=>?_
 obtain⟨m,hm⟩:=(take1 _).1 h;unfold aV at hm
 split at hm
 ·cases hm
 ·rename_i h0;obtain⟨c,m',e,hc⟩:=ano h0;rw[e]at hm;cases hm;exact hc rfl
theorem al0{z:Int}{k:Nat}(h:Bd z k)(hk:k≤900):adG (zS z)=true∧zPv (zS z)=z:=by
 have hd:=anL h.h hk;have key:adG (zS z)=true∧ngB (zS z)=decide (z < 0)∧mdB (zS z)=aV z.natAbs:=by
  by_cases hz:z < 0
  ·have e:zS z=45::aV z.natAbs:=by unfold zS;rw[if_pos hz]
   have hn:ngB (zS z)=true:=by rw[e];unfold ngB;exact decide_eq_true rfl
   have hm:mdB (zS z)=aV z.natAbs:=by unfold mdB;rw[hn,if_pos rfl,e];rfl
   refine⟨?_,by rw[hn,decide_eq_true hz],hm⟩
   unfold adG;rw[hm,hn,hd.1,hd.2,decide_eq_false (by omega)];rfl
  ·have e:zS z=aV z.natAbs:=by unfold zS;rw[if_neg hz]
   have hn:ngB (zS z)=false:=by rw[e];exact ajS _
   have hm:mdB (zS z)=aV z.natAbs:=by unfold mdB;rw[hn,if_neg (by simp),e]
   refine⟨?_,by rw[hn,decide_eq_false hz],hm⟩
   unfold adG;rw[hm,hn,hd.1];rfl
 refine⟨key.1,?_⟩;unfold zPv;rw[if_pos key.1,key.2.1,key.2.2,hd.2,acD]
attribute [local irreducible] IntKind.wrap Go1 Reg WP aR aU bR bO aN aF ak aj aY Sat
attribute [local irreducible] isN dval aV zS sgn
theorem agT(l:List UInt8):ah prog 533 [.v (str l),.v (str [45])] (.v (.bool (ngB l))):=by
 refine ah.fnF func533 results533 ntmps533 rfl rfl rfl (by simp[AV.ids,AV0.ids,Atom.ids]) rfl (fun w0 T B E0 hB=>?_)
 by_cases h1:1≤l.length
 ·have hk:([45]:List UInt8).length≤l.length:=h1;refine SX.goM ?_;exact aP rfl
 ·have hk:¬([45]:List UInt8).length≤l.length:=h1;refine SX.goM ?_;refine aP ?_;rw[eq_comm];exact decide_eq_false (fun h=>by obtain⟨m,rfl⟩:=(take1 l).1 h;simp at h1)
theorem ae1(l:List UInt8):ah prog 502 [.v (str l),.v (str [45])] (.tup [.one (.c (.val (str (mdB l)))),.one (.c (.val (.bool (ngB l))))]):=by
 have cH:=agT l;refine ah.fnF func502 results502 ntmps502 rfl rfl rfl (by simp[AV.ids,AV0.ids,Atom.ids]) rfl (fun w0 T B E0 hB=>?_)
 cases hn:ngB l with
 |true=>
  rw[hn]at cH;have h1:1≤l.length:=by
   obtain⟨m,rfl⟩:=(take1 l).1 (of_decide_eq_true hn);simp
  refine SX.goM ?_;rw[show mdB l=l.drop 1 by unfold mdB;rw[hn,if_pos rfl]]
  exact ret2 rfl rfl
 |false=>
  rw[hn]at cH;refine SX.goM ?_;rw[show mdB l=l by unfold mdB;rw[hn,if_neg (by simp)]]
  exact ret2 rfl rfl
theorem agx(l:List UInt8):ah prog 482 [.v (str l),.v (str [45])] (.tup [.one (.c (.val (str (mdB l)))),.one (.c (.val (.bool (ngB l))))]):=by
 have cH:=ae1 l;refine ah.fnF func482 results482 ntmps482 rfl rfl rfl (by simp[AV.ids,AV0.ids,Atom.ids]) rfl (fun w0 T B E0 hB=>?_)
 refine SX.goM ?_;exact ret2 rfl rfl
theorem ahn(l:List UInt8)(hl:l.length≤1000000000):ah prog 456 [.v (str l)] (.tup [.agg (zN (zPv l)),.one (.c (.val (.bool (adG l))))]):=by
 have cC:=agx l;have hml:=aqb l;have cP:=ajY (mdB l) (by omega)
 have hp:adG l=(isN (mdB l)&&!(ngB l&&decide (dval (mdB l)=0))):=by unfold adG;rfl
 have hv:zPv l=if adG l then sgn (ngB l) (dval (mdB l))else 0:=by unfold zPv;rfl
 generalize mdB l=m at*;generalize ngB l=b at*;cases hN:isN m with
 |false=>
  rw[hN,if_neg (by simp)]at cP
  rw[hN,Bool.false_and]at hp;rw[hp,if_neg (by simp)]at hv
  refine ah.fnF func456 results456 ntmps456 rfl rfl rfl (by simp[AV.ids,AV0.ids,Atom.ids]) rfl (fun w0 T B E0 hB=>?_)
  refine SX.goM ?_;rw[hp,hv];exact oW (ak.iV rfl rfl rfl) (ak.tmp rfl) uh (AV0.imp.refl _)
 |true=>
  rw[hN,if_pos rfl]at cP;rw[hN,Bool.true_and]at hp;have bd:BdN (dval m) m.length:=⟨ahS (ajl hN).1⟩;have hw:=qw (dval m);have cF:=qQ (a:= .sat (bI (dval m))) b (show m.length≤1099511627775 by omega)
  cases hb:b with
  |false=>
   rw[hb]at cC cF hp hv;rw[Bool.false_and,Bool.not_false]at hp;rw[hp,if_pos rfl]at hv;refine ah.fnF func456 results456 ntmps456 rfl rfl rfl (by simp[AV.ids,AV0.ids,Atom.ids]) rfl (fun w0 T B E0 hB=>?_)
   refine SX.goM ?_;rw[hp,hv];exact oW (ak.iV rfl rfl rfl) (ak.tmp rfl) (AV0.imp.refl _) (AV0.imp.refl _)
  |true=>
   rw[hb]at cC cF hp hv;by_cases h0:dval m=0
   ·rw[decide_eq_true h0]at hp;rw[hp,if_neg (by simp)]at hv
    refine ah.fnF func456 results456 ntmps456 rfl rfl rfl (by simp[AV.ids,AV0.ids,Atom.ids]) rfl (fun w0 T B E0 hB=>?_)
    refine SX.goM ?_;rw[hp,hv];exact oW (ak.iV rfl rfl rfl) (ak.tmp rfl) uh (AV0.imp.refl _)
   ·rw[decide_eq_false h0]at hp;rw[hp,if_pos (by simp)]at hv
    refine ah.fnF func456 results456 ntmps456 rfl rfl rfl (by simp[AV.ids,AV0.ids,Atom.ids]) rfl (fun w0 T B E0 hB=>?_)
    refine SX.goM ?_;rw[hp,hv];exact oW (ak.iV rfl rfl rfl) (ak.tmp rfl) (AV0.imp.refl _) (AV0.imp.refl _)
end
end
end Go.Proofs.YtjnhnbgpifohjaaGreatDoor