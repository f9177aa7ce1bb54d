import Derived.Test.YtjnhnbgpifohjaaGreatDoorA4
set_option linter.unusedVariables false
set_option linter.unusedSimpArgs false
namespace SX
open Go Go.RowKit
section
def hdrs(s:Value):List Value:=match s with| .agg a=>a.toList|v=>[v]
def bC(s:Value)(j:Nat):Value:=(hdrs s).getD j undef
def abl(j:Nat):Nat→Value→Value→Prop:=fun _ s v=>v=bC s j
def oV(j off:Nat):Nat→Value→Value→Prop:=fun _ s v=>∃g n cap,bC s j= .slice (some ⟨g,0,none⟩) n cap∧v= .pointer (some ⟨g,off,none⟩)
def amc(i:Nat):Nat→Value→Value→Prop:=fun _ s v=>∃a n cap,bC s 0= .slice a n cap∧i≤n∧v= .slice (if cap=i then a else a.map (·.add (i*1))) (n - i) (cap - i)
abbrev jE(b j:Nat):Atom:= .rel b (abl j)
section
variable{α:Type}
structure gK(tO tI:TypeId)(size:Nat)(enc:α→List CA)(js:List Nat)(c:List (List α))(v:Value)(X S:Nat→Prop)(w:World):Prop where
 out:w.ownsRow 0 tO 1 (bC v 0) js.length (js.map fun j=>bC v (j+1))
 lt:∀j∈js,j < c.length
 inn:∀j l,c[j]? =some l→∃vs,w.ownsRow 0 tI size (bC v (j+1)) l.length vs∧aI (CA.has S w) (l.flatMap enc) vs
 sep:∀i j k,i < c.length+1→j < c.length+1→i≠j→(bC v i).ownBlock=some k→(bC v j).ownBlock≠some k
 X:∀k,X k↔∃i,i < c.length+1∧(bC v i).ownBlock=some k
def eU(tO tI:TypeId)(size:Nat)(enc:α→List CA)(js:List Nat)(c:List (List α)):jO where
 has _ v X S w:=gK tO tI size enc js c v X S w
 step:=fun {b v X S S' w w'} h ho hs hX=>by
  refine⟨eT h.out fun k hk=>hX k ((h.X k).2 ⟨0,by omega,hk⟩),h.lt,fun j l hj=>?_,h.sep,h.X⟩
  have hjl:j < c.length:=by
   rcases Nat.lt_or_ge j c.length with h|h
   ·exact h
   ·rw[List.getElem?_eq_none h]at hj;cases hj
  obtain⟨vs,h1,h2⟩:=h.inn j l hj;exact⟨vs,eT h1 fun k hk=>hX k ((h.X k).2 ⟨j+1,by omega,hk⟩),h2.mono fun a u _ ha=>ha.step ho hs⟩
def jm(A:jO)(i:Nat)(e:TypeId)(size n:Nat):Prop:=∀b v X S w,A.has b v X S w→∃vs,w.ownsRow 0 e size (bC v i) n vs
theorem jm.out{tO tI:TypeId}{size:Nat}{enc:α→List CA}{js:List Nat}{c:List (List α)}:jm (eU tO tI size enc js c) 0 tO 1 js.length:=fun b v X S w h=>⟨_,h.out⟩
theorem jm.inn{tO tI:TypeId}{size:Nat}{enc:α→List CA}{js:List Nat}{c:List (List α)}{j:Nat}{l:List α}(hj:c[j]? =some l):jm (eU tO tI size enc js c) (j+1) tI size l.length:=fun b v X S w h=>let⟨vs,h1,_⟩:=h.inn j l hj;⟨vs,h1⟩
theorem ru{w:World}{e:TypeId}{size n:Nat}{v:Value}{vs:List Value}(h:w.ownsRow 0 e size v n vs):v.oneCell'=true:=by
 rcases h.2 with⟨rfl,_⟩|⟨_,_,_,rfl,_⟩ <;> rfl
theorem acV{w:World}{e:TypeId}{size n:Nat}{v:Value}{vs:List Value}{cells:List CA}{S:Nat→Prop}(hown:w.ownsRow 0 e size v n vs)(hvs:aI (CA.has S w) cells vs)(hS:∀k,v.ownBlock=some k→¬S k):(aL size n cells).has S w v:=by
 have hlen:cells.length=n*size:=by rw[hvs.length,hown.1]
 rcases hown.2 with⟨hv,h0⟩|⟨g,cap,cur,hv,_,hg,hn,hm,hcs,htk⟩
 ·refine bB.2 ⟨none,0,by rw[hv,h0],by omega,Nat.zero_le _,fun _=>rfl,hlen,fun i c hc=>?_⟩
  have:cells.length=0:=by rw[hlen,h0,Nat.zero_mul]
  rw[List.eq_nil_of_length_eq_zero this]at hc;simp at hc
 ·refine bB.2 ⟨some ⟨g,0,none⟩,cap,hv,hn,hm,(fun h=>by cases h),hlen,fun i c hc=>?_⟩
  obtain⟨u,hu,huc⟩:=hvs.get hc;rw[hv]at hown;have hcell:=hown.cells (g:=g) rfl i u hu;exact⟨g,0,u,rfl,hS g (by rw[hv];rfl),by simpa[Addr.add_lit]using hcell,huc⟩
theorem gK.frz{tO tI:TypeId}{size:Nat}{enc:α→List CA}{js:List Nat}{c:List (List α)}{v:Value}{X S S':Nat→Prop}{w:World}(h:gK tO tI size enc js c v X S w)(hsub:∀k,S' k→S k)(hX:∀k,X k→¬S' k):
  (aL 1 js.length (js.map fun j=> .sat (aA size enc (c.getD j [])))).has S' w (bC v 0):=by
 refine acV h.out ?_ fun k hk=>hX k ((h.X k).2 ⟨0,by omega,hk⟩)
 have key:∀l:List Nat,(∀j∈l,j < c.length)→aI (CA.has S' w) (l.map fun j=>CA.sat (aA size enc (c.getD j []))) (l.map fun j=>bC v (j+1)):=by
  intro l
  induction l with
  |nil=>intro _;trivial
  |cons j l ih=>
   intro hl;have hj:=hl j List.mem_cons_self;refine⟨?_,ih fun i hi=>hl i (List.mem_cons_of_mem _ hi)⟩
   have hcj:c[j]? =some (c.getD j []):=by rw[zq3,zq2 hj];rfl
   obtain⟨vs,h1,h2⟩:=h.inn j _ hcj;exact acV h1 (h2.mono fun a u _ ha=>ha.step (Off.refl S w) (fun k hk=> .inl (hsub k hk))) fun k hk=>hX k ((h.X k).2 ⟨j+1,by omega,hk⟩)
 exact key js h.lt
end
section
variable{P:Program}{C:Ctx}{st:St}{α:Type}
variable{ops rest:List Oper}{acc:List (List Nat×List Nat)}{K:List (List Nat×List Nat)→St→Prop}{dst:Option Tmp}{d:Tmp}{op:Op}{ty t t':TypeId}{x y z:Operand}{k:IntKind}
theorem Go1.lenH{A:jO}{e:TypeId}{b i n size sz:Nat}[ht:bg P t e sz](hd:aC dst C.nt=true)(hx:st.ev x=some (.it (.one (.rel b (abl i)))))(hb:st.hp b= .ent (.abs A))(hA:jm A i e size n)
  (next:Reg P C ops rest (st.app dst ⟨.v (.int .i64 (n:Int)),[]⟩) (([b],[])::acc) K):Go1 P C ops dst (.call ⟨.builtin .len,#[x],#[t]⟩) ty rest st acc K:=
 Go1.bY [(b,.abs A)] [b] (fun c e' hc=>by simp at hc;simp[hc.1]) hd (fun c e' hc=>by simp at hc;obtain⟨rfl,rfl⟩:=hc;exact hb) (fun o ho _ st' E S a w hev hs hrd=>by
  obtain⟨⟨hxv,_⟩,_⟩:=hs.ev ((hev x (by simp[ho,Op.operands,Call.operands])).trans hx)
  obtain⟨vs,hown⟩:=hA _ _ _ _ _ (hs.hp b _ (hrd b _ List.mem_cons_self));have hxv':a.eval x=bC (E.sl b) i:=hxv;refine⟨fun i hi=>(by cases hi),.int .i64 (n:Int),?_,rfl⟩
  unfold execOp;rw[ho];rcases hown.2 with⟨hv,rfl⟩|⟨g,cap,cur,hv,_⟩
  ·simp[resolve,invoke,builtin,Builtin.len_,run_underlying ht.h,hxv',hv,goInt]
  ·simp[resolve,invoke,builtin,Builtin.len_,run_underlying ht.h,hxv',hv,goInt]) next
theorem Go1.oH{A:jO}{e:TypeId}{b j n size i:Nat}[ht:bg P t e size](hd:aC dst C.nt=true)(hx:st.ev x=some (.it (.one (.rel b (abl j)))))(hb:st.hp b= .ent (.abs A))(hA:jm A j e size n)(hy:st.ev y=some (.v (.int k (i:Int))))(hi:i < n)
  (next:Reg P C ops rest (st.app dst ⟨.it (.one (.rel b (oV j (i*size)))),[]⟩) (([b],[])::acc) K):Go1 P C ops dst (.indexAddr t x y) ty rest st acc K:=
 Go1.bY [(b,.abs A)] [b] (fun c e' hc=>by simp at hc;simp[hc.1]) hd (fun c e' hc=>by simp at hc;obtain⟨rfl,rfl⟩:=hc;exact hb) (fun o ho _ st' E S a w hev hs hrd=>by
  obtain⟨⟨hxv,_⟩,hid⟩:=hs.ev ((hev x (by simp[ho,Op.operands])).trans hx)
  have hxv':a.eval x=bC (E.sl b) j:=hxv;have hyv:a.eval y= .int k (i:Int):=(hs.ev ((hev y (by simp[ho,Op.operands])).trans hy)).1
  obtain⟨vs,hown⟩:=hA _ _ _ _ _ (hs.hp b _ (hrd b _ List.mem_cons_self));have hsz:=run_sizeOf ht.s w;rcases hown.2 with⟨_,h0⟩|⟨g,cap,cur,hv,_⟩
  ·omega
  ·refine⟨hid,.pointer (some ⟨g,i*size,none⟩),?_,⟨g,n,cap,hv,rfl⟩,rfl⟩;unfold execOp;rw[ho];simp[hxv',hv,hyv,Instr.indexAt,asIntOf,run_underlying ht.h,hsz,Addr.add_lit,hi]) next
theorem Go1.aiM{tO tI:TypeId}{b size off j:Nat}{enc:α→List CA}{js:List Nat}{c:List (List α)}[ht:iq P t](hd:aC dst C.nt=true)(hx:st.ev x=some (.it (.one (.rel b (oV 0 off)))))(hb:st.hp b= .ent (.abs (eU tO tI size enc js c)))(hj:js[off]? =some j)
  (next:Reg P C ops rest (st.app dst ⟨.it (.one (jE b (j+1))),[]⟩) (([b],[])::acc) K):Go1 P C ops dst (.load t x) ty rest st acc K:=
 Go1.bY [(b,.abs (eU tO tI size enc js c))] [b] (fun c e' hc=>by simp at hc;simp[hc.1]) hd (fun c e' hc=>by simp at hc;obtain⟨rfl,rfl⟩:=hc;exact hb) (fun o ho _ st' E S a w hev hs hrd=>by
  obtain⟨⟨⟨g,n',cap,h1,hv⟩,_⟩,hid⟩:=hs.ev ((hev x (by simp[ho,Op.operands])).trans hx)
  have hh:gK tO tI size enc js c (E.sl b) (E.fp b) S w:=hs.hp b _ (hrd b _ List.mem_cons_self);have hown:=hh.out;rw[h1]at hown;have hcell:=hown.cells (g:=g) rfl;have g2:=hcell off (bC (E.sl b) (j+1)) (by rw[List.getElem?_map,hj];rfl)
  have hjl:=hh.lt j (zq4 hj);obtain⟨vs,hi,_⟩:=hh.inn j (c[j]'hjl) (zq2 hjl)
  refine⟨fun i hi=>hid i hi,bC (E.sl b) (j+1),?_,rfl,ru hi⟩
  unfold execOp;rw[ho];have g2':w.cell? ⟨g,off,none⟩=some (bC (E.sl b) (j+1)):=by simpa[Addr.add_lit]using g2
  simp[hv,Instr.loadAt,Instr.sureAddr,loadVar,gT ht.h,g2']) next
theorem Go1.aam{tO tI:TypeId}{b size off j m:Nat}{enc:α→List CA}{js:List Nat}{c:List (List α)}{r:List α}{l:List CA}[ht:fE P t m](hd:aC dst C.nt=true)(hx:st.ev x=some (.it (.one (.rel b (oV (j+1) off)))))(hb:st.hp b= .ent (.abs (eU tO tI size enc js c)))(hj:c[j]? =some r)(hc:((r.flatMap enc).drop off).take m=l)(hl:l.length=m)
  (next:Reg P C ops rest (st.app dst ⟨.agg (l.map Atom.c),[]⟩) (([b],[])::acc) K):Go1 P C ops dst (.load t x) ty rest st acc K:=
 Go1.bY [(b,.abs (eU tO tI size enc js c))] [b] (fun c e' hc=>by simp at hc;simp[hc.1]) hd (fun c e' hc=>by simp at hc;obtain⟨rfl,rfl⟩:=hc;exact hb) (fun o ho _ st' E S a w hev hs hrd=>by
  obtain⟨⟨⟨g,n',cap,h1,hv⟩,_⟩,_⟩:=hs.ev ((hev x (by simp[ho,Op.operands])).trans hx)
  have hh:gK tO tI size enc js c (E.sl b) (E.fp b) S w:=hs.hp b _ (hrd b _ List.mem_cons_self);obtain⟨vs,hown,hvs⟩:=hh.inn j r hj;rw[h1]at hown;have hcell:=hown.cells (g:=g) rfl;have hall0:aI (CA.has S w) l ((vs.drop off).take m):=by rw[←hc];exact(hvs.drop off).take m
  obtain⟨us,hus,hall⟩:∃us,us=(vs.drop off).take m∧aI (CA.has S w) l us:=⟨_,rfl,hall0⟩;have hlen:=hall.length;have hrun:=run_loadCells_list (P:=P) w ⟨g,off,none⟩ us (fun j u hj=>by
   rw[hus,List.getElem?_take]at hj
   split at hj
   ·rw[List.getElem?_drop]at hj
    have:=hcell (off+j) u hj;simpa[Addr.add_lit]using this
   ·cases hj)
  have hsz:(P.info? t).map (·.size)=some us.length:=by rw[ht.s,←hlen,hl]
  refine⟨fun j hj=>?_,.agg us.toArray,?_,us,rfl,wF hall⟩
  ·simp only[AV.ids,AV0.ids,List.mem_flatMap]at hj;obtain⟨c,hc,hj⟩:=hj;obtain⟨c',_,rfl⟩:=List.mem_map.1 hc;cases hj
  ·unfold execOp;rw[ho];simp[hv,Instr.loadAt,Instr.sureAddr,loadVar,gT ht.h,run_sizeOf hsz,hrun]) next
theorem Go1.adv{A:jO}{e:TypeId}{b n:Nat}{i:Nat}[ht:bg P t e 1](hd:aC dst C.nt=true)(hx:st.ev x=some (.it (.one (.rel b (abl 0)))))(hb:st.hp b= .ent (.abs A))(hA:jm A 0 e 1 n)(hy:st.ev y=some (.v (.int k (i:Int))))(h1:i≤n)
  (next:Reg P C ops rest (st.app dst ⟨.it (.one (.rel b (amc i))),[]⟩) (([b],[])::acc) K):Go1 P C ops dst (.slice t x (some y) none none) ty rest st acc K:=
 Go1.bY [(b,.abs A)] [b] (fun c e' hc=>by simp at hc;simp[hc.1]) hd (fun c e' hc=>by simp at hc;obtain⟨rfl,rfl⟩:=hc;exact hb) (fun o ho _ st' E S a w hev hs hrd=>by
  obtain⟨⟨hxv,_⟩,hid⟩:=hs.ev ((hev x (by simp[ho,Op.operands])).trans hx)
  have hxv':a.eval x=bC (E.sl b) 0:=hxv;have hyv:a.eval y= .int k (i:Int):=(hs.ev ((hev y (by simp[ho,Op.operands])).trans hy)).1
  obtain⟨vs,hown⟩:=hA _ _ _ _ _ (hs.hp b _ (hrd b _ List.mem_cons_self));obtain⟨oa,cap,hv⟩:∃oa cap,bC (E.sl b) 0= .slice oa n cap:=by
   rcases hown.2 with⟨hv,h0⟩|⟨g,cap,cur,hv,_⟩
   ·exact⟨none,0,by rw[hv,h0]⟩
   ·exact⟨_,cap,hv⟩
  refine⟨fun i hi=>hid i hi,_,?_,⟨oa,n,cap,hv,h1,rfl⟩,rfl⟩
  unfold execOp;rw[ho];simp only[Option.map_some,Option.map_none,hxv',hv,hyv];simp[oQ ht.h ht.s (abm (w:=w) (b:=true) (n:=n) (cap:=cap) (k:=k) (show (0:Int)≤(i:Int)by omega) (show (i:Int)≤(n:Int)by omega))]) next
theorem acr{e:TypeId}{m size n off g n' cap:Nat}{v u:Value}{vs us:List Value}{w:World}(hs:(P.info? t).map (·.size)=some m)(hown:w.ownsRow 0 e size v n vs)(hv:v= .slice (some ⟨g,0,none⟩) n' cap)(hc:u.cells=us.toArray)(hm:us.length=m)(h1:∀x∈us,x.oneCell'=true)(hl:off+m≤n*size):
  ∃cs:Array Value,(storeVar t ⟨g,off,none⟩ u).run P w= .ok () (w.setRow g cs)∧(w.setRow g cs).ownsRow 0 e size v n (spl vs off us)∧g < w.heap.size:=by
 obtain⟨hxl,⟨he,_⟩|⟨g2,cap2,cur,he,_,hg,hnc,hcm,hcs,htk⟩⟩:=hown
 ·rw[hv]at he;cases he
 rw[hv]at he;cases he;subst hv;have hlen:off+us.length≤cur.toList.length:=by
  have:n*size≤cap*size:=Nat.mul_le_mul_right _ hnc;have hcz:cur.toList.length=cur.size:=Array.length_toList;omega
 have hrun:=run_store (P:=P) (off:=off) (n:=m) (cs:=cur.toList) (T:=e) (g:=g) hs hc hm w (by simpa using hg) (by omega) h1
 have hsp:=gU cur.toList off us hlen;have hcz:cur.toList.length=cur.size:=Array.length_toList;refine⟨_,hrun,?_,?_⟩
 ·have hvl:vs.length=n*size:=hxl;refine⟨?_,.inr ⟨g,cap,(spl cur.toList off us).toArray,rfl,Nat.zero_le _,?_,hnc,hcm,?_,?_⟩⟩
  ·rw[gU _ _ _ (by omega)];simp;omega
  ·exact setRow_heap w g _ _ _ _ hg
  ·rw[hsp];simp;omega
  ·rw[gU vs off us (by omega),hsp,←htk]
   simp only[List.take_append,List.length_take,List.length_append,List.length_drop,Array.length_toList,List.drop_take,List.take_take];have e1:min (n*size) off=off:=by omega
   have e2:min off cur.size=off:=by rw[Array.length_toList]at hlen;omega
   have e3:min off (n*size)=off:=by omega
   rw[e1,e2,e3];rw[List.take_of_length_le (l:=us) (by omega)]
 ·rw[Array.getElem?_eq_some_iff]at hg;exact hg.1
theorem Eff.uz{E:Env}{S:Nat→Prop}{w:World}{b g:Nat}{A A':jO}{cs:Array Value}(hl:∀k,S k→k < w.heap.size)(hS:∀k,E.fp b k→S k)(hg:E.fp b g)(hA:A'.has (E.blk b) (E.sl b) (E.fp b) S (w.setRow g cs)):
  Eff E S w [(b,.abs A)] ⟨.v undef,[(b,.ent (.abs A'))]⟩ undef (w.setRow g cs) E S:=by
 have ho:Off S w (w.setRow g cs):=Off.setRow w _ _ (hS g hg);refine
  {env:=fun i hi=>⟨rfl,rfl⟩,fpe:=fun _ _=>rfl,sub:=fun k hk=>hk,new:=fun k hk=> .inl hk,lt:=fun k hk=>Nat.lt_of_lt_of_le (hl k hk) ho.size,off:=Off.setRow w _ _ ⟨b,_,List.mem_cons_self,hg⟩,
   res:=rfl,ents:=fun i e' hi=>?_,blk:=fun i e' k hi hk=>?_,sep:=fun i i' e' e2 k hne h1 h2=>?_}
 ·simp at hi;obtain⟨rfl,rfl⟩:=hi
  exact hA
 ·simp at hi;obtain⟨rfl,rfl⟩:=hi
  exact⟨hS k hk,.inl ⟨i,_,List.mem_cons_self,hk⟩⟩
 ·simp at h1 h2;exact absurd (h1.1.trans h2.1.symm) hne
theorem Go1.uz{A A':jO}{b i off m:Nat}{v:AV0}(hs:(P.info? t).map (·.size)=some m)(hx:st.ev x=some (.it (.one (.rel b (oV i off)))))(hy:st.ev y=some (.it v))(hb:st.hp b= .ent (.abs A))(hn:v.cells.length=m)(h1:v.cells.all Atom.dL=true)
  (hA:∀(E:Env) S w u us g n cap,A.has (E.blk b) (E.sl b) (E.fp b) S w→aI (Atom.has E S w) v.cells us→u.cells=us.toArray→us.length=m→(∀x∈us,x.oneCell'=true)→bC (E.sl b) i= .slice (some ⟨g,0,none⟩) n cap→(∀k,E.fp b k→S k)→
   ∃cs:Array Value,(storeVar t ⟨g,off,none⟩ u).run P w= .ok () (w.setRow g cs)∧A'.has (E.blk b) (E.sl b) (E.fp b) S (w.setRow g cs)∧E.fp b g)
  (next:Reg P C ops rest (st.app none ⟨.v undef,[(b,.ent (.abs A'))]⟩) (([b],[b])::acc) K):Go1 P C ops none (.store t x y) ty rest st acc K:=by
 refine⟨[b],⟨.v undef,[(b,.ent (.abs A'))]⟩,fun o h2 h3 h4=>aY.eff [] [(b,.abs A)] (fun i hi=>?_) (h2▸(fun x hx=>by cases hx)) (fun b e hb=>by cases hb) (fun i e hi=>?_) (fun i s hi=>?_) (fun i s hi=>?_) (fun st' E S a w hev hhp hse _ hpre=>?_),next⟩
 ·rcases hi with⟨e,hi⟩|⟨e,hi⟩|⟨s,hi⟩
  ·cases hi
  ·simp at hi;simp[hi.1]
  ·simp at hi;simp[hi.1]
 ·simp at hi
  obtain⟨rfl,rfl⟩:=hi;exact⟨hb,_,by simp;rfl⟩
 ·simp at hi;obtain⟨rfl,_⟩:=hi;exact .inl ⟨_,by simp;rfl⟩
 ·simp at hi;rw[hi.2];rfl
 ·obtain⟨⟨⟨g,n',cap',hE1,hv⟩,_⟩,_⟩:=hse.ev ((hev x (by simp[h3,Op.operands])).trans hx)
  obtain⟨hu,hids⟩:=hse.ev ((hev y (by simp[h3,Op.operands])).trans hy)
  have hb':=hpre b (.abs A) (by simp)
  obtain⟨us,hc',hallu,hone⟩:=AV0.has.cells hu h1;have hX:∀k,E.fp b k→S k:=fun k hk=>(hse.blk b _ k hb' hk).1
  obtain⟨cs,hrun,hA',hg⟩:=hA E S w _ us g n' cap' (hse.hp b _ hb') hallu hc' (by rw[←hallu.length,hn]) hone hE1 hX
  refine⟨⟨fun i hi=>(by cases hi),fun i e hi j hj=>?_⟩,fun K Q hK=>?_⟩
  ·simp at hi
   obtain⟨rfl,rfl⟩:=hi;cases hj
  ·unfold Oper.wp execOp;rw[h3];simp only[show a.eval x=_ from hv,Instr.storeAt,Instr.sureAddr,Sem.run_bind,Sem.run_pure,Result.andThen_ok,hrun]
   exact hK undef _ _ _ (Eff.uz hse.lt hX hg hA')
theorem ahM{β:Type}(f:Nat→β):∀(l:List Nat) (i j:Nat),i < l.length→spl (l.map f) i [f j]=(l.set i j).map f
 |[],i,j,h=>by simp at h
 |x::l,0,j,h=>by cases l <;> simp[spl]
 |x::l,i+1,j,h=>by simp only[List.map_cons,spl,List.set_cons_succ];rw[ahM f l i j (by simpa using h)]
theorem zk{w:World}{e:TypeId}{size n g:Nat}{v:Value}{vs:List Value}{cs:Array Value}(h:w.ownsRow 0 e size v n vs)(hne:v.ownBlock≠some g):(w.setRow g cs).ownsRow 0 e size v n vs:=
 eT h fun k hk=>setRow_other w g k _ fun e=>hne (by rw[hk,e])
theorem Go1.ad2{tO tI:TypeId}{b size off j:Nat}{enc:α→List CA}{js:List Nat}{c:List (List α)}(hs:(P.info? t).map (·.size)=some 1)(hx:st.ev x=some (.it (.one (.rel b (oV 0 off)))))(hy:st.ev y=some (.it (.one (jE b (j+1)))))(hb:st.hp b= .ent (.abs (eU tO tI size enc js c)))(ho:off < js.length)(hj:j < c.length)
  (next:Reg P C ops rest (st.app none ⟨.v undef,[(b,.ent (.abs (eU tO tI size enc (js.set off j) c)))]⟩) (([b],[b])::acc) K):Go1 P C ops none (.store t x y) ty rest st acc K:=by
 refine Go1.uz (i:=0) (off:=off) (v:= .one (jE b (j+1))) hs hx hy hb rfl rfl (fun E S w u us g n cap hh hu hc hm h1 hg hX=>?_) next
 have hh:gK tO tI size enc js c (E.sl b) (E.fp b) S w:=hh;have hus:us=[bC (E.sl b) (j+1)]:=by
  match us,hu with
  |[u'],h=>exact congrArg (fun x=>[x]) h.1.1
 obtain⟨cs,hrun,hown,hlt⟩:=acr (P:=P) (t:=t) (m:=1) (size:=1) (off:=off) hs hh.out hg hc hm h1 (by omega)
 have hgX:E.fp b g:=(hh.X g).2 ⟨0,by omega,by rw[hg];rfl⟩
 have ho':Off S w (w.setRow g cs):=Off.setRow w _ _ (hX g hgX);refine⟨cs,hrun,?_,hgX⟩;show gK tO tI size enc (js.set off j) c (E.sl b) (E.fp b) S (w.setRow g cs);refine⟨?_,fun i hi=>?_,fun i l hi=>?_,hh.sep,hh.X⟩
 ·rw[hus,ahM (fun j=>bC (E.sl b) (j+1)) js off j ho]at hown
  rw[List.length_set];exact hown
 ·rcases List.mem_or_eq_of_mem_set hi with h|h
  ·exact hh.lt i h
  ·rw[h];exact hj
 ·obtain⟨vs,g1,g2⟩:=hh.inn i l hi;have hil:i < c.length:=by
   rcases Nat.lt_or_ge i c.length with h|h
   ·exact h
   ·rw[List.getElem?_eq_none h]at hi;cases hi
  exact⟨vs,zk g1 (hh.sep 0 (i+1) g (by omega) (by omega) (by omega) (by rw[hg];rfl)),g2.mono fun a u _ ha=>ha.step ho' (fun k hk=> .inl hk)⟩
theorem Go1.yS{tO tI:TypeId}{b size off j m:Nat}{enc:α→List CA}{js:List Nat}{c:List (List α)}{v:AV0}{r r':List α}{cells2:List CA}(hs:(P.info? t).map (·.size)=some m)(hx:st.ev x=some (.it (.one (.rel b (oV (j+1) off)))))(hy:st.ev y=some (.it v))(hb:st.hp b= .ent (.abs (eU tO tI size enc js c)))
  (hn:v.cells.length=m) (h1:v.cells.all Atom.dL=true) (hcl:aQ v.cells=some cells2) (hj:c[j]? =some r) (hr:r'.length=r.length) (hl:off+m≤r.length*size) (hr':spl (r.flatMap enc) off cells2=r'.flatMap enc)
  (next:Reg P C ops rest (st.app none ⟨.v undef,[(b,.ent (.abs (eU tO tI size enc js (c.set j r'))))]⟩) (([b],[b])::acc) K):Go1 P C ops none (.store t x y) ty rest st acc K:=by
 refine Go1.uz (i:=j+1) (off:=off) (v:=v) hs hx hy hb hn h1 (fun E S w u us g n cap hh hu hc hm h1 hg hX=>?_) next
 have hh:gK tO tI size enc js c (E.sl b) (E.fp b) S w:=hh;have hjl:j < c.length:=by
  rcases Nat.lt_or_ge j c.length with h|h
  ·exact h
  ·rw[List.getElem?_eq_none h]at hj;cases hj
 obtain⟨vs,hown0,hvs⟩:=hh.inn j r hj;obtain⟨cs,hrun,hown,hlt⟩:=acr (P:=P) (t:=t) (m:=m) (size:=size) (off:=off) hs hown0 hg hc hm h1 hl;have hgX:E.fp b g:=(hh.X g).2 ⟨j+1,by omega,by rw[hg];rfl⟩
 have ho':Off S w (w.setRow g cs):=Off.setRow w _ _ (hX g hgX);rw[dJ hcl]at hu;have hu':=iC hu;refine⟨cs,hrun,?_,hgX⟩;show gK tO tI size enc js (c.set j r') (E.sl b) (E.fp b) S (w.setRow g cs);refine⟨zk hh.out (hh.sep (j+1) 0 g (by omega) (by omega) (by omega) (by rw[hg];rfl)),fun i hi=>by rw[List.length_set];exact hh.lt i hi,fun i l hi=>?_,by rw[List.length_set];exact hh.sep,by rw[List.length_set];exact hh.X⟩
 rw[List.getElem?_set]at hi
 by_cases hij:j=i
 ·subst hij;rw[if_pos rfl,if_pos hjl]at hi;cases hi;refine⟨_,by rw[hr];exact hown,?_⟩
  rw[←hr'];exact aI.spl off (hvs.mono fun a u _ ha=>ha.step ho' (fun k hk=> .inl hk)) (hu'.mono fun a u _ ha=>ha.step ho' (fun k hk=> .inl hk))
 ·rw[if_neg hij]at hi;have hil:i < c.length:=by
   rcases Nat.lt_or_ge i c.length with h|h
   ·exact h
   ·rw[List.getElem?_eq_none h]at hi;cases hi
  obtain⟨vs',g1,g2⟩:=hh.inn i l hi;exact⟨vs',zk g1 (hh.sep (j+1) (i+1) g (by omega) (by omega) (by omega) (by rw[hg];rfl)),g2.mono fun a u _ ha=>ha.step ho' (fun k hk=> .inl hk)⟩
end
theorem abp{l:List Value}{j:Nat}:bC (.agg l.toArray) j=l.getD j undef:=rfl
theorem qK{w:World}{e:TypeId}{size n k:Nat}{v:Value}{vs:List Value}(h:w.ownsRow 0 e size v n vs)(hk:v.ownBlock=some k):k < w.heap.size:=by
 rcases h.2 with⟨rfl,_⟩|⟨g,_,_,rfl,_,hg,_⟩
 ·cases hk
 ·simp[Value.ownBlock]at hk;subst hk
  rw[Array.getElem?_eq_some_iff]at hg;exact hg.1
theorem Eff.aoC{E:Env}{S X:Nat→Prop}{w w':World}{b:Nat}{A:jO}{sV v:Value}{R:Nat→Value→Value→Prop}{pre:List (Nat×Ent)}{gones:List (Nat×Slot)}
  (hl:∀k,S k→k < w.heap.size) (hS:∀c e k,(c,e)∈pre→e.at E c k→S k) (hnot:∀e,(b,e)∉pre) (hg:∀c s,(c,s)∈gones→s= .gone∧∃e,(c,e)∈pre)
  (ho:Off (fun k=>∃c e,(c,e)∈pre∧e.at E c k) w w') (hA:A.has (E.blk b) sV X (fun k=>S k∨X k) w')
  (hX:∀k,X k→(∃c e,(c,e)∈pre∧e.at E c k)∨w.heap.size≤k) (hXl:∀k,X k→k < w'.heap.size) (hR:R (E.blk b) sV v) (hone:v.oneCell'=true):
  Eff E S w pre ⟨.it (.one (.rel b R)),gones++[(b,.ent (.abs A))]⟩ v w' ⟨E.blk,upd E.sl b sV,upd E.fp b X⟩ (fun k=>S k∨X k):=by
 have hSS:∀k,(S k∨X k)→S k∨w.heap.size≤k:=fun k hk=>hk.elim .inl fun hk=>(hX k hk).imp (fun⟨c,e,h1,h2⟩=>hS c e k h1 h2) id
 have hoS:Off S w w':=ho.mono fun k ⟨c,e,h1,h2⟩=>hS c e k h1 h2
 have hent:∀i e,(i,Slot.ent e)∈gones++[(b,Slot.ent (Ent.abs A))]→i=b∧e= .abs A:=by
  intro i e hi;rcases List.mem_append.1 hi with hi|hi
  ·have:=(hg _ _ hi).1;cases this
  ·simp at hi;exact hi
 refine
  {env:=fun i hi=>?_,fpe:=fun i hi=>?_,sub:=fun k hk=> .inl hk,new:=hSS,lt:=fun k hk=>?_,off:=ho,res:=⟨by show R (E.blk b) (upd E.sl b sV b) v;rw[upd_same];exact hR,hone⟩,
   ents:=fun i e hi=>?_,blk:=fun i e k hi hk=>?_,sep:=fun i i' e e' k hne h1 h2=>?_}
 ·by_cases e:i=b
  ·subst e;obtain⟨e,he⟩:=hi ⟨_,by simp;exact .inr rfl⟩
   exact absurd he (hnot e)
  ·exact⟨rfl,upd_ne _ _ e⟩
 ·exact upd_ne _ _ fun e=>hi (.ent (.abs A)) (by simp[e])
 ·rcases hk with hk|hk
  ·exact Nat.lt_of_lt_of_le (hl k hk) ho.size
  ·exact hXl k hk
 ·obtain⟨rfl,rfl⟩:=hent i e hi;show A.has (E.blk i) (upd E.sl i sV i) (upd E.fp i X i) _ w';rw[upd_same,upd_same];exact hA
 ·obtain⟨rfl,rfl⟩:=hent i e hi;have hk':upd E.fp i X i k:=hk;rw[upd_same]at hk';exact⟨.inr hk',hX k hk'⟩
 ·obtain⟨rfl,_⟩:=hent _ _ h1;obtain⟨rfl,_⟩:=hent _ _ h2;exact absurd rfl hne
section
variable{α:Type}
structure anA(tI:TypeId)(size:Nat)(enc:α→List CA)(l:List α)(v:Value)(X S:Nat→Prop)(w:World):Prop where
 lit:(aL 1 1 [.val (bC v 1)]).has S w (bC v 0)
 row:∃vs,w.ownsRow 0 tI size (bC v 1) l.length vs∧aI (CA.has S w) (l.flatMap enc) vs
 X:∀k,X k↔(bC v 1).ownBlock=some k
def afR(tI:TypeId)(size:Nat)(enc:α→List CA)(l:List α):jO where
 has _ v X S w:=anA tI size enc l v X S w
 step:=fun {b v X S S' w w'} h ho hs hX=>by
  obtain⟨vs,h1,h2⟩:=h.row;exact⟨(aL 1 1 [.val (bC v 1)]).step h.lit ho hs,⟨vs,eT h1 fun k hk=>hX k ((h.X k).2 hk),h2.mono fun a u _ ha=>ha.step ho hs⟩,h.X⟩
end
theorem lX.retm{C:Ctx}{st:St}{E:Env}{S:Nat→Prop}{a:Act}{w:World}(hs:lX C st E S a w){t:Nat}{v:AV}(hv:v.has E S w (a.tmps.getD t undef))(hid:∀b∈v.ids,(st.hp b).used=true):lX C ⟨upd st.tm t (some v),st.hp⟩ E S a w:=
 {dfr:=hs.dfr,nt:=hs.nt,cT:=hs.cT,cT0:=hs.cT0,cS:=hs.cS,lt:=hs.lt
  tm:=fun i u hu=>by
   have hu':upd st.tm t (some v) i=some u:=hu;by_cases h:i=t
   ·subst h;rw[upd_same]at hu';cases hu';exact hv
   ·rw[upd_ne _ _ h]at hu';exact hs.tm i u hu'
  tid:=fun i u hu=>by
   have hu':upd st.tm t (some v) i=some u:=hu;by_cases h:i=t
   ·subst h;rw[upd_same]at hu';cases hu';exact hid
   ·rw[upd_ne _ _ h]at hu';exact hs.tid i u hu'
  hp:=hs.hp,hid:=hs.hid,blk:=hs.blk,sep:=hs.sep,off:=hs.off,env:=hs.env,gl:=hs.gl}
section
variable{P:Program}{C:Ctx}{st:St}{α:Type}
variable{ops rest:List Oper}{acc:List (List Nat×List Nat)}{K:List (List Nat×List Nat)→St→Prop}{dst:Option Tmp}{d:Tmp}{op:Op}{ty t t':TypeId}{x y z:Operand}{k:IntKind}
theorem Go1.litH{e tI:TypeId}{r b n size bytes:Nat}{z0:Value}{enc:α→List CA}{l:List α}{cells:List CA}[ht:bg P t e 1][he:dZ P e [z0] bytes](hd:aC (some d) C.nt=true)(hx:st.tm r=some (.own b))(hb:st.hp b= .ent (.row tI size n cells))(hf:st.hp d= .free)(hn:n=l.length)(hc:cells=l.flatMap enc)
  (next:Reg P C ops rest (st.app (some d) ⟨.it (.one (jE d 0)),[(b,.gone),(d,.ent (.abs (afR tI size enc l)))]⟩) (([b,d],[b,d])::acc) K):Go1 P C ops (some d) (.buildSlice t 1 #[(0,.tmp r)]) ty rest st acc K:=by
 subst hn hc;have hbd:d≠b:=by rintro rfl;rw[hf]at hb;cases hb
 refine⟨[b,d],_,fun o h2 h3 h4=>aY.eff [] [(b,.row tI size l.length (l.flatMap enc))] (fun c hc=>?_) (h2▸bZ hd) (fun c e hc=>by cases hc) (fun c e hc=>?_) (fun c s hc=>?_) (fun c s hc=>?_) (fun st' E S a w hev hhp hs _ hpre=>?_),next⟩
 ·rcases hc with⟨e,hc⟩|⟨e,hc⟩|⟨s,hc⟩
  ·cases hc
  ·simp at hc;simp[hc.1]
  ·simp at hc;rcases hc with hc|hc <;> simp[hc.1]
 ·simp at hc;obtain⟨rfl,rfl⟩:=hc;exact⟨hb,_,List.mem_cons_self⟩
 ·simp at hc;rcases hc with⟨rfl,rfl⟩|⟨rfl,rfl⟩
  ·exact .inl ⟨_,List.mem_cons_self⟩
  ·exact .inr hf
 ·simp at hc;rcases hc with⟨rfl,rfl⟩|⟨rfl,rfl⟩ <;> rfl
 ·have hx':st'.tm r=some (.own b):=(hev (.tmp r) (by rw[h3];simp[Op.operands])).trans hx
  obtain⟨hxv,h1⟩:AV.has E S w (.own b) (a.tmps.getD r undef):=hs.tm r _ hx';have hbe:=hpre b _ List.mem_cons_self;obtain⟨vs,hown,hvs⟩:=hs.hp b _ hbe;have hS:∀k,(E.sl b).ownBlock=some k→S k:=fun k hk=>(hs.blk b _ k hbe hk).1
  have hs2:=hs.retm (t:=r) (v:= .v (E.sl b)) hxv (fun i hi=>by cases hi)
  have hp:evp ⟨upd st'.tm r (some (AV.v (E.sl b))),st'.hp⟩ (#[(0,Operand.tmp r)]:Array (Nat×Operand)).toList=some [(0,.one (.c (.val (E.sl b))))]:=by
   show (match upd st'.tm r (some (AV.v (E.sl b))) r,some []with|some (.it v),some ps=>some ((0,v)::ps)|_,_=>none)=_
   rw[upd_same]
  have hone:(E.sl b).oneCell'=true:=ru hown;obtain⟨us,hrun,hlen,hall,hmx⟩:=run_parts (P:=P) (t:=t) (ht:=ht) (he:=he) (n:=1) (l:=[.c (.val (E.sl b))]) (m:=[.val (E.sl b)]) hs2 h3 hp (by simp[AV0.cells,Atom.dL,hone]) (by decide) (by simp[eH,placesOf,madeCells,AV0.cells,spl]) rfl rfl
  have hus:us=[E.sl b]:=by
   match us,hall with
   |[u],h=>rw[show u=E.sl b from h.1]
  subst hus;have hsz:w.heap.size < (w.alloc (.cells #[E.sl b] e)).heap.size:=by simp
  refine⟨⟨fun i hi=>?_,fun c e hc i hi=>?_⟩,fun K Q hK=>?_⟩
  ·simp[AV.ids,AV0.ids,Atom.ids]at hi;subst hi;simp[fq,Slot.used]
  ·simp at hc
   obtain⟨rfl,rfl⟩:=hc;cases hi
  ·unfold Oper.wp;rw[hrun];have ho:=Off.alloc (fun k=>∃c e',(c,e')∈[(b,Ent.row tI size l.length (l.flatMap enc))]∧e'.at E c k) w (.cells #[E.sl b] e)
   refine hK _ _ _ _ (Eff.aoC (A:=afR tI size enc l) (sV:= .agg #[.slice (some ⟨w.heap.size,0,none⟩) 1 1,E.sl b]) (X:=fun k=>(E.sl b).ownBlock=some k) (R:=abl 0) (gones:=[(b,.gone)]) hs.lt
    (fun c e' k hc hk=>by simp at hc;obtain⟨rfl,rfl⟩:=hc;exact hS k hk) (fun e' hc=>by simp at hc;exact hbd hc.1) (fun c s hc=>by simp at hc;obtain⟨rfl,rfl⟩:=hc;exact⟨rfl,_,List.mem_cons_self⟩) ho ?_ (fun k hk=> .inl ⟨b,_,List.mem_cons_self,hk⟩) (fun k hk=>Nat.lt_trans (qK hown hk) hsz) rfl rfl)
   have ho':=Off.alloc S w (.cells #[E.sl b] e);have hsub:∀k,(S k∨(E.sl b).ownBlock=some k)→S k∨w.heap.size≤k:=fun k hk=> .inl (hk.elim id (hS k))
   refine⟨?_,⟨vs,?_,hvs.mono fun a u _ ha=>ha.step ho' hsub⟩,fun k=>Iff.rfl⟩
   ·refine bB.2 ⟨_,_,rfl,Nat.le_refl _,hmx,(fun h=>by cases h),rfl,fun i c hc=>?_⟩
    have hi:i=0:=by
     rcases i with _|i
     ·rfl
     ·simp at hc
    subst hi;cases hc;refine⟨w.heap.size,0,E.sl b,rfl,fun hS2=>absurd (hs.lt _ (hS2.elim id (hS _))) (Nat.lt_irrefl _),?_,rfl⟩
    exact cells_of_block (cs:=[E.sl b]) (heap_alloc_new w (.cells #[E.sl b] e)) 0 0 (E.sl b) rfl
   ·exact eT hown fun k hk=>Below.heap_alloc w _ k (qK hown hk)
theorem getD_lt{β:Type}{l m:List β}{j:Nat}{u:β}(h:j < l.length):(l++m).getD j u=l.getD j u:=by
 rw[zq3,zq3,List.getElem?_append_left h]
theorem Go1.yZ{tO tI:TypeId}{b b2 bytes size:Nat}{z0:Value}{enc:α→List CA}{js:List Nat}{c:List (List α)}{l:List α}[ht:bg P t tO 1][he:dZ P tO [z0] bytes](hd:aC (some d) C.nt=true)(hx:st.ev x=some (.it (.one (jE b 0))))(hy:st.ev y=some (.it (.one (jE b2 0))))
  (hb:st.hp b= .ent (.abs (eU tO tI size enc js c))) (hb2:st.hp b2= .ent (.abs (afR tI size enc l))) (hbb:b≠b2) (hf:st.hp d= .free) (h63:js.length+1≤9223372036854775807) (hbytes:(js.length+1)*bytes≤140737488355328)
  (next:Reg P C ops rest (st.app (some d) ⟨.it (.one (jE d 0)),[(b,.gone),(b2,.gone),(d,.ent (.abs (eU tO tI size enc (js++[c.length]) (c++[l]))))]⟩) (([b,b2,d],[b,b2,d])::acc) K):Go1 P C ops (some d) (.call ⟨.builtin .append,#[x,y],#[t,t]⟩) ty rest st acc K:=by
 have hbd:d≠b:=by rintro rfl;rw[hf]at hb;cases hb
 have hbd2:d≠b2:=by rintro rfl;rw[hf]at hb2;cases hb2
 refine⟨[b,b2,d],_,fun o h2 h3 h4=>aY.eff [] [(b,.abs (eU tO tI size enc js c)),(b2,.abs (afR tI size enc l))] (fun i hi=>?_) (h2▸bZ hd) (fun c e hc=>by cases hc) (fun i e hi=>?_) (fun i s hi=>?_) (fun i s hi=>?_) (fun st' E S a w hev hhp hs _ hpre=>?_),next⟩
 ·rcases hi with⟨e,hi⟩|⟨e,hi⟩|⟨s,hi⟩
  ·cases hi
  ·simp at hi;rcases hi with hi|hi <;> simp[hi.1]
  ·simp at hi;rcases hi with hi|hi|hi <;> simp[hi.1]
 ·simp at hi;rcases hi with⟨rfl,rfl⟩|⟨rfl,rfl⟩
  ·exact⟨hb,.gone,by simp⟩
  ·exact⟨hb2,.gone,by simp⟩
 ·simp at hi;rcases hi with⟨rfl,rfl⟩|⟨rfl,rfl⟩|⟨rfl,rfl⟩
  ·exact .inl ⟨_,List.mem_cons_self⟩
  ·exact .inl ⟨_,List.mem_cons_of_mem _ List.mem_cons_self⟩
  ·exact .inr hf
 ·simp at hi;rcases hi with⟨rfl,rfl⟩|⟨rfl,rfl⟩|⟨rfl,rfl⟩ <;> rfl
 ·obtain⟨⟨hxv,_⟩,_⟩:=hs.ev ((hev x (by simp[h3,Op.operands,Call.operands])).trans hx)
  obtain⟨⟨hyv,_⟩,_⟩:=hs.ev ((hev y (by simp[h3,Op.operands,Call.operands])).trans hy)
  have hxv:a.eval x=bC (E.sl b) 0:=hxv;have hyv:a.eval y=bC (E.sl b2) 0:=hyv;have hbe:=hpre b (.abs (eU tO tI size enc js c)) (by simp)
  have hbe2:=hpre b2 (.abs (afR tI size enc l)) (by simp)
  have hR:gK tO tI size enc js c (E.sl b) (E.fp b) S w:=hs.hp b _ hbe;have hL:anA tI size enc l (E.sl b2) (E.fp b2) S w:=hs.hp b2 _ hbe2;have hsep:∀k,E.fp b k→¬E.fp b2 k:=fun k hk=>hs.sep b b2 _ _ k hbb hbe hbe2 hk
  have hS:∀k,E.fp b k→S k:=fun k hk=>(hs.blk b _ k hbe hk).1
  have hS2:∀k,E.fp b2 k→S k:=fun k hk=>(hs.blk b2 _ k hbe2 hk).1
  obtain⟨lvs,hlown,hlvs⟩:=hL.row;obtain⟨v',w',news,h5,h6,h7,h8,h9⟩:=pO (P:=P) w t o.type tO [z0] 1 bytes ht.h he ht.s rfl (bC (E.sl b) 0) js.length _ hR.out (u:=bC (E.sl b2) 0) hL.lit (by simp[CA.dL,ru hlown]) (by simp only[maxLen];omega) hbytes
  have hnews:news=[bC (E.sl b2) 1]:=by
   match news,h9 with
   |[u],h=>rw[show u=bC (E.sl b2) 1 from h.1]
  subst hnews;refine⟨⟨fun i hi=>?_,fun c e hc i hi=>?_⟩,fun K Q hK=>?_⟩
  ·simp[AV.ids,AV0.ids,Atom.ids]at hi;subst hi;simp[fq,Slot.used]
  ·simp at hc
   obtain⟨rfl,rfl⟩:=hc;cases hi
  ·have hfp0:∀i k,i < c.length+1→(bC (E.sl b) i).ownBlock=some k→E.fp b k:=fun i k hi hk=>(hR.X k).2 ⟨i,hi,hk⟩
   have hfpL:∀k,(bC (E.sl b2) 1).ownBlock=some k→E.fp b2 k:=fun k hk=>(hL.X k).2 hk
   have hltI:∀j k,j < c.length→(bC (E.sl b) (j+1)).ownBlock=some k→k < w.heap.size:=fun j k hj hk=>by
    obtain⟨vs,g1,_⟩:=hR.inn j _ (zq2 hj)
    exact qK g1 hk
   generalize hsV:(Value.agg (v'::((List.range c.length).map (fun j=>bC (E.sl b) (j+1))++[bC (E.sl b2) 1])).toArray)=sV
   have e0:bC sV 0=v':=by rw[←hsV];rfl
   have e1:∀j,j < c.length→bC sV (j+1)=bC (E.sl b) (j+1):=by
    intro j hj;rw[←hsV,abp,List.getD_cons_succ,getD_lt (by simpa using hj),zq3,List.getElem?_map,List.getElem?_range hj];rfl
   have e2:bC sV (c.length+1)=bC (E.sl b2) 1:=by
    rw[←hsV,abp,List.getD_cons_succ,zq3,List.getElem?_append_right (by simp)];simp
   have hstay:∀{e:TypeId} {size n:Nat} {u:Value} {vs:List Value},w.ownsRow 0 e size u n vs→(∀k,u.ownBlock=some k→(bC (E.sl b) 0).ownBlock≠some k)→w'.ownsRow 0 e size u n vs:=fun hu hne=>
    eT hu fun k hk=>h7.block k (qK hu hk) (fun e=>hne k hk e.symm)
   have hneI:∀j k,j < c.length→(bC (E.sl b) (j+1)).ownBlock=some k→(bC (E.sl b) 0).ownBlock≠some k:=fun j k hj hk=>hR.sep (j+1) 0 k (by omega) (by omega) (by omega) hk
   have hneL:∀k,(bC (E.sl b2) 1).ownBlock=some k→(bC (E.sl b) 0).ownBlock≠some k:=fun k hk h0=>hsep k (hfp0 0 k (by omega) h0) (hfpL k hk)
   have ho:Off (fun k=>∃i e,(i,e)∈[(b,Ent.abs (eU tO tI size enc js c)),(b2,Ent.abs (afR tI size enc l))]∧e.at E i k) w w':=lH h7 (fun k hk=>⟨b,_,List.mem_cons_self,hfp0 0 k (by omega) hk⟩)
   have hoS:Off S w w':=lH h7 (fun k hk=>hS k (hfp0 0 k (by omega) hk))
   have hXin:∀i k,i < c.length+2→(bC sV i).ownBlock=some k→E.fp b k∨E.fp b2 k∨w.heap.size≤k:=by
    intro i k hi hk;rcases i with _|i
    ·rw[e0]at hk;rcases h8 k hk with h|h
     ·exact .inl (hfp0 0 k (by omega) h)
     ·exact .inr (.inr h)
    ·by_cases hic:i < c.length
     ·rw[e1 i hic]at hk;exact .inl (hfp0 (i+1) k (by omega) hk)
     ·have:i=c.length:=by omega
      subst this;rw[e2]at hk;exact .inr (.inl (hfpL k hk))
   have hXS:∀k,(∃i,i < c.length+2∧(bC sV i).ownBlock=some k)→S k∨w.heap.size≤k:=fun k ⟨i,hi,hk⟩=>(hXin i k hi hk).elim (fun h=> .inl (hS k h)) (fun h=>h.imp (hS2 k) id)
   have hin:∀j r,(c++[l])[j]? =some r→∃vs,w'.ownsRow 0 tI size (bC sV (j+1)) r.length vs∧aI (CA.has (fun k=>S k∨∃i,i < c.length+2∧(bC sV i).ownBlock=some k) w') (r.flatMap enc) vs:=by
    intro j r hj;have hsub:∀k,(S k∨∃i,i < c.length+2∧(bC sV i).ownBlock=some k)→S k∨w.heap.size≤k:=fun k hk=>hk.elim .inl (hXS k)
    by_cases hjc:j < c.length
    ·rw[List.getElem?_append_left hjc]at hj
     obtain⟨vs,g1,g2⟩:=hR.inn j r hj;rw[e1 j hjc];exact⟨vs,hstay g1 (fun k hk=>hneI j k hjc hk),g2.mono fun a u _ ha=>ha.step hoS hsub⟩
    ·have hlt:j < (c++[l]).length:=by
      rcases Nat.lt_or_ge j (c++[l]).length with h|h
      ·exact h
      ·rw[List.getElem?_eq_none h]at hj;cases hj
     have hjc':j=c.length:=by rw[List.length_append,List.length_singleton]at hlt;omega
     subst hjc';rw[List.getElem?_append_right (Nat.le_refl _),Nat.sub_self]at hj
     cases hj;rw[e2];exact⟨lvs,hstay hlown hneL,hlvs.mono fun a u _ ha=>ha.step hoS hsub⟩
   have hltX:∀i k,i < c.length+2→(bC sV i).ownBlock=some k→k < w'.heap.size:=by
    intro i k hi hk;rcases i with _|i
    ·rw[e0]at hk;exact qK h6 hk
    ·obtain⟨vs,g1,_⟩:=hin i ((c++[l])[i]'(by simp;omega)) (zq2 (by simp;omega))
     exact qK g1 hk
   unfold Oper.wp;have hrun:(execOp a.eval o).run P w= .ok (.value v') w':=by
    unfold execOp;rw[h3];simp[resolve,invoke,builtin,hxv,hyv,h5]
   rw[hrun];refine hK _ _ _ _ (Eff.aoC (A:=eU tO tI size enc (js++[c.length]) (c++[l])) (sV:=sV) (X:=fun k=>∃i,i < c.length+2∧(bC sV i).ownBlock=some k) (R:=abl 0) (gones:=[(b,.gone),(b2,.gone)]) hs.lt
    (fun i e k hi hk=>?_) (fun e hi=>?_) (fun i s hi=>?_) ho ?_ (fun k ⟨i,hi,hk⟩=>?_) (fun k ⟨i,hi,hk⟩=>hltX i k hi hk) e0.symm (ru h6))
   ·simp at hi;rcases hi with⟨rfl,rfl⟩|⟨rfl,rfl⟩
    ·exact hS k hk
    ·exact hS2 k hk
   ·simp at hi;rcases hi with⟨h,_⟩|⟨h,_⟩
    ·exact hbd h
    ·exact hbd2 h
   ·simp at hi;rcases hi with⟨rfl,rfl⟩|⟨rfl,rfl⟩
    ·exact⟨rfl,_,List.mem_cons_self⟩
    ·exact⟨rfl,_,List.mem_cons_of_mem _ List.mem_cons_self⟩
   ·refine⟨?_,fun j hj=>?_,hin,fun i j k hi hj hij h1 h2=>?_,fun k=>by rw[List.length_append,List.length_singleton]⟩
    ·rw[e0,List.length_append,List.length_singleton,List.map_append];have hm:js.map (fun j=>bC sV (j+1))=js.map fun j=>bC (E.sl b) (j+1):=List.map_congr_left fun j hj=>e1 j (hR.lt j hj)
     rw[hm];simpa[e2]using h6
    ·rw[List.length_append,List.length_singleton];rcases List.mem_append.1 hj with h|h
     ·exact Nat.lt_succ_of_lt (hR.lt j h)
     ·simp at h;omega
    ·rw[List.length_append,List.length_singleton]at hi hj;have key:∀i j,i < c.length+2→j < c.length+2→i < j→(bC sV i).ownBlock=some k→(bC sV j).ownBlock=some k→False:=by
      intro i j hi hj hlt h1 h2;rcases j with _|j
      ·omega
      have hkl:k < w.heap.size:=by
       by_cases hjc:j < c.length
       ·rw[e1 j hjc]at h2;exact hltI j k hjc h2
       ·have:j=c.length:=by omega
        subst this;rw[e2]at h2;exact qK hlown h2
      have g1:i < c.length+1∧(bC (E.sl b) i).ownBlock=some k:=by
       rcases i with _|i
       ·rw[e0]at h1;rcases h8 k h1 with h|h
        ·exact⟨by omega,h⟩
        ·omega
       ·rw[e1 i (by omega)]at h1;exact⟨by omega,h1⟩
      by_cases hjc:j < c.length
      ·rw[e1 j hjc]at h2;exact hR.sep i (j+1) k g1.1 (by omega) (by omega) g1.2 h2
      ·have:j=c.length:=by omega
       subst this;rw[e2]at h2;exact hsep k (hfp0 i k g1.1 g1.2) (hfpL k h2)
     rcases Nat.lt_or_gt_of_ne hij with h|h
     ·exact key i j (by omega) (by omega) h h1 h2
     ·exact key j i (by omega) (by omega) h h2 h1
   ·rcases hXin i k hi hk with h|h|h
    ·exact .inl ⟨b,_,List.mem_cons_self,h⟩
    ·exact .inl ⟨b2,_,List.mem_cons_of_mem _ List.mem_cons_self,h⟩
    ·exact .inr h
end
end
section
section
variable{ι:Type}
structure aa6(φ:ι→Prop)(t:TypeId)(cells:ι→List Atom)(R:ι→List (Nat×Ent))(bk:Nat)(X S:Nat→Prop)(w:World)(p:ι)(E:Env):Prop where
 φ:φ p
 box:∃cs:List Value,w.heap[bk]? =some (.cells cs.toArray t (0,0))∧aI (Atom.has E S w) (cells p) cs
 ents:∀i e,(i,e)∈R p→e.has E S w i
 sep:∀i i' e e' k,i≠i'→(i,e)∈R p→(i',e')∈R p→e.at E i k→¬e'.at E i' k
 sepb:∀i e,(i,e)∈R p→¬e.at E i bk
 X:∀k,X k↔k=bk∨∃i e,(i,e)∈R p∧e.at E i k
def mh(b:Nat)(φ:ι→Prop)(t:TypeId)(cells:ι→List Atom)(R:ι→List (Nat×Ent)):jO where
 has bk v X S w:=∃p E,(E.blk b=bk∧E.sl b=v)∧aa6 φ t cells R bk X S w p E
 step:=fun {bk v X S S' w w'} ⟨p,E,hself,h⟩ ho hs hX=>by
  refine⟨p,E,hself,h.φ,?_,fun i e hi=>?_,h.sep,h.sepb,h.X⟩
  ·obtain⟨cs,h1,h2⟩:=h.box;exact⟨cs,by rw[hX bk ((h.X bk).2 (.inl rfl))];exact h1,h2.mono fun a u _ ha=>ha.step (fun _ _=>⟨rfl,rfl⟩) ho hs⟩
  ·exact(h.ents i e hi).step (fun _ _=>⟨rfl,rfl⟩) ⟨rfl,rfl⟩ ho hs (fun k hk=>hX k ((h.X k).2 (.inr ⟨i,e,hi,hk⟩))) rfl
def sS(st:St)(b:Nat)(t:TypeId)(cells:List Atom)(R:List (Nat×Ent)):St:=⟨st.tm,fq st.hp ((b,.ent (.box t cells))::R.map fun q=>(q.1,.ent q.2))⟩
theorem aob{b c:Nat}{t:TypeId}{cells:List Atom}{R:List (Nat×Ent)}{e:Ent}(h:(c,Slot.ent e)∈((b,Slot.ent (.box t cells))::R.map fun q=>(q.1,Slot.ent q.2))):(c=b∧e= .box t cells)∨(c,e)∈R:=by
 rcases List.mem_cons.1 h with h|h
 ·cases h;exact .inl ⟨rfl,rfl⟩
 ·obtain⟨q,hq,he⟩:=List.mem_map.1 h;cases he;exact .inr hq
theorem Sat.afp{C:Ctx}{st:St}{a:Act}{w:World}{b:Nat}{φ:ι→Prop}{t:TypeId}{cells:ι→List Atom}{R:ι→List (Nat×Ent)}(ns:List Nat)(h:Sat C st a w)(hb:st.hp b= .ent (.abs (mh b φ t cells R)))(hns:∀p,(R p).map (·.1)=ns)(hfree:∀i∈ns,st.hp i= .free)(hfix:∀i∈ns,C.fix i=false)
  (hid:∀p,∀i∈(cells p).flatMap Atom.ids,i∈ns∨i=b) (hRid:∀p i e,(i,e)∈R p→e.ids=[]):∃p,φ p∧Sat C (sS st b t (cells p) (R p)) a w:=by
 obtain⟨E,S,hs⟩:=h;obtain⟨p,Ep,⟨hself1,hself2⟩,hB⟩:∃(p:ι) (Ep:Env),(Ep.blk b=E.blk b∧Ep.sl b=E.sl b)∧aa6 φ t cells R (E.blk b) (E.fp b) S w p Ep:=hs.hp b _ hb;refine⟨p,hB.φ,?_⟩;generalize hcp:cells p=cs0 at*;have hnsR:∀i e,(i,e)∈R p→i∈ns:=fun i e hi=>by rw[←hns p];exact List.mem_map.2 ⟨_,hi,rfl⟩
 have hun:∀i,(st.hp i).used=true→i∉ns:=fun i hi hin=>by rw[hfree i hin]at hi;cases hi
 have hbn:b∉ns:=hun b (by rw[hb];rfl)
 let E':Env:=⟨fun i=>if i∈ns then Ep.blk i else E.blk i,fun i=>if i∈ns then Ep.sl i else E.sl i,fun i=>if i∈ns then Ep.fp i else E.fp i⟩
 have at1:∀i,i∉ns→E.at' E' i:=fun i hi=>⟨if_neg hi,if_neg hi⟩
 have fp1:∀i,i∉ns→E'.fp i=E.fp i:=fun i hi=>if_neg hi
 have at2:∀i,i∈ns→Ep.at' E' i:=fun i hi=>⟨if_pos hi,if_pos hi⟩
 have fp2:∀i,i∈ns→E'.fp i=Ep.fp i:=fun i hi=>if_pos hi
 have at3:∀i,i∈ns∨i=b→Ep.at' E' i:=fun i hi=>by
  rcases hi with hi|rfl
  ·exact at2 i hi
  ·exact⟨(at1 i hbn).1.trans hself1.symm,(at1 i hbn).2.trans hself2.symm⟩
 have hids:∀i∈cs0.flatMap Atom.ids,i∈ns∨i=b:=fun i hi=>hid p i (by rw[hcp];exact hi)
 have hbox:=hB.box;rw[hcp]at hbox;have hused:∀i,((st.hp i).used=true∨i∈ns)→((sS st b t cs0 (R p)).hp i).used=true:=by
  intro i hi;show (fq st.hp _ i).used=true;rcases fT i ((b,.ent (.box t cs0))::(R p).map fun q=>(q.1,.ent q.2)) st.hp with⟨s,g1,g2⟩|⟨g1,g2⟩
  ·rw[g2];rcases List.mem_cons.1 g1 with h|h
   ·cases h;rfl
   ·obtain⟨q,_,he⟩:=List.mem_map.1 h;cases he;rfl
  ·rw[g2];rcases hi with hi|hi
   ·exact hi
   ·rw[←hns p]at hi;obtain⟨q,hq,rfl⟩:=List.mem_map.1 hi;exact absurd (List.mem_cons_of_mem _ (List.mem_map.2 ⟨q,hq,rfl⟩)) (g1 _)
 have hcase:∀c e,(sS st b t cs0 (R p)).hp c= .ent e→((c=b∧e= .box t cs0)∨(c,e)∈R p)∨(c≠b∧c∉ns∧st.hp c= .ent e):=by
  intro c e hc;rcases fT c ((b,.ent (.box t cs0))::(R p).map fun q=>(q.1,.ent q.2)) st.hp with⟨s,g1,g2⟩|⟨g1,g2⟩
  ·have:s= .ent e:=g2.symm.trans hc;subst this;exact .inl (aob g1)
  ·have h3:st.hp c= .ent e:=g2.symm.trans hc;refine .inr ⟨?_,hun c (by rw[h3];rfl),h3⟩
   rintro rfl;exact g1 _ List.mem_cons_self
 have hX:∀(c:Nat) (e:Ent) (k:Nat),((c=b∧e= .box t cs0)∨(c,e)∈R p)→e.at E' c k→E.fp b k:=by
  intro c e k hc hk;rcases hc with⟨rfl,rfl⟩|hc
  ·have hk':some (E'.blk c)=some k:=hk;rw[(at1 c hbn).1]at hk';exact(hB.X k).2 (.inl (Option.some.inj hk').symm)
  ·rw[Ent.fJ (at2 c (hnsR c e hc)) (fp2 c (hnsR c e hc))]at hk;exact(hB.X k).2 (.inr ⟨c,e,hc,hk⟩)
 have hother:∀(c:Nat) (e:Ent) (k:Nat),c∉ns→e.at E' c k→e.at E c k:=fun c e k hc hk=>by rw[Ent.fJ (at1 c hc) (fp1 c hc)]at hk;exact hk
 refine⟨E',S,{dfr:=hs.dfr,nt:=hs.nt,cT:=hs.cT,cT0:=hs.cT0,cS:=hs.cS,lt:=hs.lt,tm:=fun i v hv=>?_,tid:=fun i v hv j hj=>hused j (.inl (hs.tid i v hv j hj)),hp:=fun c e hc=>?_,hid:=fun c e hc i hi=>?_,blk:=fun c e k hc hk=>?_,sep:=fun c c' e e' k hne hc hc' hk hk'=>?_,off:=hs.off,env:=fun c hc=>?_,gl:=hs.gl}⟩
 ·exact(hs.tm i v hv).step (fun j hj=>at1 j (hun j (hs.tid i v hv j hj))) (Off.refl S w) (fun k hk=> .inl hk)
 ·rcases hcase c e hc with(⟨rfl,rfl⟩|hR)|⟨_,hcn,h3⟩
  ·obtain⟨cs,h1,h2⟩:=hbox;refine⟨cs,by rw[(at1 c hbn).1];exact h1,h2.mono fun x u hx ha=>ha.step (fun j hj=>at3 j (hids j (List.mem_flatMap.2 ⟨x,hx,hj⟩))) (Off.refl S w) (fun k hk=> .inl hk)⟩
  ·have hin:=hnsR c e hR;exact(hB.ents c e hR).step (fun j hj=>by rw[hRid p c e hR]at hj;cases hj) (at2 c hin) (Off.refl S w) (fun k hk=> .inl hk) (fun _ _=>rfl) (fp2 c hin)
  ·exact(hs.hp c e h3).step (fun j hj=>at1 j (hun j (hs.hid c e h3 j hj))) (at1 c hcn) (Off.refl S w) (fun k hk=> .inl hk) (fun _ _=>rfl) (fp1 c hcn)
 ·rcases hcase c e hc with(⟨rfl,rfl⟩|hR)|⟨_,hcn,h3⟩
  ·rcases hids i hi with h|rfl
   ·exact hused i (.inr h)
   ·exact hused i (.inl (by rw[hb];rfl))
  ·rw[hRid p c e hR]at hi;cases hi
  ·exact hused i (.inl (hs.hid c e h3 i hi))
 ·rcases hcase c e hc with hL|⟨_,hcn,h3⟩
  ·exact hs.blk b _ k hb (hX c e k hL hk)
  ·exact hs.blk c e k h3 (hother c e k hcn hk)
 ·rcases hcase c e hc with hL|⟨hcb,hcn,h3⟩
  ·rcases hcase c' e' hc' with hL'|⟨hcb',hcn',h3'⟩
   ·rcases hL with⟨rfl,rfl⟩|hR
    ·rcases hL' with⟨rfl,_⟩|hR'
     ·exact hne rfl
     ·have hk1:some (E'.blk c)=some k:=hk;rw[(at1 c hbn).1]at hk1;cases hk1;rw[Ent.fJ (at2 c' (hnsR c' e' hR')) (fp2 c' (hnsR c' e' hR'))]at hk';exact hB.sepb c' e' hR' hk'
    ·rw[Ent.fJ (at2 c (hnsR c e hR)) (fp2 c (hnsR c e hR))]at hk;rcases hL' with⟨rfl,rfl⟩|hR'
     ·have hk1:some (E'.blk c')=some k:=hk';rw[(at1 c' hbn).1]at hk1;cases hk1;exact hB.sepb c e hR hk
     ·rw[Ent.fJ (at2 c' (hnsR c' e' hR')) (fp2 c' (hnsR c' e' hR'))]at hk';exact hB.sep c c' e e' k hne hR hR' hk hk'
   ·exact hs.sep b c' _ e' k (fun e=>hcb' e.symm) hb h3' (hX c e k hL hk) (hother c' e' k hcn' hk')
  ·rcases hcase c' e' hc' with hL'|⟨hcb',hcn',h3'⟩
   ·exact hs.sep c b e _ k hcb h3 hb (hother c e k hcn hk) (hX c' e' k hL' hk')
   ·exact hs.sep c c' e e' k hne h3 h3' (hother c e k hcn hk) (hother c' e' k hcn' hk')
 ·obtain⟨g1,g2,g3⟩:=hs.env c hc;have hcn:c∉ns:=fun h=>by rw[hfix c h]at hc;cases hc
  exact⟨(at1 c hcn).1.trans g1,(at1 c hcn).2.trans g2,hused c (.inl g3)⟩
end
def aB(ρ:List (Nat×Option Nat))(x y:Atom):Prop:=∀E S w v,x.has E S w v→y.has (dK ρ E) S w v
def mG(ρ:List (Nat×Option Nat)):List Atom→List Atom→Prop
 |[],[]=>True
 |a::l,b::m=>aB ρ a b∧mG ρ l m
 |_,_=>False
theorem aB.same{ρ:List (Nat×Option Nat)}{x:Atom}(h:fresh ρ x.ids=true):aB ρ x x:=fun E S w v hv=>hv.env (uF h E)
theorem aB.own{ρ:List (Nat×Option Nat)}{o b:Nat}(h:lk ρ b=some (some o)):aB ρ (.own o) (.own b):=fun E S w v hv=>by
 obtain⟨h1,h2⟩:=hv;exact⟨by simp only[dK,h];exact h1,h2⟩
theorem aB.rel{ρ:List (Nat×Option Nat)}{o b:Nat}{R:Nat→Value→Value→Prop}(h:lk ρ b=some (some o)):aB ρ (.rel o R) (.rel b R):=fun E S w v hv=>by
 obtain⟨h1,h2⟩:=hv;exact⟨by simp only[dK,h];exact h1,h2⟩
theorem aB.nil{ρ:List (Nat×Option Nat)}{b:Nat}(h:lk ρ b=some none):aB ρ (.c (.val (.slice none 0 0))) (.own b):=fun E S w v hv=>by
 have hv':v= .slice none 0 0:=hv;subst hv';exact⟨by simp only[dK,h],rfl⟩
theorem aB.ao7{ρ:List (Nat×Option Nat)}{b:Nat}(h:lk ρ b=some none):aB ρ (.c (.val (.slice none 0 0))) (.rel b (abl 0)):=fun E S w v hv=>by
 have hv':v= .slice none 0 0:=hv;subst hv';exact⟨by simp only[dK,h];rfl,rfl⟩
theorem mG.all{ρ:List (Nat×Option Nat)}{E:Env}{S:Nat→Prop}{w:World}:∀{l m:List Atom} {vs:List Value},mG ρ l m→aI (Atom.has E S w) l vs→aI (Atom.has (dK ρ E) S w) m vs
 |[],[],[],_,_=>trivial
 |a::l,b::m,v::vs,h,k=>⟨h.1 E S w v k.1,h.2.all k.2⟩
 |[],[],_::_,_,k=>k.elim
 |_::_,_::_,[],_,k=>k.elim
 |[],_::_,_,h,_=>h.elim
 |_::_,[],_,h,_=>h.elim
theorem ay.mo{st:St}{ρ:List (Nat×Option Nat)}{b:Nat}{t:TypeId}{cells0 cells:List Atom}(h:st.hp b= .ent (.box t cells0))(hf:fresh ρ [b]=true)(hi:mG ρ cells0 cells):ay st ρ b (.box t cells):=by
 have ha:=uF hf;refine .old b _ h (.inr ⟨?_,rfl⟩) (fun E S w hh=>?_) (fun E=>by funext k;simp only[Ent.at,(ha E b List.mem_cons_self).1])
 ·have:=List.all_eq_true.1 hf b List.mem_cons_self;simpa using this
 ·obtain⟨cs,h1,h2⟩:=hh;exact⟨cs,by rw[(ha E b List.mem_cons_self).1];exact h1,hi.all h2⟩
theorem ay.aiX{α:Type}{st:St}{ρ:List (Nat×Option Nat)}{b:Nat}{tO tI:TypeId}{size:Nat}{enc:α→List CA}(hb:lk ρ b=some none):ay st ρ b (.abs (eU tO tI size enc [] [])):=by
 have e0:bC (.slice none 0 0) 0= .slice none 0 0:=rfl;refine .nil hb (fun E S w=>?_) (fun E k=>?_)
 ·show gK tO tI size enc [] [] ((dK ρ E).sl b) ((dK ρ E).fp b) S w;simp only[dK,hb];refine⟨World.ownsRow_nil ..,(fun j hj=>by cases hj),(fun j l hj=>by simp at hj),fun i j k hi hj hij h=>?_,fun k=>⟨fun h=>h.elim,fun⟨i,hi,h⟩=>?_⟩⟩
  ·have h0:i=0:=by simpa using hi
   subst h0;rw[e0]at h;cases h
  ·have h0:i=0:=by simpa using hi
   subst h0;rw[e0]at h;cases h
 ·simp only[Ent.at,dK,hb];intro h;cases h
structure Hide(p:Prop):Prop where
 out:p
def oN(st:St)(b:Nat)(A:jO)(os:List Nat):St:=⟨st.tm,fq st.hp ((b,.ent (.abs A))::os.map fun o=>(o,.gone))⟩
theorem St.aa9{ι:Type}{C:Ctx}{st:St}{b:Nat}{φ:ι→Prop}{t:TypeId}{cells:ι→List Atom}{R:ι→List (Nat×Ent)}{cells0:List Atom}(p:ι)(ρ:List (Nat×Option Nat))(os:List Nat)(hφ:φ p)(hb:st.hp b= .ent (.box t cells0))(hc:mG ρ cells0 (cells p))(hR:aay st ρ (R p))
  (hos:((R p).all fun q=>match SX.src ρ q.1 with|some o=>iR os o|none=>true)=true) (hbo:iR os b=false) (hdi:((R p).all fun q=>(R p).all fun q'=>Nat.beq q.1 q'.1||!(eqO (SX.src ρ q.1) (SX.src ρ q'.1)))=true) (hfb:lk ρ b=none:=by rfl):St.le C st (oN st b (mh b φ t cells R) os):=by
 intro a w ⟨E,S,hs⟩
 let X:Nat→Prop:=fun k=>k=E.blk b∨∃i e,(i,e)∈R p∧Ent.at e (dK ρ E) i k
 have hbox:Ent.has E S w b (.box t cells0):=hs.hp b _ hb;have hsrc:∀i e k,(i,e)∈R p→e.at (dK ρ E) i k→∃o e0,SX.src ρ i=some o∧o∈os∧st.hp o= .ent e0∧e0.at E o k:=by
  intro i e k hi hk;rcases(hR.mem i e hi).src with⟨o,e0,so,ho,hk0⟩|hk0
  ·have:=List.all_eq_true.1 hos _ hi;simp only[so]at this;rw[hk0]at hk;exact⟨o,e0,so,dW.1 this,ho,hk⟩
  ·exact absurd hk (hk0 E k)
 have hbn:b∉os:=fun h=>by rw[dW.2 h]at hbo;cases hbo
 have hB:aa6 φ t cells R (E.blk b) X S w p (dK ρ E):=by
  refine⟨hφ,?_,fun i e hi=>?_,fun i i' e e' k hne hi hi' hk hk'=>?_,fun i e hi hk=>?_,fun k=>Iff.rfl⟩
  ·obtain⟨cs,h1,h2⟩:=hbox;exact⟨cs,h1,hc.all h2⟩
  ·cases hR.mem i e hi with
   |old o e0 ho _ hh hk=>exact hh _ _ _ (hs.hp o e0 ho)
   |nil _ hh _=>exact hh _ _ _
  ·obtain⟨o,e0,so,_,ho,g1⟩:=hsrc i e k hi hk;obtain⟨o',e0',so',_,ho',g1'⟩:=hsrc i' e' k hi' hk';have:=List.all_eq_true.1 (List.all_eq_true.1 hdi _ hi) _ hi';rw[so,so']at this;have hno:o≠o':=by
    intro e;subst e;simp[eqO,hne]at this
   exact hs.sep o o' e0 e0' k hno ho ho' g1 g1'
  ·obtain⟨o,e0,so,hoo,ho,g1⟩:=hsrc i e _ hi hk;exact hs.sep o b e0 _ _ (fun h=>hbn (h▸hoo)) ho hb g1 rfl
 let E':Env:=⟨E.blk,E.sl,upd E.fp b X⟩
 have hat:∀i,E.at' E' i:=fun i=>⟨rfl,rfl⟩
 have hfp:∀i,i≠b→E'.fp i=E.fp i:=fun i hi=>upd_ne _ _ hi
 have hcase:∀c e,(oN st b (mh b φ t cells R) os).hp c= .ent e→(c=b∧e= .abs (mh b φ t cells R))∨(c≠b∧c∉os∧st.hp c= .ent e):=by
  intro c e hc;rcases fT c ((b,.ent (.abs (mh b φ t cells R)))::os.map fun o=>(o,.gone)) st.hp with⟨s,g1,g2⟩|⟨g1,g2⟩
  ·have:s= .ent e:=g2.symm.trans hc;subst this;rcases List.mem_cons.1 g1 with h|h
   ·cases h;exact .inl ⟨rfl,rfl⟩
   ·obtain⟨q,_,he⟩:=List.mem_map.1 h;cases he
  ·refine .inr ⟨?_,fun h=>g1 .gone (List.mem_cons_of_mem _ (List.mem_map.2 ⟨c,h,rfl⟩)),g2.symm.trans hc⟩
   rintro rfl;exact g1 _ List.mem_cons_self
 have hused:∀i,(st.hp i).used=true→((oN st b (mh b φ t cells R) os).hp i).used=true:=by
  intro i hi;show (fq st.hp _ i).used=true;rcases fT i ((b,.ent (.abs (mh b φ t cells R)))::os.map fun o=>(o,.gone)) st.hp with⟨s,g1,g2⟩|⟨g1,g2⟩
  ·rw[g2];rcases List.mem_cons.1 g1 with h|h
   ·cases h;rfl
   ·obtain⟨q,_,he⟩:=List.mem_map.1 h;cases he;rfl
  ·rw[g2];exact hi
 have hXS:∀k,X k→S k∧(C.B k∨C.w0.heap.size≤k):=by
  intro k hk;rcases hk with rfl|⟨i,e,hi,hk⟩
  ·exact hs.blk b _ _ hb rfl
  ·obtain⟨o,e0,_,_,ho,g1⟩:=hsrc i e k hi hk;exact hs.blk o e0 k ho g1
 have hXo:∀c e k,c≠b→c∉os→st.hp c= .ent e→X k→¬e.at E c k:=by
  intro c e k hcb hco hc hk;rcases hk with rfl|⟨i,e',hi,hk⟩
  ·exact fun h=>hs.sep c b e _ _ hcb hc hb h rfl
  ·obtain⟨o,e0,_,hoo,ho,g1⟩:=hsrc i e' k hi hk;exact hs.sep o c e0 e k (fun h=>hco (h▸hoo)) ho hc g1
 have hother:∀(c:Nat) (e:Ent) (k:Nat),c≠b→e.at E' c k→e.at E c k:=fun c e k hc hk=>by rw[Ent.fJ (hat c) (hfp c hc)]at hk;exact hk
 have hmine:∀k,(Ent.abs (mh b φ t cells R)).at E' b k→X k:=fun k hk=>by
  have hk':upd E.fp b X b k:=hk;rw[upd_same]at hk';exact hk'
 refine⟨E',S,{dfr:=hs.dfr,nt:=hs.nt,cT:=hs.cT,cT0:=hs.cT0,cS:=hs.cS,lt:=hs.lt,tm:=fun i v hv=>?_,tid:=fun i v hv j hj=>hused j (hs.tid i v hv j hj),hp:=fun c e hc=>?_,hid:=fun c e hc i hi=>?_,blk:=fun c e k hc hk=>?_,sep:=fun c c' e e' k hne hc hc' hk hk'=>?_,off:=hs.off,env:=fun c hc=>?_,gl:=hs.gl}⟩
 ·exact(hs.tm i v hv).step (fun j hj=>hat j) (Off.refl S w) (fun k hk=> .inl hk)
 ·rcases hcase c e hc with⟨rfl,rfl⟩|⟨hcb,_,h3⟩
  ·show∃(p':ι) (Ep:Env),(Ep.blk c=E.blk c∧Ep.sl c=E.sl c)∧aa6 φ t cells R (E.blk c) (upd E.fp c X c) S w p' Ep;rw[upd_same];exact⟨p,_,⟨by simp only[dK,hfb],by simp only[dK,hfb]⟩,hB⟩
  ·exact(hs.hp c e h3).step (fun j hj=>hat j) (hat c) (Off.refl S w) (fun k hk=> .inl hk) (fun _ _=>rfl) (hfp c hcb)
 ·rcases hcase c e hc with⟨rfl,rfl⟩|⟨hcb,_,h3⟩
  ·cases hi
  ·exact hused i (hs.hid c e h3 i hi)
 ·rcases hcase c e hc with⟨rfl,rfl⟩|⟨hcb,_,h3⟩
  ·exact hXS k (hmine k hk)
  ·exact hs.blk c e k h3 (hother c e k hcb hk)
 ·rcases hcase c e hc with⟨rfl,rfl⟩|⟨hcb,hco,h3⟩
  ·rcases hcase c' e' hc' with⟨rfl,rfl⟩|⟨hcb',hco',h3'⟩
   ·exact hne rfl
   ·exact hXo c' e' k hcb' hco' h3' (hmine k hk) (hother c' e' k hcb' hk')
  ·rcases hcase c' e' hc' with⟨rfl,rfl⟩|⟨hcb',hco',h3'⟩
   ·exact hXo c e k hcb hco h3 (hmine k hk') (hother c e k hcb hk)
   ·exact hs.sep c c' e e' k hne h3 h3' (hother c e k hcb hk) (hother c' e' k hcb' hk')
 ·obtain⟨g1,g2,g3⟩:=hs.env c hc;exact⟨g1,g2,hused c g3⟩
theorem WP.afp{ι:Type}{P:Program}{C:Ctx}{st:St}{Q:Exit→St→Prop}{c:Code}{b:Nat}{φ:ι→Prop}{t:TypeId}{cells:ι→List Atom}{R:ι→List (Nat×Ent)}(ns:List Nat)(hb:st.hp b= .ent (.abs (mh b φ t cells R)))(hns:∀p,(R p).map (·.1)=ns)(hfree:∀i∈ns,st.hp i= .free)(hfix:∀i∈ns,C.fix i=false)
  (hid:∀p,∀i∈(cells p).flatMap Atom.ids,i∈ns∨i=b) (hRid:∀p i e,(i,e)∈R p→e.ids=[]) (h:∀p,φ p→WP P C c (sS st b t (cells p) (R p)) Q):WP P C c st Q:=fun a w hs=>by
 obtain⟨p,hp,hs'⟩:=Sat.afp ns hs hb hns hfree hfix hid hRid;exact h p hp a w hs'
theorem St.ahC{C:Ctx}{st:St}{b:Nat}{A:jO}{m:List CA}(hB:∀k,¬C.B k)(hb:st.hp b= .ent (.abs A))
  (hA:∀bk v X S w,A.has bk v X S w→(∃(t:TypeId) (cs:List Value),w.heap[bk]? =some (.cells cs.toArray t (0,0))∧aI (CA.has (fun k=>S k∧¬X k) w) m cs)∧X bk):St.le C st (st.mp b (bfz b m)):=
 St.arx (ahT b m) hB hb fun E S w hh hS a v ha=>by
  have hsub:∀k,(fun k=>S k∧¬(Ent.abs A).at E b k) k→S k:=fun k hk=>hk.1
  have keep:∀a:Atom,a.has E S w v→a.has E (fun k=>S k∧¬(Ent.abs A).at E b k) w v:=fun a ha=>ha.step (fun _ _=>⟨rfl,rfl⟩) (Off.refl S w) (fun k hk=> .inl (hsub k hk))
  cases a with
  |ptr k off=>
   by_cases hk:k=b
   ·subst hk;rw[acF];obtain⟨⟨t,cs,h1,h3⟩,hX⟩:=hA _ _ _ _ _ hh;refine ni.2 ⟨E.blk k,off,ha,fun i c hic=>?_⟩
    rw[List.getElem?_drop]at hic
    obtain⟨u,hu,huc⟩:=h3.get hic;have hcell:=cells_of_block h1 0 (off+i) u (by simpa using hu)
    exact⟨u,fun h=>h.2 hX,by simpa[Addr.add_lit]using hcell,huc⟩
   ·rw[sM hk];exact keep _ ha
  |c a=>exact keep _ ha
  |own k=>exact keep _ ha
  |rptr k off=>exact keep _ ha
  |clo f cap=>exact keep _ ha
  |bnd f k=>exact keep _ ha
  |rel k R=>exact keep _ ha
end
section
section
variable{P:Program}{C:Ctx}{st:St}{α:Type}
variable{ops rest:List Oper}{acc:List (List Nat×List Nat)}{K:List (List Nat×List Nat)→St→Prop}{dst:Option Tmp}{d:Tmp}{op:Op}{ty t t':TypeId}{x y z:Operand}{k:IntKind}
theorem Go1.aql{fx:Operand}{f:FuncId}{as:Array Operand}{tys:Array TypeId}{args args':List AV}{r:Value}(rd:List (Nat×Ent))(hd:aC dst C.nt=true)(hf:st.ev fx=some (.it (.one (.clo f []))))(ha:evs st as.toList=some args)(hrd:∀b e,(b,e)∈rd→st.hp b= .ent e)
  (hconv:∀E S w vs,(∀b e,(b,e)∈rd→e.has E S w b)→aI (AV.has E S w) args vs→aI (AV.has E (fun k=>S k∧∀i e,(i,e)∈rd→¬e.at E i k) w) args' vs) (hc:ah P f args' (.v r))
  (next:Reg P C ops rest (st.app dst ⟨.v r,[]⟩) ((rd.map (·.1),[])::acc) K):Go1 P C ops dst (.call ⟨.value fx,as,tys⟩) ty rest st acc K:=by
 refine⟨rd.map (·.1),⟨.v r,[]⟩,fun o h2 h3 h4=>aY.eff rd [] (fun b hb=>?_) (h2▸bZ hd) hrd (fun b e hb=>by cases hb) (fun b s hb=>by cases hb) (fun b s hb=>by cases hb) (fun st' E S a w hev hhp hs hrd' _=>?_),next⟩
 ·rcases hb with⟨e,hb⟩|⟨e,hb⟩|⟨s,hb⟩
  ·exact List.mem_map.2 ⟨_,hb,rfl⟩
  ·cases hb
  ·cases hb
 ·have hop:o.op.operands= #[fx]++as:=by rw[h3];rfl
  have ha':evs st' as.toList=some args:=by rw[gy (fun x hx=>hev x (by rw[hop];simp at hx;simp[hx]))];exact ha
  obtain⟨hall,hids⟩:=j5 hs ha';have hcl:=hs.ev ((hev fx (by rw[hop];simp)).trans hf)
  obtain⟨hent,hcall⟩:=hc;refine⟨⟨fun i hi=>(by cases hi),fun b e hb=>by cases hb⟩,fun K Q hK=>?_⟩
  have hcalls:=hcall E _ w _ (fun k hk=>hs.lt k hk.1) (hs.gl.sub fun k hk=>hk.1) (hconv E S w _ (fun b e hb=>hs.hp b e (hrd' b e hb)) hall) (fun b e hb=>by cases hb) (fun b e k hb=>by cases hb) (fun b b' e e' k _ hb=>by cases hb)
  unfold Oper.wp;rw[wM h3 hcl.1 hent w];have harr:as.map a.eval++(([]:List (Nat×Nat)).map fun p=>Value.pointer (some ⟨E.blk p.1,p.2,none⟩)).toArray=(as.toList.map a.eval).toArray:=by
   apply Array.ext';simp
  show Calls P f _ w _;rw[harr];refine hcalls.mono ?_;rintro e w' ⟨v,E',S',rfl,hE⟩;have hv:v=r:=hE.res;subst hv;have ho:Off none' w w':=hE.off.mono fun k ⟨b,e,hb,_⟩=>by cases hb
  exact hK v w' E S {env:=fun _ _=>⟨rfl,rfl⟩,fpe:=fun _ _=>rfl,sub:=fun _ h=>h,new:=fun _ h=> .inl h,lt:=fun k hk=>Nat.lt_of_lt_of_le (hs.lt k hk) ho.size,off:=ho.mono fun k hk=>hk.elim,res:=rfl,ents:=fun _ _ h=>(by cases h),blk:=fun _ _ _ h=>(by cases h),sep:=fun _ _ _ _ _ _ h=>(by cases h)}
theorem Go1.asw{fx:Operand}{f:FuncId}{as:Array Operand}{tys:Array TypeId}{tO tI:TypeId}{b size jr jb:Nat}{enc:α→List CA}{js:List Nat}{c:List (List α)}{r r' s:List α}{l:List Atom}{m:List CA}{res:AV}(hd:aC dst C.nt=true)(hf:st.ev fx=some (.it (.one (.clo f []))))(ha:evs st as.toList=some [.it (.one (jE b (jr+1))),.it (.one (jE b (jb+1))),.agg l])
  (hb:st.hp b= .ent (.abs (eU tO tI size enc js c))) (hl:aQ l=some m) (hr:c[jr]? =some r) (hs2:c[jb]? =some s) (hne:jr≠jb) (hlen:r'.length=r.length) (hres:res.ids=[])
  (hc:aj P f [.own 81,.own 82,.agg l] [(81,.row tI size r.length (r.flatMap enc)),(82,.row tI size s.length (s.flatMap enc))] ⟨res,[(81,.ent (.row tI size r.length (r'.flatMap enc))),(82,.ent (.row tI size s.length (s.flatMap enc)))]⟩)
  (next:Reg P C ops rest (st.app dst ⟨res,[(b,.ent (.abs (eU tO tI size enc js (c.set jr r'))))]⟩) (([b],[b])::acc) K):Go1 P C ops dst (.call ⟨.value fx,as,tys⟩) ty rest st acc K:=by
 have hjr:jr < c.length:=by
  rcases Nat.lt_or_ge jr c.length with h|h
  ·exact h
  ·rw[List.getElem?_eq_none h]at hr;cases hr
 have hjb:jb < c.length:=by
  rcases Nat.lt_or_ge jb c.length with h|h
  ·exact h
  ·rw[List.getElem?_eq_none h]at hs2;cases hs2
 refine⟨[b],_,fun o h2 h3 h4=>aY.eff [] [(b,.abs (eU tO tI size enc js c))] (fun i hi=>?_) (h2▸bZ hd) (fun c e hc=>by cases hc) (fun i e hi=>?_) (fun i s hi=>?_) (fun i s hi=>?_) (fun st' E S a w hev hhp hs _ hpre=>?_),next⟩
 ·rcases hi with⟨e,hi⟩|⟨e,hi⟩|⟨s,hi⟩
  ·cases hi
  ·simp at hi;simp[hi.1]
  ·simp at hi;simp[hi.1]
 ·simp at hi;obtain⟨rfl,rfl⟩:=hi;exact⟨hb,_,List.mem_cons_self⟩
 ·simp at hi;obtain⟨rfl,_⟩:=hi;exact .inl ⟨_,List.mem_cons_self⟩
 ·simp at hi;rw[hi.2];rfl
 ·have hop:o.op.operands= #[fx]++as:=by rw[h3];rfl
  have ha':=gy (st:=st) (st':=st') (xs:=as.toList) (fun x hx=>hev x (by rw[hop];simp at hx;simp[hx]))
  rw[ha]at ha';obtain⟨hall,hids⟩:=j5 hs ha';have hcl:=hs.ev ((hev fx (by rw[hop];simp)).trans hf)
  have hbe:=hpre b (.abs (eU tO tI size enc js c)) List.mem_cons_self;have hR:gK tO tI size enc js c (E.sl b) (E.fp b) S w:=hs.hp b _ hbe;have hS:∀k,E.fp b k→S k:=fun k hk=>(hs.blk b _ k hbe hk).1
  obtain⟨hent,hcall⟩:=hc;obtain⟨vr,hvr,hvr2⟩:=hR.inn jr r hr;obtain⟨vb,hvb,hvb2⟩:=hR.inn jb s hs2
  let E1:Env:=⟨E.blk,upd (upd E.sl 81 (bC (E.sl b) (jr+1))) 82 (bC (E.sl b) (jb+1)),E.fp⟩
  have e81:E1.sl 81=bC (E.sl b) (jr+1):=rfl;have e82:E1.sl 82=bC (E.sl b) (jb+1):=rfl;have hX:∀j k,j < c.length→(bC (E.sl b) (j+1)).ownBlock=some k→E.fp b k:=fun j k hj hk=>(hR.X k).2 ⟨j+1,by omega,hk⟩
  refine⟨⟨fun i hi=>(by rw[hres]at hi;cases hi),fun i e hi j hj=>?_⟩,fun K Q hK=>?_⟩
  ·simp at hi
   obtain⟨rfl,rfl⟩:=hi;cases hj
  obtain⟨u1,u2,u3,hus,g1,g2,g3⟩:∃u1 u2 u3,as.toList.map a.eval=[u1,u2,u3]∧u1=bC (E.sl b) (jr+1)∧u2=bC (E.sl b) (jb+1)∧(AV.agg l).has E S w u3:=by
   match h:as.toList.map a.eval,hall with
   |[u1,u2,u3],hh=>rw[h]at hall;exact⟨u1,u2,u3,rfl,hall.1.1,hall.2.1.1,hall.2.2.1⟩
  have hargs:aI (AV.has E1 S w) [.own 81,.own 82,.agg l] (as.toList.map a.eval):=by
   rw[hus];have w1:u1.oneCell'=true:=by rw[g1];exact ru hvr
   have w2:u2.oneCell'=true:=by rw[g2];exact ru hvb
   refine⟨⟨g1.trans e81.symm,w1⟩,⟨g2.trans e82.symm,w2⟩,?_,trivial⟩;exact AV.has.env g3 fun i hi=>by
    have:i∈l.flatMap Atom.ids:=hi;rw[yj hl]at this;cases this
  have hcalls:=hcall E1 S w _ hs.lt hs.gl hargs (fun i e hi=>by
    simp at hi
    rcases hi with⟨rfl,rfl⟩|⟨rfl,rfl⟩
    ·exact⟨vr,by rw[e81];exact hvr,hvr2⟩
    ·exact⟨vb,by rw[e82];exact hvb,hvb2⟩) (fun i e k hi hk=>by
    simp at hi
    rcases hi with⟨rfl,rfl⟩|⟨rfl,rfl⟩
    ·have hk':(E1.sl 81).ownBlock=some k:=hk;rw[e81]at hk';exact hS k (hX jr k hjr hk')
    ·have hk':(E1.sl 82).ownBlock=some k:=hk;rw[e82]at hk';exact hS k (hX jb k hjb hk')) (fun i i' e e' k hii hi hi' hk hk'=>by
    have key:(E1.sl 81).ownBlock=some k→(E1.sl 82).ownBlock=some k→False:=fun h h'=>by
     rw[e81]at h;rw[e82]at h';exact hR.sep (jr+1) (jb+1) k (by omega) (by omega) (by omega) h h'
    simp at hi hi'
    rcases hi with⟨rfl,rfl⟩|⟨rfl,rfl⟩
    ·rcases hi' with⟨rfl,rfl⟩|⟨rfl,rfl⟩
     ·exact hii rfl
     ·exact key hk hk'
    ·rcases hi' with⟨rfl,rfl⟩|⟨rfl,rfl⟩
     ·exact key hk' hk
     ·exact hii rfl)
  unfold Oper.wp;rw[wM h3 hcl.1 hent w];have harr:as.map a.eval++(([]:List (Nat×Nat)).map fun p=>Value.pointer (some ⟨E.blk p.1,p.2,none⟩)).toArray=(as.toList.map a.eval).toArray:=by
   apply Array.ext';simp
  show Calls P f _ w _;rw[harr];refine hcalls.mono ?_;rintro e w' ⟨v,E2,S2,rfl,hE⟩;have hoX:Off (E.fp b) w w':=hE.off.mono fun k ⟨i,e,hi,hk⟩=>by
   simp at hi
   rcases hi with⟨rfl,rfl⟩|⟨rfl,rfl⟩
   ·have hk':(E1.sl 81).ownBlock=some k:=hk;rw[e81]at hk';exact hX jr k hjr hk'
   ·have hk':(E1.sl 82).ownBlock=some k:=hk;rw[e82]at hk';exact hX jb k hjb hk'
  have hoS:Off S w w':=hoX.mono hS;have hkeep:∀{e:TypeId} {z n:Nat} {u:Value} {vs:List Value} (i:Nat),i < c.length+1→i≠jr+1→i≠jb+1→u=bC (E.sl b) i→w.ownsRow 0 e z u n vs→w'.ownsRow 0 e z u n vs:=fun {e z n u vs} i hi h1 h2 hu hown=>
   eT hown fun k hk=>hE.off.block k (qK hown hk) fun⟨i',e',hi',hk'⟩=>by
    rw[hu]at hk;simp at hi'
    rcases hi' with⟨rfl,rfl⟩|⟨rfl,rfl⟩
    ·have h3:(E1.sl 81).ownBlock=some k:=hk';rw[e81]at h3;exact hR.sep i (jr+1) k hi (by omega) h1 hk h3
    ·have h3:(E1.sl 82).ownBlock=some k:=hk';rw[e82]at h3;exact hR.sep i (jb+1) k hi (by omega) h2 hk h3
  have a81:=(hE.env 81 (fun _=>⟨_,List.mem_cons_self⟩)).2
  have a82:=(hE.env 82 (fun _=>⟨_,List.mem_cons_of_mem _ List.mem_cons_self⟩)).2
  rw[e81]at a81;rw[e82]at a82;refine hK v w' E S2 {env:=fun _ _=>⟨rfl,rfl⟩,fpe:=fun _ _=>rfl,sub:=hE.sub,new:=hE.new,lt:=hE.lt,off:=hoX.mono fun k hk=>⟨b,_,List.mem_cons_self,hk⟩,res:=?_,ents:=fun i e hi=>?_,blk:=fun i e k hi hk=>?_,sep:=fun i i' e e' k hii hi hi'=>?_}
  ·exact AV.has.env hE.res fun i hi=>by rw[hres]at hi;cases hi
  ·simp at hi
   obtain⟨rfl,rfl⟩:=hi;show gK tO tI size enc js (c.set jr r') (E.sl i) (E.fp i) S2 w';refine⟨hkeep 0 (by omega) (by omega) (by omega) rfl hR.out,fun j hj=>by rw[List.length_set];exact hR.lt j hj,fun j q hj=>?_,by rw[List.length_set];exact hR.sep,by rw[List.length_set];exact hR.X⟩
   rw[List.getElem?_set]at hj
   by_cases h1:jr=j
   ·subst h1;rw[if_pos rfl,if_pos hjr]at hj;cases hj;obtain⟨vs,q1,q2⟩:=hE.ents 81 (.row tI size r.length (r'.flatMap enc)) (by simp)
    rw[a81]at q1;exact⟨vs,by rw[hlen];exact q1,q2⟩
   ·rw[if_neg h1]at hj;by_cases h2:jb=j
    ·subst h2;rw[hs2]at hj;cases hj;obtain⟨vs,q1,q2⟩:=hE.ents 82 (.row tI size s.length (s.flatMap enc)) (by simp)
     rw[a82]at q1;exact⟨vs,q1,q2⟩
    ·obtain⟨vs,q1,q2⟩:=hR.inn j q hj;have hjl:j < c.length:=by
      rcases Nat.lt_or_ge j c.length with h|h
      ·exact h
      ·rw[List.getElem?_eq_none h]at hj;cases hj
     exact⟨vs,hkeep (j+1) (by omega) (by omega) (by omega) rfl q1,q2.mono fun a u _ ha=>ha.step hoS hE.new⟩
  ·simp at hi
   obtain⟨rfl,rfl⟩:=hi;exact⟨hE.sub k (hS k hk),.inl ⟨i,_,List.mem_cons_self,hk⟩⟩
  ·simp at hi hi'
   exact absurd (hi.1.trans hi'.1.symm) hii
end
end
section
theorem xP:∀m:List CA,aQ (m.map Atom.c)=some m
 |[]=>rfl
 |c::m=>by simp[aQ,xP m]
theorem aeh{cells:List Atom}{m:List CA}(h:cells=m.map Atom.c):aQ cells=some m:=by rw[h];exact xP m
section
variable{P:Program}{C:Ctx}{st:St}{α:Type}
variable{ops rest:List Oper}{acc:List (List Nat×List Nat)}{K:List (List Nat×List Nat)→St→Prop}{dst:Option Tmp}{d:Tmp}{op:Op}{ty t t':TypeId}{x y z:Operand}{k:IntKind}
theorem G.acn{cells:List CA}(next:Reg P C ops rest (st.app dst ⟨.r (bJ cells),[]⟩) (([],[])::acc) K)(hd:aC dst C.nt=true:=by rfl)(hx:st.ev x=some (.r (bJ cells)):=by rfl):Go1 P C ops dst (.nilCheck x) ty rest st acc K:=
 Go1.bY [] [] (by simp) hd (by simp) (fun o ho _ st' E S a w hev hs _=>by
  have hx':=hs.ev ((hev x (by simp[ho,Op.operands])).trans hx)
  obtain⟨b,o',hv,_⟩:=ni.1 (show (bJ cells).has S w (a.eval x)from hx'.1)
  refine⟨fun i hi=>(by cases hi),a.eval x,?_,hx'.1⟩
  unfold execOp;rw[ho];simp[hv]) next
theorem G.lenH{A:jO}{e:TypeId}{b i n size sz:Nat}[ht:bg P t e sz](next:Reg P C ops rest (st.app dst ⟨.v (.int .i64 (n:Int)),[]⟩) (([b],[])::acc) K)(hd:aC dst C.nt=true:=by rfl)(hx:st.ev x=some (.it (.one (.rel b (abl i)))):=by rfl)(hb:st.hp b= .ent (.abs A):=by rfl)(hA:jm A i e size n:=by first|exact SX.jm.out|exact SX.jm.inn (by assumption)):Go1 P C ops dst (.call ⟨.builtin .len,#[x],#[t]⟩) ty rest st acc K:=
 Go1.lenH hd hx hb hA next
theorem G.oH{A:jO}{e:TypeId}{b j n size i:Nat}[ht:bg P t e size](next:Reg P C ops rest (st.app dst ⟨.it (.one (.rel b (oV j (i*size)))),[]⟩) (([b],[])::acc) K)(hd:aC dst C.nt=true:=by rfl)(hx:st.ev x=some (.it (.one (.rel b (abl j)))):=by rfl)(hb:st.hp b= .ent (.abs A):=by rfl)(hA:jm A j e size n:=by first|exact SX.jm.out|exact SX.jm.inn (by assumption))(hy:st.ev y=some (.v (.int k (i:Int))):=by rfl)(hi:i < n:=by omega):Go1 P C ops dst (.indexAddr t x y) ty rest st acc K:=
 Go1.oH hd hx hb hA hy hi next
theorem G.aiM{tO tI:TypeId}{b size i j:Nat}{enc:α→List CA}{js:List Nat}{c:List (List α)}[ht:iq P t](next:Reg P C ops rest (st.app dst ⟨.it (.one (jE b (j+1))),[]⟩) (([b],[])::acc) K)(hd:aC dst C.nt=true:=by rfl)(hx:st.ev x=some (.it (.one (.rel b (oV 0 (i*1))))):=by rfl)(hb:st.hp b= .ent (.abs (eU tO tI size enc js c)):=by rfl)(hj:js[i]? =some j:=by assumption):Go1 P C ops dst (.load t x) ty rest st acc K:=
 Go1.aiM hd hx hb (by rw[Nat.mul_one];exact hj) next
theorem G.aam{tO tI:TypeId}{b size i j:Nat}{enc:α→List CA}{js:List Nat}{c:List (List α)}{r:List α}{a:α}{c1 c2 c3 c4:CA}[ht:fE P t 4][he:dH enc 4](next:Reg P C ops rest (st.app dst ⟨.agg [.c c1,.c c2,.c c3,.c c4],[]⟩) (([b],[])::acc) K)(hd:aC dst C.nt=true:=by rfl)(hx:st.ev x=some (.it (.one (.rel b (oV (j+1) (i*4))))):=by rfl)(hb:st.hp b= .ent (.abs (eU tO tI size enc js c)):=by rfl)(hj:c[j]? =some r:=by assumption)(ha:r[i]? =some a:=by assumption)(h4:enc a=[c1,c2,c3,c4]:=by rfl):Go1 P C ops dst (.load t x) ty rest st acc K:=
 Go1.aam (l:=[c1,c2,c3,c4]) hd hx hb hj ((rC (enc:=enc) (size:=4) ha).trans h4) rfl next
theorem G.ad2{tO tI:TypeId}{b size i j:Nat}{enc:α→List CA}{js:List Nat}{c:List (List α)}(next:Reg P C ops rest (st.app none ⟨.v undef,[(b,.ent (.abs (eU tO tI size enc (js.set i j) c)))]⟩) (([b],[b])::acc) K)(hs:(P.info? t).map (·.size)=some 1:=by kernel_rfl)(hx:st.ev x=some (.it (.one (.rel b (oV 0 (i*1))))):=by rfl)(hy:st.ev y=some (.it (.one (jE b (j+1)))):=by rfl)(hb:st.hp b= .ent (.abs (eU tO tI size enc js c)):=by rfl)(ho:i < js.length:=by first|omega|(rw[List.length_set];omega))(hj:j < c.length:=by first|assumption|omega):Go1 P C ops none (.store t x y) ty rest st acc K:=
 Go1.ad2 hs hx hy hb (off:=i*1) (by rw[Nat.mul_one];exact ho) hj (by rw[Nat.mul_one];exact next)
theorem G.yS{tO tI:TypeId}{b size i j:Nat}{enc:α→List CA}{js:List Nat}{c:List (List α)}{v:AV0}{r:List α}{a:α}[he:dH enc size](next:Reg P C ops rest (st.app none ⟨.v undef,[(b,.ent (.abs (eU tO tI size enc js (c.set j (r.set i a)))))]⟩) (([b],[b])::acc) K)(hs:(P.info? t).map (·.size)=some size:=by kernel_rfl)(hx:st.ev x=some (.it (.one (.rel b (oV (j+1) (i*size))))):=by rfl)(hy:st.ev y=some (.it v):=by rfl)(hb:st.hp b= .ent (.abs (eU tO tI size enc js c)):=by rfl)
  (hv:v.cells=(enc a).map Atom.c:=by rfl) (h1:v.cells.all Atom.dL=true:=by rfl) (hj:c[j]? =some r:=by assumption) (hi:i < r.length:=by omega):Go1 P C ops none (.store t x y) ty rest st acc K:=
 Go1.yS hs hx hy hb (by rw[hv,zq5];exact he.h a) h1 (aeh hv) hj (List.length_set ..) (by have:=Nat.mul_le_mul_right size (show i+1≤r.length from hi);rw[Nat.succ_mul]at this;exact this) (pJ r i a hi) next
theorem G.ahx{i:Nat}{enc:α→List CA}{l:List α}{a:α}{e:TypeId}{b n:Nat}{c1 c2 c3 c4:CA}[ht:fE P t 4][he:dH enc 4](next:Reg P C ops rest (st.app dst ⟨.agg [.c c1,.c c2,.c c3,.c c4],[]⟩) (([b],[])::acc) K)(hd:aC dst C.nt=true:=by rfl)(hx:st.ev x=some (.it (.one (.rptr b (i*4)))):=by rfl)(hb:st.hp b= .ent (.row e 4 n (l.flatMap enc)):=by rfl)(ha:l[i]? =some a:=by assumption)(h4:enc a=[c1,c2,c3,c4]:=by rfl):Go1 P C ops dst (.load t x) ty rest st acc K:=
 Go1.anM (l:=[c1,c2,c3,c4]) hd hx hb ((rC (enc:=enc) (size:=4) ha).trans h4) rfl next
theorem G.zI{i:Nat}{enc:α→List CA}{l:List α}{a:α}{v:AV0}{e:TypeId}{b n size:Nat}[he:dH enc size](next:Reg P C ops rest (st.app none ⟨.v undef,[(b,.ent (.row e size n ((l.set i a).flatMap enc)))]⟩) (([b],[b])::acc) K)(hs:(P.info? t).map (·.size)=some size:=by kernel_rfl)(hx:st.ev x=some (.it (.one (.rptr b (i*size)))):=by rfl)(hy:st.ev y=some (.it v):=by rfl)(hb:st.hp b= .ent (.row e size n (l.flatMap enc)):=by rfl)(hv:v.cells=(enc a).map Atom.c:=by rfl)(h1:v.cells.all Atom.dL=true:=by rfl)(hi:i < l.length:=by omega)(hn:n=l.length:=by first|rfl|omega):Go1 P C ops none (.store t x y) ty rest st acc K:=
 Go1.xA hs hx hy hb (by rw[hv,zq5];exact he.h a) (by subst hn;have:=Nat.mul_le_mul_right size (show i+1≤l.length from hi);rw[Nat.succ_mul]at this;exact this) h1 (aeh hv) (pJ l i a hi) next
theorem G.yZ{tO tI:TypeId}{b b2 bytes size:Nat}{z0:Value}{enc:α→List CA}{js:List Nat}{c:List (List α)}{l:List α}[ht:bg P t tO 1][he:dZ P tO [z0] bytes](next:Reg P C ops rest (st.app (some d) ⟨.it (.one (jE d 0)),[(b,.gone),(b2,.gone),(d,.ent (.abs (eU tO tI size enc (js++[c.length]) (c++[l]))))]⟩) (([b,b2,d],[b,b2,d])::acc) K)(hd:aC (some d) C.nt=true:=by rfl)(hx:st.ev x=some (.it (.one (jE b 0))):=by rfl)(hy:st.ev y=some (.it (.one (jE b2 0))):=by rfl)
  (hb:st.hp b= .ent (.abs (eU tO tI size enc js c)):=by rfl) (hb2:st.hp b2= .ent (.abs (afR tI size enc l)):=by rfl) (hbb:b≠b2:=by decide) (hf:st.hp d= .free:=by rfl) (h63:js.length+1≤9223372036854775807:=by omega) (hbytes:(js.length+1)*bytes≤140737488355328:=by omega):Go1 P C ops (some d) (.call ⟨.builtin .append,#[x,y],#[t,t]⟩) ty rest st acc K:=
 Go1.yZ hd hx hy hb hb2 hbb hf h63 hbytes next
theorem G.adv{A:jO}{e:TypeId}{b n:Nat}{i:Nat}[ht:bg P t e 1](next:Reg P C ops rest (st.app dst ⟨.it (.one (.rel b (amc i))),[]⟩) (([b],[])::acc) K)(hd:aC dst C.nt=true:=by rfl)(hx:st.ev x=some (.it (.one (.rel b (abl 0)))):=by rfl)(hb:st.hp b= .ent (.abs A):=by rfl)(hA:jm A 0 e 1 n:=by exact SX.jm.out)(hy:st.ev y=some (.v (.int k (i:Int))):=by rfl)(h1:i≤n:=by omega):Go1 P C ops dst (.slice t x (some y) none none) ty rest st acc K:=
 Go1.adv hd hx hb hA hy h1 next
end
theorem aj.fnA{P:Program}{f:FuncId}{fn:Func}{c:Code}{args:List AV}{pre:List (Nat×Ent)}{out:Out}{nt:Nat}{rs:List ResultVar}(hf:P.funcs[f]? =some fn)(hres:fn.results=rs.toArray)(hnt:fn.ntmps=nt)(hb:fn.body=some c)(hn:(fn.name== "runtime.NumGoroutine")=false)(hna:Nat.ble args.length nt=true)
  (p1:nodupB (pre.map (·.1))=true) (p3:(args.all fun v=>v.ids.all (iR (pre.map (·.1))))=true) (p4:(pre.all fun p=>p.2.ids.all (iR (pre.map (·.1))))=true) (p5:((pre.map (·.1)).all (iR (out.hp.map (·.1))))=true)
  (p6:((out.res.ids++out.hp.flatMap fun p=>p.2.ids).all fun i=>iR (pre.map (·.1)) i||iR (out.hp.map (·.1)) i)=true)
  (h:∀(w0:World) (T B:Nat→Prop) (E0:Env),(pre=[]→∀k,¬B k)→WP P ⟨w0,T,B,nt,E0,fun b=>(lk pre b).isSome⟩ c ⟨fun t=>args[t]?,fun b=>match lk pre b with|some e=> .ent e|none=> .free⟩ (bO ⟨w0,T,B,nt,E0,fun b=>(lk pre b).isSome⟩ P rs out)):aj P f args pre out:=by
 have e1:(fun b=>(pre.lookup b).isSome)=fun b=>(lk pre b).isSome:=funext fun b=>by rw[eX]
 have e2:iU args pre=⟨fun t=>args[t]?,fun b=>match lk pre b with|some e=> .ent e|none=> .free⟩:=by
  unfold iU
  congr 1
  funext b
  rw[eX];cases lk pre b <;> rfl
 have key:∀i,iR (pre.map (·.1)) i=true→(pre.lookup i).isSome=true:=fun i hi=>by rw[eX];exact lY (dW.1 hi)
 refine aj.fn hf hres hnt hb hn hna (fun b e hb=>by rw[eX];exact adB p1 hb) (fun v hv i hi=>key i (List.all_eq_true.1 (List.all_eq_true.1 p3 v hv) i hi)) (fun b e hb i hi=>key i (List.all_eq_true.1 (List.all_eq_true.1 p4 (b,e) hb) i hi)) (fun b e hb=>?_) (fun i hi=>?_) (fun w0 T B E0 hB=>?_)
 ·have:=dW.1 (List.all_eq_true.1 p5 b (List.mem_map.2 ⟨(b,e),hb,rfl⟩));obtain⟨⟨b',s⟩,hs,rfl⟩:=List.mem_map.1 this;exact⟨s,hs⟩
 ·have hi':i∈out.res.ids++out.hp.flatMap fun p=>p.2.ids:=by
   rw[List.mem_append];rcases hi with hi|⟨b,e,hb,hi⟩
   ·exact .inl hi
   ·exact .inr (List.mem_flatMap.2 ⟨(b,.ent e),hb,hi⟩)
  have:=List.all_eq_true.1 p6 i hi';rw[Bool.or_eq_true]at this;rcases this with h|h
  ·exact .inl (key i h)
  ·obtain⟨⟨b',s⟩,hs,rfl⟩:=List.mem_map.1 (dW.1 h);exact .inr ⟨s,hs⟩
 ·rw[e1,e2];refine WP.bO (h w0 T B E0 fun hp k hk=>?_)
  subst hp;obtain⟨b,e,hb,_⟩:=hB k hk;cases hb
theorem aN.le{C:Ctx}{P:Program}{rs:List ResultVar}{out:Out}{st st':St}(h:St.le C st st')(k:aN C P rs out st'):aN C P rs out st:=by
 obtain⟨s,h1,h2⟩:=k;exact⟨s,fun a w hs=>h1 a w (h a w hs),h2⟩
end
section
def mkOne:Op→Bool
 | .makeFunc _ a c=>Nat.beq a.size 0&&Nat.beq c.size 0
 |_=>true
def noMk:List Oper→Bool
 |[]=>true
 |o::l=>match mkOne o.op with|true=>noMk l|false=>false
section
variable{P:Program}{C:Ctx}{st:St}{Q:Exit→St→Prop}
theorem WP.aik{id:Nat}{l:List Oper}(hn:noMk l=true)(h:Reg P C l l st [] (fun _ st'=>Q .normal st')):WP P C (.region id l.toArray false) st Q:=WP.aD h
theorem WP.aft{id:Nat}{l:List Oper}(hn:noMk l=true)(hm:P.follows .mixedOrders=true)(h:Reg P C l l st [] (fun feet st'=>check l.toArray feet=true∧Q .normal st')):WP P C (.region id l.toArray true) st Q:=WP.ae0 hm h
end
section
variable{P:Program}{C:Ctx}{st:St}
variable{ops rest:List Oper}{acc:List (List Nat×List Nat)}{K:List (List Nat×List Nat)→St→Prop}{dst:Option Tmp}{ty t e:TypeId}{x y:Operand}{k:IntKind}{n size:Nat}
end
end
end SX