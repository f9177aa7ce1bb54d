import Derived.Test.YthnkfhfcgjoieaaGreatDoorO4
import Derived.Lib.Builder
import Derived.Lib.AppendStr
import Derived.Lib.UnsafeStr
set_option linter.unusedVariables false
set_option linter.unusedSimpArgs false
namespace SX
open Go Go.RowKit
section
def hdrs(s:Value):List Value:=match s with| .agg a=>a.toList|v=>[v]
def dH(s:Value)(j:Nat):Value:=(hdrs s).getD j undef
def af2(j:Nat):Nat->Value->Value->Prop:=fun _ s v=>v=dH s j
def rF(j off:Nat):Nat->Value->Value->Prop:=fun _ s v=>∃g n cap,dH s j= .slice (some ⟨g,0,none⟩) n cap/\v= .pointer (some ⟨g,off,none⟩)
abbrev uj(b j:Nat):Atom:= .rel b (af2 j)
section
variable{α:Type}
structure mM(tO tI:TypeId)(size:Nat)(enc:α->List CA)(js:List Nat)(c:List (List α))(v:Value)(X S:Nat->Prop)(w:World):Prop where
 out:w.ownsRow 0 tO 1 (dH v 0) js.length (js.map fun j=>dH v (j+1))
 lt:∀j∈js,j < c.length
 inn:∀j l,c[j]? =some l->∃vs,w.ownsRow 0 tI size (dH v (j+1)) l.length vs/\aK (CA.has S w) (l.flatMap enc) vs
 sep:∀i j k,i < c.length+1->j < c.length+1->i≠j->(dH v i).ownBlock=some k->(dH v j).ownBlock≠some k
 X:∀k,X k↔∃i,i < c.length+1/\(dH v i).ownBlock=some k
def iE(tO tI:TypeId)(size:Nat)(enc:α->List CA)(js:List Nat)(c:List (List α)):mF where
 has _ v X S w:=mM tO tI size enc js c v X S w
 step:=fun {b v X S S' w w'} h ho hs hX=>by
  refine⟨gU h.out fun k hk=>hX k ((h.X k).2 ⟨0,zE,hk⟩),h.lt,fun j l hj=>?_,h.sep,h.X⟩
  have hjl:j < c.length:=by
   rcases zyd j c.length with h|h
   ·exact h
   ·rw[zqe h]at hj;cases hj
  obtain⟨vs,h1,h2⟩:=h.inn j l hj;exact⟨vs,gU h1 fun k hk=>hX k ((h.X k).2 ⟨j+1,zE,hk⟩),h2.mono fun a u _ ha=>ha.step ho hs⟩
def mo(A:mF)(i:Nat)(e:TypeId)(size n:Nat):Prop:=∀b v X S w,A.has b v X S w->∃vs,w.ownsRow 0 e size (dH v i) n vs
theorem mo.out{tO tI:TypeId}{size:Nat}{enc:α->List CA}{js:List Nat}{c:List (List α)}:mo (iE tO tI size enc js c) 0 tO 1 js.length:=fun b v X S w h=>⟨_,h.out⟩
theorem mo.inn{tO tI:TypeId}{size:Nat}{enc:α->List CA}{js:List Nat}{c:List (List α)}{j:Nat}{l:List α}(hj:c[j]? =some l):mo (iE tO tI size enc js c) (j+1) tI size l.length:=fun b v X S w h=>let⟨vs,h1,_⟩:=h.inn j l hj;⟨vs,h1⟩
theorem zZ{w:World}{e:TypeId}{size n:Nat}{v:Value}{vs:List Value}(h:w.ownsRow 0 e size v n vs):v.oneCell'=true:=by
 rcases h.2 with⟨rfl,_⟩|⟨_,_,_,rfl,_⟩ <;> rfl
theorem as0{w:World}{e:TypeId}{size n:Nat}{v:Value}{vs:List Value}{cells:List CA}{S:Nat->Prop}(hown:w.ownsRow 0 e size v n vs)(hvs:aK (CA.has S w) cells vs)(hS:∀k,v.ownBlock=some k->¬S k):(aQ size n cells).has S w v:=by
 have hlen:cells.length=n*size:=by rw[hvs.length,hown.1]
 rcases hown.2 with⟨hv,h0⟩|⟨g,cap,cur,hv,_,hg,hn,hm,hcs,htk⟩
 ·refine bY.2 ⟨none,0,by rw[hv,h0],zE,zq8 _,fun _=>rfl,hlen,fun i c hc=>?_⟩
  have:cells.length=0:=by rw[hlen,h0,zw3]
  rw[zx5 this]at hc;simp at hc
 ·refine bY.2 ⟨some ⟨g,0,none⟩,cap,hv,hn,hm,(fun h=>by cases h),hlen,fun i c hc=>?_⟩
  obtain⟨u,hu,huc⟩:=hvs.get hc;rw[hv]at hown;have hcell:=hown.cells (g:=g) rfl i u hu;exact⟨g,0,u,rfl,hS g (by rw[hv];rfl),by simpa[Addr.add_lit]using hcell,huc⟩
end
section
variable{P:Program}{C:Ctx}{st:St}{α:Type}
variable{ops rest:List Oper}{acc:List (List Nat×List Nat)}{K:List (List Nat×List Nat)->St->Prop}{dst:Option Tmp}{d:Tmp}{op:Op}{ty t t':TypeId}{x y z:Operand}{k:IntKind}
theorem Go1.lenH{A:mF}{e:TypeId}{b i n size sz:Nat}[ht:bT P t e sz](hd:aC dst C.nt=true)(hx:st.ev x=some (.it (.one (.rel b (af2 i)))))(hb:st.hp b= .ent (.abs A))(hA:mo A i e size n)
  (next:Reg P C ops rest (st.app dst ⟨.v (.int .i64 (n:Int)),[]⟩) (([b],[])::acc) K):Go1 P C ops dst (.call ⟨.builtin .len,#[x],#[t]⟩) ty rest st acc K:=
 Go1.dM [(b,.abs A)] [b] (fun c e' hc=>by simp at hc;simp[hc.1]) hd (fun c e' hc=>by simp at hc;obtain⟨rfl,rfl⟩:=hc;exact hb) (fun o ho _ st' E S a w hev hs hrd=>by
  obtain⟨⟨hxv,_⟩,_⟩:=hs.ev ((hev x (by simp[ho,Op.operands,Call.operands])).trans hx)
  obtain⟨vs,hown⟩:=hA _ _ _ _ _ (hs.hp b _ (hrd b _ zq9));have hxv':a.eval x=dH (E.sl b) i:=hxv;refine⟨fun i hi=>(by cases hi),.int .i64 (n:Int),?_,rfl⟩
  unfold execOp;rw[ho];rcases hown.2 with⟨hv,rfl⟩|⟨g,cap,cur,hv,_⟩
  ·simp[resolve,invoke,builtin,Builtin.len_,run_underlying ht.h,hxv',hv,goInt]
  ·simp[resolve,invoke,builtin,Builtin.len_,run_underlying ht.h,hxv',hv,goInt]) next
theorem Go1.pX{A:mF}{e:TypeId}{b j n size i:Nat}[ht:bT P t e size](hd:aC dst C.nt=true)(hx:st.ev x=some (.it (.one (.rel b (af2 j)))))(hb:st.hp b= .ent (.abs A))(hA:mo A j e size n)(hy:st.ev y=some (.v (.int k (i:Int))))(hi:i < n)
  (next:Reg P C ops rest (st.app dst ⟨.it (.one (.rel b (rF j (i*size)))),[]⟩) (([b],[])::acc) K):Go1 P C ops dst (.indexAddr t x y) ty rest st acc K:=
 Go1.dM [(b,.abs A)] [b] (fun c e' hc=>by simp at hc;simp[hc.1]) hd (fun c e' hc=>by simp at hc;obtain⟨rfl,rfl⟩:=hc;exact hb) (fun o ho _ st' E S a w hev hs hrd=>by
  obtain⟨⟨hxv,_⟩,hid⟩:=hs.ev ((hev x (by simp[ho,Op.operands])).trans hx)
  have hxv':a.eval x=dH (E.sl b) j:=hxv;have hyv:a.eval y= .int k (i:Int):=(hs.ev ((hev y (by simp[ho,Op.operands])).trans hy)).1
  obtain⟨vs,hown⟩:=hA _ _ _ _ _ (hs.hp b _ (hrd b _ zq9));have hsz:=run_sizeOf ht.s w;rcases hown.2 with⟨_,h0⟩|⟨g,cap,cur,hv,_⟩
  ·omega
  ·refine⟨hid,.pointer (some ⟨g,i*size,none⟩),?_,⟨g,n,cap,hv,rfl⟩,rfl⟩;unfold execOp;rw[ho];simp[hxv',hv,hyv,Instr.indexAt,asIntOf,run_underlying ht.h,hsz,Addr.add_lit,hi]) next
theorem Go1.ajJ{tO tI:TypeId}{b size off j:Nat}{enc:α->List CA}{js:List Nat}{c:List (List α)}[ht:iK P t](hd:aC dst C.nt=true)(hx:st.ev x=some (.it (.one (.rel b (rF 0 off)))))(hb:st.hp b= .ent (.abs (iE tO tI size enc js c)))(hj:js[off]? =some j)
  (next:Reg P C ops rest (st.app dst ⟨.it (.one (uj b (j+1))),[]⟩) (([b],[])::acc) K):Go1 P C ops dst (.load t x) ty rest st acc K:=
 Go1.dM [(b,.abs (iE tO tI size enc js c))] [b] (fun c e' hc=>by simp at hc;simp[hc.1]) hd (fun c e' hc=>by simp at hc;obtain⟨rfl,rfl⟩:=hc;exact hb) (fun o ho _ st' E S a w hev hs hrd=>by
  obtain⟨⟨⟨g,n',cap,h1,hv⟩,_⟩,hid⟩:=hs.ev ((hev x (by simp[ho,Op.operands])).trans hx)
  have hh:mM tO tI size enc js c (E.sl b) (E.fp b) S w:=hs.hp b _ (hrd b _ zq9);have hown:=hh.out;rw[h1]at hown;have hcell:=hown.cells (g:=g) rfl;have g2:=hcell off (dH (E.sl b) (j+1)) (by rw[zqa,hj];rfl)
  have hjl:=hh.lt j (zq4 hj);obtain⟨vs,hi,_⟩:=hh.inn j (c[j]'hjl) (zyh hjl)
  refine⟨fun i hi=>hid i hi,dH (E.sl b) (j+1),?_,rfl,zZ hi⟩
  unfold execOp;rw[ho];have g2':w.cell? ⟨g,off,none⟩=some (dH (E.sl b) (j+1)):=by simpa[Addr.add_lit]using g2
  simp[hv,Instr.loadAt,Instr.sureAddr,loadVar,iq ht.h,g2']) next
theorem Go1.ahC{tO tI:TypeId}{b size off j m:Nat}{enc:α->List CA}{js:List Nat}{c:List (List α)}{r:List α}{l:List CA}[ht:gH P t m](hd:aC dst C.nt=true)(hx:st.ev x=some (.it (.one (.rel b (rF (j+1) off)))))(hb:st.hp b= .ent (.abs (iE tO tI size enc js c)))(hj:c[j]? =some r)(hc:((r.flatMap enc).drop off).take m=l)(hl:l.length=m)
  (next:Reg P C ops rest (st.app dst ⟨.agg (l.map Atom.c),[]⟩) (([b],[])::acc) K):Go1 P C ops dst (.load t x) ty rest st acc K:=
 Go1.dM [(b,.abs (iE tO tI size enc js c))] [b] (fun c e' hc=>by simp at hc;simp[hc.1]) hd (fun c e' hc=>by simp at hc;obtain⟨rfl,rfl⟩:=hc;exact hb) (fun o ho _ st' E S a w hev hs hrd=>by
  obtain⟨⟨⟨g,n',cap,h1,hv⟩,_⟩,_⟩:=hs.ev ((hev x (by simp[ho,Op.operands])).trans hx)
  have hh:mM tO tI size enc js c (E.sl b) (E.fp b) S w:=hs.hp b _ (hrd b _ zq9);obtain⟨vs,hown,hvs⟩:=hh.inn j r hj;rw[h1]at hown;have hcell:=hown.cells (g:=g) rfl;have hall0:aK (CA.has S w) l ((vs.drop off).take m):=by rw[<-hc];exact(hvs.drop off).take m
  obtain⟨us,hus,hall⟩:∃us,us=(vs.drop off).take m/\aK (CA.has S w) l us:=⟨_,rfl,hall0⟩;have hlen:=hall.length;have hrun:=run_loadCells_list (P:=P) w ⟨g,off,none⟩ us (fun j u hj=>by
   rw[hus,zy9]at hj
   split at hj
   ·rw[zv1]at hj
    have:=hcell (off+j) u hj;simpa[Addr.add_lit]using this
   ·cases hj)
  have hsz:(P.info? t).map (·.size)=some us.length:=by rw[ht.s,<-hlen,hl]
  refine⟨fun j hj=>?_,.agg us.toArray,?_,us,rfl,yP hall⟩
  ·simp only[AV.ids,AV0.ids,zx9]at hj;obtain⟨c,hc,hj⟩:=hj;obtain⟨c',_,rfl⟩:=zqg.1 hc;cases hj
  ·unfold execOp;rw[ho];simp[hv,Instr.loadAt,Instr.sureAddr,loadVar,iq ht.h,run_sizeOf hsz,hrun]) next
theorem ac2{e:TypeId}{m size n off g n' cap:Nat}{v u:Value}{vs us:List Value}{w:World}(hs:(P.info? t).map (·.size)=some m)(hown:w.ownsRow 0 e size v n vs)(hv:v= .slice (some ⟨g,0,none⟩) n' cap)(hc:u.cells=us.toArray)(hm:us.length=m)(h1:∀x∈us,x.oneCell'=true)(hl:off+m<=n*size):
  ∃cs:Array Value,(storeVar t ⟨g,off,none⟩ u).run P w= .ok () (w.setRow g cs)/\(w.setRow g cs).ownsRow 0 e size v n (spl vs off us)/\g < w.heap.size:=by
 obtain⟨hxl,⟨he,_⟩|⟨g2,cap2,cur,he,_,hg,hnc,hcm,hcs,htk⟩⟩:=hown
 ·rw[hv]at he;cases he
 rw[hv]at he;cases he;subst hv;have hlen:off+us.length<=cur.toList.length:=by
  have:n*size<=cap*size:=zx1 _ hnc;have hcz:cur.toList.length=cur.size:=zw6;omega
 have hrun:=run_store (P:=P) (off:=off) (n:=m) (cs:=cur.toList) (T:=e) (g:=g) hs hc hm w (by simpa using hg) zE h1
 have hsp:=iV cur.toList off us hlen;have hcz:cur.toList.length=cur.size:=zw6;refine⟨_,hrun,?_,?_⟩
 ·have hvl:vs.length=n*size:=hxl;refine⟨?_,.inr ⟨g,cap,(spl cur.toList off us).toArray,rfl,zq8 _,?_,hnc,hcm,?_,?_⟩⟩
  ·rw[iV _ _ _ zE];simp;omega
  ·exact setRow_heap w g _ _ _ _ hg
  ·rw[hsp];simp;omega
  ·rw[iV vs off us zE,hsp,<-htk]
   simp only[List.take_append,zx3,zqi,zxe,zw6,List.drop_take,List.take_take];have e1:min (n*size) off=off:=zE
   have e2:min off cur.size=off:=by rw[zw6]at hlen;omega
   have e3:min off (n*size)=off:=zE
   rw[e1,e2,e3];rw[zxc (l:=us) zE]
 ·rw[Array.getElem?_eq_some_iff]at hg;exact hg.1
theorem Eff.xA{E:Env}{S:Nat->Prop}{w:World}{b g:Nat}{A A':mF}{cs:Array Value}(hl:∀k,S k->k < w.heap.size)(hS:∀k,E.fp b k->S k)(hg:E.fp b g)(hA:A'.has (E.blk b) (E.sl b) (E.fp b) S (w.setRow g cs)):
  Eff E S w [(b,.abs A)] ⟨.v undef,[(b,.ent (.abs A'))]⟩ undef (w.setRow g cs) E S:=by
 have ho:Off S w (w.setRow g cs):=Off.setRow w _ _ (hS g hg);refine
  {env:=fun i hi=>⟨rfl,rfl⟩,fpe:=fun _ _=>rfl,sub:=fun k hk=>hk,new:=fun k hk=> .inl hk,lt:=fun k hk=>zqf (hl k hk) ho.size,off:=Off.setRow w _ _ ⟨b,_,zq9,hg⟩,
   res:=rfl,ents:=fun i e' hi=>?_,blk:=fun i e' k hi hk=>?_,sep:=fun i i' e' e2 k hne h1 h2=>?_}
 ·simp at hi;obtain⟨rfl,rfl⟩:=hi
  exact hA
 ·simp at hi;obtain⟨rfl,rfl⟩:=hi
  exact⟨hS k hk,.inl ⟨i,_,zq9,hk⟩⟩
 ·simp at h1 h2;exact absurd (h1.1.trans h2.1.symm) hne
theorem Go1.xA{A A':mF}{b i off m:Nat}{v:AV0}(hs:(P.info? t).map (·.size)=some m)(hx:st.ev x=some (.it (.one (.rel b (rF i off)))))(hy:st.ev y=some (.it v))(hb:st.hp b= .ent (.abs A))(hn:v.cells.length=m)(h1:v.cells.all Atom.eO=true)
  (hA:∀(E:Env) S w u us g n cap,A.has (E.blk b) (E.sl b) (E.fp b) S w->aK (Atom.has E S w) v.cells us->u.cells=us.toArray->us.length=m->(∀x∈us,x.oneCell'=true)->dH (E.sl b) i= .slice (some ⟨g,0,none⟩) n cap->(∀k,E.fp b k->S k)->
   ∃cs:Array Value,(storeVar t ⟨g,off,none⟩ u).run P w= .ok () (w.setRow g cs)/\A'.has (E.blk b) (E.sl b) (E.fp b) S (w.setRow g cs)/\E.fp b g)
  (next:Reg P C ops rest (st.app none ⟨.v undef,[(b,.ent (.abs A'))]⟩) (([b],[b])::acc) K):Go1 P C ops none (.store t x y) ty rest st acc K:=by
 refine⟨[b],⟨.v undef,[(b,.ent (.abs A'))]⟩,fun o h2 h3 h4=>aT.eff [] [(b,.abs A)] (fun i hi=>?_) (h2▸(fun x hx=>by cases hx)) (fun b e hb=>by cases hb) (fun i e hi=>?_) (fun i s hi=>?_) (fun i s hi=>?_) (fun st' E S a w hev hhp hse _ hpre=>?_),next⟩
 ·rcases hi with⟨e,hi⟩|⟨e,hi⟩|⟨s,hi⟩
  ·cases hi
  ·simp at hi;simp[hi.1]
  ·simp at hi;simp[hi.1]
 ·simp at hi
  obtain⟨rfl,rfl⟩:=hi;exact⟨hb,_,by simp;rfl⟩
 ·simp at hi;obtain⟨rfl,_⟩:=hi;exact .inl ⟨_,by simp;rfl⟩
 ·simp at hi;rw[hi.2];rfl
 ·obtain⟨⟨⟨g,n',cap',hE1,hv⟩,_⟩,_⟩:=hse.ev ((hev x (by simp[h3,Op.operands])).trans hx)
  obtain⟨hu,hids⟩:=hse.ev ((hev y (by simp[h3,Op.operands])).trans hy)
  have hb':=hpre b (.abs A) zp
  obtain⟨us,hc',hallu,hone⟩:=AV0.has.cells hu h1;have hX:∀k,E.fp b k->S k:=fun k hk=>(hse.blk b _ k hb' hk).1
  obtain⟨cs,hrun,hA',hg⟩:=hA E S w _ us g n' cap' (hse.hp b _ hb') hallu hc' (by rw[<-hallu.length,hn]) hone hE1 hX
  refine⟨⟨fun i hi=>(by cases hi),fun i e hi j hj=>?_⟩,fun K Q hK=>?_⟩
  ·simp at hi
   obtain⟨rfl,rfl⟩:=hi;cases hj
  ·unfold Oper.wp execOp;rw[h3];simp only[show a.eval x=_ from hv,Instr.storeAt,Instr.sureAddr,Sem.run_bind,Sem.run_pure,Result.andThen_ok,hrun]
   exact hK undef _ _ _ (Eff.xA hse.lt hX hg hA')
theorem ajw{β:Type}(f:Nat->β):∀(l:List Nat) (i j:Nat),i < l.length->spl (l.map f) i [f j]=(l.set i j).map f
 |[],i,j,h=>by simp at h
 |x::l,0,j,h=>by cases l <;> simp[spl]
 |x::l,i+1,j,h=>by simp only[zy6,spl,List.set_cons_succ];rw[ajw f l i j (by simpa using h)]
theorem aaW{w:World}{e:TypeId}{size n g:Nat}{v:Value}{vs:List Value}{cs:Array Value}(h:w.ownsRow 0 e size v n vs)(hne:v.ownBlock≠some g):(w.setRow g cs).ownsRow 0 e size v n vs:=
 gU h fun k hk=>setRow_other w g k _ fun e=>hne (by rw[hk,e])
theorem Go1.ad5{tO tI:TypeId}{b size off j:Nat}{enc:α->List CA}{js:List Nat}{c:List (List α)}(hs:(P.info? t).map (·.size)=some 1)(hx:st.ev x=some (.it (.one (.rel b (rF 0 off)))))(hy:st.ev y=some (.it (.one (uj b (j+1)))))(hb:st.hp b= .ent (.abs (iE tO tI size enc js c)))(ho:off < js.length)(hj:j < c.length)
  (next:Reg P C ops rest (st.app none ⟨.v undef,[(b,.ent (.abs (iE tO tI size enc (js.set off j) c)))]⟩) (([b],[b])::acc) K):Go1 P C ops none (.store t x y) ty rest st acc K:=by
 refine Go1.xA (i:=0) (off:=off) (v:= .one (uj b (j+1))) hs hx hy hb rfl rfl (fun E S w u us g n cap hh hu hc hm h1 hg hX=>?_) next
 have hh:mM tO tI size enc js c (E.sl b) (E.fp b) S w:=hh;have hus:us=[dH (E.sl b) (j+1)]:=by
  match us,hu with
  |[u'],h=>exact congrArg (fun x=>[x]) h.1.1
 obtain⟨cs,hrun,hown,hlt⟩:=ac2 (P:=P) (t:=t) (m:=1) (size:=1) (off:=off) hs hh.out hg hc hm h1 zE
 have hgX:E.fp b g:=(hh.X g).2 ⟨0,zE,by rw[hg];rfl⟩
 have ho':Off S w (w.setRow g cs):=Off.setRow w _ _ (hX g hgX);refine⟨cs,hrun,?_,hgX⟩;show mM tO tI size enc (js.set off j) c (E.sl b) (E.fp b) S (w.setRow g cs);refine⟨?_,fun i hi=>?_,fun i l hi=>?_,hh.sep,hh.X⟩
 ·rw[hus,ajw (fun j=>dH (E.sl b) (j+1)) js off j ho]at hown
  rw[zvf];exact hown
 ·rcases List.mem_or_eq_of_mem_set hi with h|h
  ·exact hh.lt i h
  ·rw[h];exact hj
 ·obtain⟨vs,g1,g2⟩:=hh.inn i l hi;have hil:i < c.length:=by
   rcases zyd i c.length with h|h
   ·exact h
   ·rw[zqe h]at hi;cases hi
  exact⟨vs,aaW g1 (hh.sep 0 (i+1) g zE zE zE (by rw[hg];rfl)),g2.mono fun a u _ ha=>ha.step ho' (fun k hk=> .inl hk)⟩
theorem Go1.aaf{tO tI:TypeId}{b size off j m:Nat}{enc:α->List CA}{js:List Nat}{c:List (List α)}{v:AV0}{r r':List α}{cells2:List CA}(hs:(P.info? t).map (·.size)=some m)(hx:st.ev x=some (.it (.one (.rel b (rF (j+1) off)))))(hy:st.ev y=some (.it v))(hb:st.hp b= .ent (.abs (iE tO tI size enc js c)))
  (hn:v.cells.length=m) (h1:v.cells.all Atom.eO=true) (hcl:aY v.cells=some cells2) (hj:c[j]? =some r) (hr:r'.length=r.length) (hl:off+m<=r.length*size) (hr':spl (r.flatMap enc) off cells2=r'.flatMap enc)
  (next:Reg P C ops rest (st.app none ⟨.v undef,[(b,.ent (.abs (iE tO tI size enc js (c.set j r'))))]⟩) (([b],[b])::acc) K):Go1 P C ops none (.store t x y) ty rest st acc K:=by
 refine Go1.xA (i:=j+1) (off:=off) (v:=v) hs hx hy hb hn h1 (fun E S w u us g n cap hh hu hc hm h1 hg hX=>?_) next
 have hh:mM tO tI size enc js c (E.sl b) (E.fp b) S w:=hh;have hjl:j < c.length:=by
  rcases zyd j c.length with h|h
  ·exact h
  ·rw[zqe h]at hj;cases hj
 obtain⟨vs,hown0,hvs⟩:=hh.inn j r hj;obtain⟨cs,hrun,hown,hlt⟩:=ac2 (P:=P) (t:=t) (m:=m) (size:=size) (off:=off) hs hown0 hg hc hm h1 hl;have hgX:E.fp b g:=(hh.X g).2 ⟨j+1,zE,by rw[hg];rfl⟩
 have ho':Off S w (w.setRow g cs):=Off.setRow w _ _ (hX g hgX);rw[eu hcl]at hu;have hu':=iH hu;refine⟨cs,hrun,?_,hgX⟩;show mM tO tI size enc js (c.set j r') (E.sl b) (E.fp b) S (w.setRow g cs);refine⟨aaW hh.out (hh.sep (j+1) 0 g zE zE zE (by rw[hg];rfl)),fun i hi=>by rw[zvf];exact hh.lt i hi,fun i l hi=>?_,by rw[zvf];exact hh.sep,by rw[zvf];exact hh.X⟩
 rw[zv2]at hi
 by_cases hij:j=i
 ·subst hij;rw[if_pos rfl,if_pos hjl]at hi;cases hi;refine⟨_,by rw[hr];exact hown,?_⟩
  rw[<-hr'];exact aK.spl off (hvs.mono fun a u _ ha=>ha.step ho' (fun k hk=> .inl hk)) (hu'.mono fun a u _ ha=>ha.step ho' (fun k hk=> .inl hk))
 ·rw[if_neg hij]at hi;have hil:i < c.length:=by
   rcases zyd i c.length with h|h
   ·exact h
   ·rw[zqe h]at hi;cases hi
  obtain⟨vs',g1,g2⟩:=hh.inn i l hi;exact⟨vs',aaW g1 (hh.sep (j+1) (i+1) g zE zE zE (by rw[hg];rfl)),g2.mono fun a u _ ha=>ha.step ho' (fun k hk=> .inl hk)⟩
end
theorem acM{l:List Value}{j:Nat}:dH (.agg l.toArray) j=l.getD j undef:=rfl
theorem uO{w:World}{e:TypeId}{size n k:Nat}{v:Value}{vs:List Value}(h:w.ownsRow 0 e size v n vs)(hk:v.ownBlock=some k):k < w.heap.size:=by
 rcases h.2 with⟨rfl,_⟩|⟨g,_,_,rfl,_,hg,_⟩
 ·cases hk
 ·simp[Value.ownBlock]at hk;subst hk
  rw[Array.getElem?_eq_some_iff]at hg;exact hg.1
theorem Eff.apX{E:Env}{S X:Nat->Prop}{w w':World}{b:Nat}{A:mF}{sV v:Value}{R:Nat->Value->Value->Prop}{pre:List (Nat×Ent)}{gones:List (Nat×Slot)}
  (hl:∀k,S k->k < w.heap.size) (hS:∀c e k,(c,e)∈pre->e.at E c k->S k) (hnot:∀e,(b,e)∉pre) (hg:∀c s,(c,s)∈gones->s= .gone/\∃e,(c,e)∈pre)
  (ho:Off (fun k=>∃c e,(c,e)∈pre/\e.at E c k) w w') (hA:A.has (E.blk b) sV X (fun k=>S k\/X k) w')
  (hX:∀k,X k->(∃c e,(c,e)∈pre/\e.at E c k)\/w.heap.size<=k) (hXl:∀k,X k->k < w'.heap.size) (hR:R (E.blk b) sV v) (hone:v.oneCell'=true):
  Eff E S w pre ⟨.it (.one (.rel b R)),gones++[(b,.ent (.abs A))]⟩ v w' ⟨E.blk,upd E.sl b sV,upd E.fp b X⟩ (fun k=>S k\/X k):=by
 have hSS:∀k,(S k\/X k)->S k\/w.heap.size<=k:=fun k hk=>hk.elim .inl fun hk=>(hX k hk).imp (fun⟨c,e,h1,h2⟩=>hS c e k h1 h2) id
 have hoS:Off S w w':=ho.mono fun k ⟨c,e,h1,h2⟩=>hS c e k h1 h2
 have hent:∀i e,(i,Slot.ent e)∈gones++[(b,Slot.ent (Ent.abs A))]->i=b/\e= .abs A:=by
  intro i e hi;rcases zyg.1 hi with hi|hi
  ·have:=(hg _ _ hi).1;cases this
  ·simp at hi;exact hi
 refine
  {env:=fun i hi=>?_,fpe:=fun i hi=>?_,sub:=fun k hk=> .inl hk,new:=hSS,lt:=fun k hk=>?_,off:=ho,res:=⟨by show R (E.blk b) (upd E.sl b sV b) v;rw[upd_same];exact hR,hone⟩,
   ents:=fun i e hi=>?_,blk:=fun i e k hi hk=>?_,sep:=fun i i' e e' k hne h1 h2=>?_}
 ·by_cases e:i=b
  ·subst e;obtain⟨e,he⟩:=hi ⟨_,by simp;exact .inr rfl⟩
   exact absurd he (hnot e)
  ·exact⟨rfl,upd_ne _ _ e⟩
 ·exact upd_ne _ _ fun e=>hi (.ent (.abs A)) (by simp[e])
 ·rcases hk with hk|hk
  ·exact zqf (hl k hk) ho.size
  ·exact hXl k hk
 ·obtain⟨rfl,rfl⟩:=hent i e hi;show A.has (E.blk i) (upd E.sl i sV i) (upd E.fp i X i) _ w';rw[upd_same,upd_same];exact hA
 ·obtain⟨rfl,rfl⟩:=hent i e hi;have hk':upd E.fp i X i k:=hk;rw[upd_same]at hk';exact⟨.inr hk',hX k hk'⟩
 ·obtain⟨rfl,_⟩:=hent _ _ h1;obtain⟨rfl,_⟩:=hent _ _ h2;exact absurd rfl hne
section
variable{α:Type}
structure apS(tI:TypeId)(size:Nat)(enc:α->List CA)(l:List α)(v:Value)(X S:Nat->Prop)(w:World):Prop where
 lit:(aQ 1 1 [.val (dH v 1)]).has S w (dH v 0)
 row:∃vs,w.ownsRow 0 tI size (dH v 1) l.length vs/\aK (CA.has S w) (l.flatMap enc) vs
 X:∀k,X k↔(dH v 1).ownBlock=some k
def aho(tI:TypeId)(size:Nat)(enc:α->List CA)(l:List α):mF where
 has _ v X S w:=apS tI size enc l v X S w
 step:=fun {b v X S S' w w'} h ho hs hX=>by
  obtain⟨vs,h1,h2⟩:=h.row;exact⟨(aQ 1 1 [.val (dH v 1)]).step h.lit ho hs,⟨vs,gU h1 fun k hk=>hX k ((h.X k).2 hk),h2.mono fun a u _ ha=>ha.step ho hs⟩,h.X⟩
end
theorem nE.retm{C:Ctx}{st:St}{E:Env}{S:Nat->Prop}{a:Act}{w:World}(hs:nE C st E S a w){t:Nat}{v:AV}(hv:v.has E S w (a.tmps.getD t undef))(hid:∀b∈v.ids,(st.hp b).used=true):nE C ⟨upd st.tm t (some v),st.hp⟩ E S a w:=
 {dfr:=hs.dfr,nt:=hs.nt,cT:=hs.cT,cT0:=hs.cT0,cS:=hs.cS,lt:=hs.lt
  tm:=fun i u hu=>by
   have hu':upd st.tm t (some v) i=some u:=hu;by_cases h:i=t
   ·subst h;rw[upd_same]at hu';cases hu';exact hv
   ·rw[upd_ne _ _ h]at hu';exact hs.tm i u hu'
  tid:=fun i u hu=>by
   have hu':upd st.tm t (some v) i=some u:=hu;by_cases h:i=t
   ·subst h;rw[upd_same]at hu';cases hu';exact hid
   ·rw[upd_ne _ _ h]at hu';exact hs.tid i u hu'
  hp:=hs.hp,hid:=hs.hid,blk:=hs.blk,sep:=hs.sep,off:=hs.off,env:=hs.env,gl:=hs.gl}
section
variable{P:Program}{C:Ctx}{st:St}{α:Type}
variable{ops rest:List Oper}{acc:List (List Nat×List Nat)}{K:List (List Nat×List Nat)->St->Prop}{dst:Option Tmp}{d:Tmp}{op:Op}{ty t t':TypeId}{x y z:Operand}{k:IntKind}
theorem Go1.litH{e tI:TypeId}{r b n size bytes:Nat}{z0:Value}{enc:α->List CA}{l:List α}{cells:List CA}[ht:bT P t e 1][he:fH P e [z0] bytes](hd:aC (some d) C.nt=true)(hx:st.tm r=some (.own b))(hb:st.hp b= .ent (.row tI size n cells))(hf:st.hp d= .free)(hn:n=l.length)(hc:cells=l.flatMap enc)
  (next:Reg P C ops rest (st.app (some d) ⟨.it (.one (uj d 0)),[(b,.gone),(d,.ent (.abs (aho tI size enc l)))]⟩) (([b,d],[b,d])::acc) K):Go1 P C ops (some d) (.buildSlice t 1 #[(0,.tmp r)]) ty rest st acc K:=by
 subst hn hc;have hbd:d≠b:=by rintro rfl;rw[hf]at hb;cases hb
 refine⟨[b,d],_,fun o h2 h3 h4=>aT.eff [] [(b,.row tI size l.length (l.flatMap enc))] (fun c hc=>?_) (h2▸dR hd) (fun c e hc=>by cases hc) (fun c e hc=>?_) (fun c s hc=>?_) (fun c s hc=>?_) (fun st' E S a w hev hhp hs _ hpre=>?_),next⟩
 ·rcases hc with⟨e,hc⟩|⟨e,hc⟩|⟨s,hc⟩
  ·cases hc
  ·simp at hc;simp[hc.1]
  ·simp at hc;rcases hc with hc|hc <;> simp[hc.1]
 ·simp at hc;obtain⟨rfl,rfl⟩:=hc;exact⟨hb,_,zq9⟩
 ·simp at hc;rcases hc with⟨rfl,rfl⟩|⟨rfl,rfl⟩
  ·exact .inl ⟨_,zq9⟩
  ·exact .inr hf
 ·simp at hc;rcases hc with⟨rfl,rfl⟩|⟨rfl,rfl⟩ <;> rfl
 ·have hx':st'.tm r=some (.own b):=(hev (.tmp r) (by rw[h3];simp[Op.operands])).trans hx
  obtain⟨hxv,h1⟩:AV.has E S w (.own b) (a.tmps.getD r undef):=hs.tm r _ hx';have hbe:=hpre b _ zq9;obtain⟨vs,hown,hvs⟩:=hs.hp b _ hbe;have hS:∀k,(E.sl b).ownBlock=some k->S k:=fun k hk=>(hs.blk b _ k hbe hk).1
  have hs2:=hs.retm (t:=r) (v:= .v (E.sl b)) hxv (fun i hi=>by cases hi)
  have hp:evp ⟨upd st'.tm r (some (AV.v (E.sl b))),st'.hp⟩ (#[(0,Operand.tmp r)]:Array (Nat×Operand)).toList=some [(0,.one (.c (.val (E.sl b))))]:=by
   show (match upd st'.tm r (some (AV.v (E.sl b))) r,some []with|some (.it v),some ps=>some ((0,v)::ps)|_,_=>none)=_
   rw[upd_same]
  have hone:(E.sl b).oneCell'=true:=zZ hown;obtain⟨us,hrun,hlen,hall,hmx⟩:=run_parts (P:=P) (t:=t) (ht:=ht) (he:=he) (n:=1) (l:=[.c (.val (E.sl b))]) (m:=[.val (E.sl b)]) hs2 h3 hp (by simp[AV0.cells,Atom.eO,hone]) zc (by simp[fV,placesOf,madeCells,AV0.cells,spl]) rfl rfl
  have hus:us=[E.sl b]:=by
   match us,hall with
   |[u],h=>rw[show u=E.sl b from h.1]
  subst hus;have hsz:w.heap.size < (w.alloc (.cells #[E.sl b] e)).heap.size:=by simp
  refine⟨⟨fun i hi=>?_,fun c e hc i hi=>?_⟩,fun K Q hK=>?_⟩
  ·simp[AV.ids,AV0.ids,Atom.ids]at hi;subst hi;simp[fZ,Slot.used]
  ·simp at hc
   obtain⟨rfl,rfl⟩:=hc;cases hi
  ·unfold Oper.wp;rw[hrun];have ho:=Off.alloc (fun k=>∃c e',(c,e')∈[(b,Ent.row tI size l.length (l.flatMap enc))]/\e'.at E c k) w (.cells #[E.sl b] e)
   refine hK _ _ _ _ (Eff.apX (A:=aho tI size enc l) (sV:= .agg #[.slice (some ⟨w.heap.size,0,none⟩) 1 1,E.sl b]) (X:=fun k=>(E.sl b).ownBlock=some k) (R:=af2 0) (gones:=[(b,.gone)]) hs.lt
    (fun c e' k hc hk=>by simp at hc;obtain⟨rfl,rfl⟩:=hc;exact hS k hk) (fun e' hc=>by simp at hc;exact hbd hc.1) (fun c s hc=>by simp at hc;obtain⟨rfl,rfl⟩:=hc;exact⟨rfl,_,zq9⟩) ho ?_ (fun k hk=> .inl ⟨b,_,zq9,hk⟩) (fun k hk=>Nat.lt_trans (uO hown hk) hsz) rfl rfl)
   have ho':=Off.alloc S w (.cells #[E.sl b] e);have hsub:∀k,(S k\/(E.sl b).ownBlock=some k)->S k\/w.heap.size<=k:=fun k hk=> .inl (hk.elim id (hS k))
   refine⟨?_,⟨vs,?_,hvs.mono fun a u _ ha=>ha.step ho' hsub⟩,fun k=>Iff.rfl⟩
   ·refine bY.2 ⟨_,_,rfl,zq6 _,hmx,(fun h=>by cases h),rfl,fun i c hc=>?_⟩
    have hi:i=0:=by
     rcases i with _|i
     ·rfl
     ·simp at hc
    subst hi;cases hc;refine⟨w.heap.size,0,E.sl b,rfl,fun hS2=>absurd (hs.lt _ (hS2.elim id (hS _))) (Nat.lt_irrefl _),?_,rfl⟩
    exact cells_of_block (cs:=[E.sl b]) (heap_alloc_new w (.cells #[E.sl b] e)) 0 0 (E.sl b) rfl
   ·exact gU hown fun k hk=>Below.heap_alloc w _ k (uO hown hk)
theorem getD_lt{β:Type}{l m:List β}{j:Nat}{u:β}(h:j < l.length):(l++m).getD j u=l.getD j u:=by
 rw[zx7,zx7,zyj h]
theorem Go1.aaj{tO tI:TypeId}{b b2 bytes size:Nat}{z0:Value}{enc:α->List CA}{js:List Nat}{c:List (List α)}{l:List α}[ht:bT P t tO 1][he:fH P tO [z0] bytes](hd:aC (some d) C.nt=true)(hx:st.ev x=some (.it (.one (uj b 0))))(hy:st.ev y=some (.it (.one (uj b2 0))))
  (hb:st.hp b= .ent (.abs (iE tO tI size enc js c))) (hb2:st.hp b2= .ent (.abs (aho tI size enc l))) (hbb:b≠b2) (hf:st.hp d= .free) (h63:js.length+1<=9223372036854775807) (hbytes:(js.length+1)*bytes<=140737488355328)
  (next:Reg P C ops rest (st.app (some d) ⟨.it (.one (uj d 0)),[(b,.gone),(b2,.gone),(d,.ent (.abs (iE tO tI size enc (js++[c.length]) (c++[l]))))]⟩) (([b,b2,d],[b,b2,d])::acc) K):Go1 P C ops (some d) (.call ⟨.builtin .append,#[x,y],#[t,t]⟩) ty rest st acc K:=by
 have hbd:d≠b:=by rintro rfl;rw[hf]at hb;cases hb
 have hbd2:d≠b2:=by rintro rfl;rw[hf]at hb2;cases hb2
 refine⟨[b,b2,d],_,fun o h2 h3 h4=>aT.eff [] [(b,.abs (iE tO tI size enc js c)),(b2,.abs (aho tI size enc l))] (fun i hi=>?_) (h2▸dR hd) (fun c e hc=>by cases hc) (fun i e hi=>?_) (fun i s hi=>?_) (fun i s hi=>?_) (fun st' E S a w hev hhp hs _ hpre=>?_),next⟩
 ·rcases hi with⟨e,hi⟩|⟨e,hi⟩|⟨s,hi⟩
  ·cases hi
  ·simp at hi;rcases hi with hi|hi <;> simp[hi.1]
  ·simp at hi;rcases hi with hi|hi|hi <;> simp[hi.1]
 ·simp at hi;rcases hi with⟨rfl,rfl⟩|⟨rfl,rfl⟩
  ·exact⟨hb,.gone,by simp⟩
  ·exact⟨hb2,.gone,by simp⟩
 ·simp at hi;rcases hi with⟨rfl,rfl⟩|⟨rfl,rfl⟩|⟨rfl,rfl⟩
  ·exact .inl ⟨_,zq9⟩
  ·exact .inl ⟨_,zy2 _ zq9⟩
  ·exact .inr hf
 ·simp at hi;rcases hi with⟨rfl,rfl⟩|⟨rfl,rfl⟩|⟨rfl,rfl⟩ <;> rfl
 ·obtain⟨⟨hxv,_⟩,_⟩:=hs.ev ((hev x (by simp[h3,Op.operands,Call.operands])).trans hx)
  obtain⟨⟨hyv,_⟩,_⟩:=hs.ev ((hev y (by simp[h3,Op.operands,Call.operands])).trans hy)
  have hxv:a.eval x=dH (E.sl b) 0:=hxv;have hyv:a.eval y=dH (E.sl b2) 0:=hyv;have hbe:=hpre b (.abs (iE tO tI size enc js c)) zp
  have hbe2:=hpre b2 (.abs (aho tI size enc l)) zp
  have hR:mM tO tI size enc js c (E.sl b) (E.fp b) S w:=hs.hp b _ hbe;have hL:apS tI size enc l (E.sl b2) (E.fp b2) S w:=hs.hp b2 _ hbe2;have hsep:∀k,E.fp b k->¬E.fp b2 k:=fun k hk=>hs.sep b b2 _ _ k hbb hbe hbe2 hk
  have hS:∀k,E.fp b k->S k:=fun k hk=>(hs.blk b _ k hbe hk).1
  have hS2:∀k,E.fp b2 k->S k:=fun k hk=>(hs.blk b2 _ k hbe2 hk).1
  obtain⟨lvs,hlown,hlvs⟩:=hL.row;obtain⟨v',w',news,h5,h6,h7,h8,h9⟩:=rW (P:=P) w t o.type tO [z0] 1 bytes ht.h he ht.s rfl (dH (E.sl b) 0) js.length _ hR.out (u:=dH (E.sl b2) 0) hL.lit (by simp[CA.eO,zZ hlown]) (by simp only[maxLen];omega) hbytes
  have hnews:news=[dH (E.sl b2) 1]:=by
   match news,h9 with
   |[u],h=>rw[show u=dH (E.sl b2) 1 from h.1]
  subst hnews;refine⟨⟨fun i hi=>?_,fun c e hc i hi=>?_⟩,fun K Q hK=>?_⟩
  ·simp[AV.ids,AV0.ids,Atom.ids]at hi;subst hi;simp[fZ,Slot.used]
  ·simp at hc
   obtain⟨rfl,rfl⟩:=hc;cases hi
  ·have hfp0:∀i k,i < c.length+1->(dH (E.sl b) i).ownBlock=some k->E.fp b k:=fun i k hi hk=>(hR.X k).2 ⟨i,hi,hk⟩
   have hfpL:∀k,(dH (E.sl b2) 1).ownBlock=some k->E.fp b2 k:=fun k hk=>(hL.X k).2 hk
   have hltI:∀j k,j < c.length->(dH (E.sl b) (j+1)).ownBlock=some k->k < w.heap.size:=fun j k hj hk=>by
    obtain⟨vs,g1,_⟩:=hR.inn j _ (zyh hj)
    exact uO g1 hk
   generalize hsV:(Value.agg (v'::((List.range c.length).map (fun j=>dH (E.sl b) (j+1))++[dH (E.sl b2) 1])).toArray)=sV
   have e0:dH sV 0=v':=by rw[<-hsV];rfl
   have e1:∀j,j < c.length->dH sV (j+1)=dH (E.sl b) (j+1):=by
    intro j hj;rw[<-hsV,acM,List.getD_cons_succ,getD_lt (by simpa using hj),zx7,zqa,zvb hj];rfl
   have e2:dH sV (c.length+1)=dH (E.sl b2) 1:=by
    rw[<-hsV,acM,List.getD_cons_succ,zx7,zv6 zp];simp
   have hstay:∀{e:TypeId} {size n:Nat} {u:Value} {vs:List Value},w.ownsRow 0 e size u n vs->(∀k,u.ownBlock=some k->(dH (E.sl b) 0).ownBlock≠some k)->w'.ownsRow 0 e size u n vs:=fun hu hne=>
    gU hu fun k hk=>h7.block k (uO hu hk) (fun e=>hne k hk e.symm)
   have hneI:∀j k,j < c.length->(dH (E.sl b) (j+1)).ownBlock=some k->(dH (E.sl b) 0).ownBlock≠some k:=fun j k hj hk=>hR.sep (j+1) 0 k zE zE zE hk
   have hneL:∀k,(dH (E.sl b2) 1).ownBlock=some k->(dH (E.sl b) 0).ownBlock≠some k:=fun k hk h0=>hsep k (hfp0 0 k zE h0) (hfpL k hk)
   have ho:Off (fun k=>∃i e,(i,e)∈[(b,Ent.abs (iE tO tI size enc js c)),(b2,Ent.abs (aho tI size enc l))]/\e.at E i k) w w':=mX h7 (fun k hk=>⟨b,_,zq9,hfp0 0 k zE hk⟩)
   have hoS:Off S w w':=mX h7 (fun k hk=>hS k (hfp0 0 k zE hk))
   have hXin:∀i k,i < c.length+2->(dH sV i).ownBlock=some k->E.fp b k\/E.fp b2 k\/w.heap.size<=k:=by
    intro i k hi hk;rcases i with _|i
    ·rw[e0]at hk;rcases h8 k hk with h|h
     ·exact .inl (hfp0 0 k zE h)
     ·exact .inr (.inr h)
    ·by_cases hic:i < c.length
     ·rw[e1 i hic]at hk;exact .inl (hfp0 (i+1) k zE hk)
     ·have:i=c.length:=zE
      subst this;rw[e2]at hk;exact .inr (.inl (hfpL k hk))
   have hXS:∀k,(∃i,i < c.length+2/\(dH sV i).ownBlock=some k)->S k\/w.heap.size<=k:=fun k ⟨i,hi,hk⟩=>(hXin i k hi hk).elim (fun h=> .inl (hS k h)) (fun h=>h.imp (hS2 k) id)
   have hin:∀j r,(c++[l])[j]? =some r->∃vs,w'.ownsRow 0 tI size (dH sV (j+1)) r.length vs/\aK (CA.has (fun k=>S k\/∃i,i < c.length+2/\(dH sV i).ownBlock=some k) w') (r.flatMap enc) vs:=by
    intro j r hj;have hsub:∀k,(S k\/∃i,i < c.length+2/\(dH sV i).ownBlock=some k)->S k\/w.heap.size<=k:=fun k hk=>hk.elim .inl (hXS k)
    by_cases hjc:j < c.length
    ·rw[zyj hjc]at hj
     obtain⟨vs,g1,g2⟩:=hR.inn j r hj;rw[e1 j hjc];exact⟨vs,hstay g1 (fun k hk=>hneI j k hjc hk),g2.mono fun a u _ ha=>ha.step hoS hsub⟩
    ·have hlt:j < (c++[l]).length:=by
      rcases zyd j (c++[l]).length with h|h
      ·exact h
      ·rw[zqe h]at hj;cases hj
     have hjc':j=c.length:=by rw[zqi,zw1]at hlt;omega
     subst hjc';rw[zv6 (zq6 _),Nat.sub_self]at hj
     cases hj;rw[e2];exact⟨lvs,hstay hlown hneL,hlvs.mono fun a u _ ha=>ha.step hoS hsub⟩
   have hltX:∀i k,i < c.length+2->(dH sV i).ownBlock=some k->k < w'.heap.size:=by
    intro i k hi hk;rcases i with _|i
    ·rw[e0]at hk;exact uO h6 hk
    ·obtain⟨vs,g1,_⟩:=hin i ((c++[l])[i]'(by simp;omega)) (zyh (by simp;omega))
     exact uO g1 hk
   unfold Oper.wp;have hrun:(execOp a.eval o).run P w= .ok (.value v') w':=by
    unfold execOp;rw[h3];simp[resolve,invoke,builtin,hxv,hyv,h5]
   rw[hrun];refine hK _ _ _ _ (Eff.apX (A:=iE tO tI size enc (js++[c.length]) (c++[l])) (sV:=sV) (X:=fun k=>∃i,i < c.length+2/\(dH sV i).ownBlock=some k) (R:=af2 0) (gones:=[(b,.gone),(b2,.gone)]) hs.lt
    (fun i e k hi hk=>?_) (fun e hi=>?_) (fun i s hi=>?_) ho ?_ (fun k ⟨i,hi,hk⟩=>?_) (fun k ⟨i,hi,hk⟩=>hltX i k hi hk) e0.symm (zZ h6))
   ·simp at hi;rcases hi with⟨rfl,rfl⟩|⟨rfl,rfl⟩
    ·exact hS k hk
    ·exact hS2 k hk
   ·simp at hi;rcases hi with⟨h,_⟩|⟨h,_⟩
    ·exact hbd h
    ·exact hbd2 h
   ·simp at hi;rcases hi with⟨rfl,rfl⟩|⟨rfl,rfl⟩
    ·exact⟨rfl,_,zq9⟩
    ·exact⟨rfl,_,zy2 _ zq9⟩
   ·refine⟨?_,fun j hj=>?_,hin,fun i j k hi hj hij h1 h2=>?_,fun k=>by rw[zqi,zw1]⟩
    ·rw[e0,zqi,zw1,List.map_append];have hm:js.map (fun j=>dH sV (j+1))=js.map fun j=>dH (E.sl b) (j+1):=zvg fun j hj=>e1 j (hR.lt j hj)
     rw[hm];simpa[e2]using h6
    ·rw[zqi,zw1];rcases zyg.1 hj with h|h
     ·exact Nat.lt_succ_of_lt (hR.lt j h)
     ·simp at h;omega
    ·rw[zqi,zw1]at hi hj;have key:∀i j,i < c.length+2->j < c.length+2->i < j->(dH sV i).ownBlock=some k->(dH sV j).ownBlock=some k->False:=by
      intro i j hi hj hlt h1 h2;rcases j with _|j
      ·omega
      have hkl:k < w.heap.size:=by
       by_cases hjc:j < c.length
       ·rw[e1 j hjc]at h2;exact hltI j k hjc h2
       ·have:j=c.length:=zE
        subst this;rw[e2]at h2;exact uO hlown h2
      have g1:i < c.length+1/\(dH (E.sl b) i).ownBlock=some k:=by
       rcases i with _|i
       ·rw[e0]at h1;rcases h8 k h1 with h|h
        ·exact⟨zE,h⟩
        ·omega
       ·rw[e1 i zE]at h1;exact⟨zE,h1⟩
      by_cases hjc:j < c.length
      ·rw[e1 j hjc]at h2;exact hR.sep i (j+1) k g1.1 zE zE g1.2 h2
      ·have:j=c.length:=zE
       subst this;rw[e2]at h2;exact hsep k (hfp0 i k g1.1 g1.2) (hfpL k h2)
     rcases Nat.lt_or_gt_of_ne hij with h|h
     ·exact key i j zE zE h h1 h2
     ·exact key j i zE zE h h2 h1
   ·rcases hXin i k hi hk with h|h|h
    ·exact .inl ⟨b,_,zq9,h⟩
    ·exact .inl ⟨b2,_,zy2 _ zq9,h⟩
    ·exact .inr h
end
end
section
section
variable{ι:Type}
structure y8(φ:ι->Prop)(t:TypeId)(cells:ι->List Atom)(R:ι->List (Nat×Ent))(bk:Nat)(X S:Nat->Prop)(w:World)(p:ι)(E:Env):Prop where
 φ:φ p
 box:∃cs:List Value,w.heap[bk]? =some (.cells cs.toArray t (0,0))/\aK (Atom.has E S w) (cells p) cs
 ents:∀i e,(i,e)∈R p->e.has E S w i
 sep:∀i i' e e' k,i≠i'->(i,e)∈R p->(i',e')∈R p->e.at E i k->¬e'.at E i' k
 sepb:∀i e,(i,e)∈R p->¬e.at E i bk
 X:∀k,X k↔k=bk\/∃i e,(i,e)∈R p/\e.at E i k
def jL(b:Nat)(φ:ι->Prop)(t:TypeId)(cells:ι->List Atom)(R:ι->List (Nat×Ent)):mF where
 has bk v X S w:=∃p E,(E.blk b=bk/\E.sl b=v)/\y8 φ t cells R bk X S w p E
 step:=fun {bk v X S S' w w'} ⟨p,E,hself,h⟩ ho hs hX=>by
  refine⟨p,E,hself,h.φ,?_,fun i e hi=>?_,h.sep,h.sepb,h.X⟩
  ·obtain⟨cs,h1,h2⟩:=h.box;exact⟨cs,by rw[hX bk ((h.X bk).2 (.inl rfl))];exact h1,h2.mono fun a u _ ha=>ha.step (fun _ _=>⟨rfl,rfl⟩) ho hs⟩
  ·exact(h.ents i e hi).step (fun _ _=>⟨rfl,rfl⟩) ⟨rfl,rfl⟩ ho hs (fun k hk=>hX k ((h.X k).2 (.inr ⟨i,e,hi,hk⟩))) rfl
def uR(st:St)(b:Nat)(t:TypeId)(cells:List Atom)(R:List (Nat×Ent)):St:=⟨st.tm,fZ st.hp ((b,.ent (.box t cells))::R.map fun q=>(q.1,.ent q.2))⟩
theorem aoy{b c:Nat}{t:TypeId}{cells:List Atom}{R:List (Nat×Ent)}{e:Ent}(h:(c,Slot.ent e)∈((b,Slot.ent (.box t cells))::R.map fun q=>(q.1,Slot.ent q.2))):(c=b/\e= .box t cells)\/(c,e)∈R:=by
 rcases zy3.1 h with h|h
 ·cases h;exact .inl ⟨rfl,rfl⟩
 ·obtain⟨q,hq,he⟩:=zqg.1 h;cases he;exact .inr hq
theorem Sat.agn{C:Ctx}{st:St}{a:Act}{w:World}{b:Nat}{φ:ι->Prop}{t:TypeId}{cells:ι->List Atom}{R:ι->List (Nat×Ent)}(ns:List Nat)(h:Sat C st a w)(hb:st.hp b= .ent (.abs (jL b φ t cells R)))(hns:∀p,(R p).map (·.1)=ns)(hfree:∀i∈ns,st.hp i= .free)(hfix:∀i∈ns,C.fix i=false)
  (hid:∀p,∀i∈(cells p).flatMap Atom.ids,i∈ns\/i=b) (hRid:∀p i e,(i,e)∈R p->e.ids=[]):∃p,φ p/\Sat C (uR st b t (cells p) (R p)) a w:=by
 obtain⟨E,S,hs⟩:=h;obtain⟨p,Ep,⟨hself1,hself2⟩,hB⟩:∃(p:ι) (Ep:Env),(Ep.blk b=E.blk b/\Ep.sl b=E.sl b)/\y8 φ t cells R (E.blk b) (E.fp b) S w p Ep:=hs.hp b _ hb;refine⟨p,hB.φ,?_⟩;generalize hcp:cells p=cs0 at*;have hnsR:∀i e,(i,e)∈R p->i∈ns:=fun i e hi=>by rw[<-hns p];exact zqg.2 ⟨_,hi,rfl⟩
 have hun:∀i,(st.hp i).used=true->i∉ns:=fun i hi hin=>by rw[hfree i hin]at hi;cases hi
 have hbn:b∉ns:=hun b (by rw[hb];rfl)
 let E':Env:=⟨fun i=>if i∈ns then Ep.blk i else E.blk i,fun i=>if i∈ns then Ep.sl i else E.sl i,fun i=>if i∈ns then Ep.fp i else E.fp i⟩
 have at1:∀i,i∉ns->E.at' E' i:=fun i hi=>⟨if_neg hi,if_neg hi⟩
 have fp1:∀i,i∉ns->E'.fp i=E.fp i:=fun i hi=>if_neg hi
 have at2:∀i,i∈ns->Ep.at' E' i:=fun i hi=>⟨if_pos hi,if_pos hi⟩
 have fp2:∀i,i∈ns->E'.fp i=Ep.fp i:=fun i hi=>if_pos hi
 have at3:∀i,i∈ns\/i=b->Ep.at' E' i:=fun i hi=>by
  rcases hi with hi|rfl
  ·exact at2 i hi
  ·exact⟨(at1 i hbn).1.trans hself1.symm,(at1 i hbn).2.trans hself2.symm⟩
 have hids:∀i∈cs0.flatMap Atom.ids,i∈ns\/i=b:=fun i hi=>hid p i (by rw[hcp];exact hi)
 have hbox:=hB.box;rw[hcp]at hbox;have hused:∀i,((st.hp i).used=true\/i∈ns)->((uR st b t cs0 (R p)).hp i).used=true:=by
  intro i hi;show (fZ st.hp _ i).used=true;rcases gI i ((b,.ent (.box t cs0))::(R p).map fun q=>(q.1,.ent q.2)) st.hp with⟨s,g1,g2⟩|⟨g1,g2⟩
  ·rw[g2];rcases zy3.1 g1 with h|h
   ·cases h;rfl
   ·obtain⟨q,_,he⟩:=zqg.1 h;cases he;rfl
  ·rw[g2];rcases hi with hi|hi
   ·exact hi
   ·rw[<-hns p]at hi;obtain⟨q,hq,rfl⟩:=zqg.1 hi;exact absurd (zy2 _ (zqg.2 ⟨q,hq,rfl⟩)) (g1 _)
 have hcase:∀c e,(uR st b t cs0 (R p)).hp c= .ent e->((c=b/\e= .box t cs0)\/(c,e)∈R p)\/(c≠b/\c∉ns/\st.hp c= .ent e):=by
  intro c e hc;rcases gI c ((b,.ent (.box t cs0))::(R p).map fun q=>(q.1,.ent q.2)) st.hp with⟨s,g1,g2⟩|⟨g1,g2⟩
  ·have:s= .ent e:=g2.symm.trans hc;subst this;exact .inl (aoy g1)
  ·have h3:st.hp c= .ent e:=g2.symm.trans hc;refine .inr ⟨?_,hun c (by rw[h3];rfl),h3⟩
   rintro rfl;exact g1 _ zq9
 have hX:∀(c:Nat) (e:Ent) (k:Nat),((c=b/\e= .box t cs0)\/(c,e)∈R p)->e.at E' c k->E.fp b k:=by
  intro c e k hc hk;rcases hc with⟨rfl,rfl⟩|hc
  ·have hk':some (E'.blk c)=some k:=hk;rw[(at1 c hbn).1]at hk';exact(hB.X k).2 (.inl (zy7 hk').symm)
  ·rw[Ent.gM (at2 c (hnsR c e hc)) (fp2 c (hnsR c e hc))]at hk;exact(hB.X k).2 (.inr ⟨c,e,hc,hk⟩)
 have hother:∀(c:Nat) (e:Ent) (k:Nat),c∉ns->e.at E' c k->e.at E c k:=fun c e k hc hk=>by rw[Ent.gM (at1 c hc) (fp1 c hc)]at hk;exact hk
 refine⟨E',S,{dfr:=hs.dfr,nt:=hs.nt,cT:=hs.cT,cT0:=hs.cT0,cS:=hs.cS,lt:=hs.lt,tm:=fun i v hv=>?_,tid:=fun i v hv j hj=>hused j (.inl (hs.tid i v hv j hj)),hp:=fun c e hc=>?_,hid:=fun c e hc i hi=>?_,blk:=fun c e k hc hk=>?_,sep:=fun c c' e e' k hne hc hc' hk hk'=>?_,off:=hs.off,env:=fun c hc=>?_,gl:=hs.gl}⟩
 ·exact(hs.tm i v hv).step (fun j hj=>at1 j (hun j (hs.tid i v hv j hj))) (Off.refl S w) (fun k hk=> .inl hk)
 ·rcases hcase c e hc with(⟨rfl,rfl⟩|hR)|⟨_,hcn,h3⟩
  ·obtain⟨cs,h1,h2⟩:=hbox;refine⟨cs,by rw[(at1 c hbn).1];exact h1,h2.mono fun x u hx ha=>ha.step (fun j hj=>at3 j (hids j (zx9.2 ⟨x,hx,hj⟩))) (Off.refl S w) (fun k hk=> .inl hk)⟩
  ·have hin:=hnsR c e hR;exact(hB.ents c e hR).step (fun j hj=>by rw[hRid p c e hR]at hj;cases hj) (at2 c hin) (Off.refl S w) (fun k hk=> .inl hk) (fun _ _=>rfl) (fp2 c hin)
  ·exact(hs.hp c e h3).step (fun j hj=>at1 j (hun j (hs.hid c e h3 j hj))) (at1 c hcn) (Off.refl S w) (fun k hk=> .inl hk) (fun _ _=>rfl) (fp1 c hcn)
 ·rcases hcase c e hc with(⟨rfl,rfl⟩|hR)|⟨_,hcn,h3⟩
  ·rcases hids i hi with h|rfl
   ·exact hused i (.inr h)
   ·exact hused i (.inl (by rw[hb];rfl))
  ·rw[hRid p c e hR]at hi;cases hi
  ·exact hused i (.inl (hs.hid c e h3 i hi))
 ·rcases hcase c e hc with hL|⟨_,hcn,h3⟩
  ·exact hs.blk b _ k hb (hX c e k hL hk)
  ·exact hs.blk c e k h3 (hother c e k hcn hk)
 ·rcases hcase c e hc with hL|⟨hcb,hcn,h3⟩
  ·rcases hcase c' e' hc' with hL'|⟨hcb',hcn',h3'⟩
   ·rcases hL with⟨rfl,rfl⟩|hR
    ·rcases hL' with⟨rfl,_⟩|hR'
     ·exact hne rfl
     ·have hk1:some (E'.blk c)=some k:=hk;rw[(at1 c hbn).1]at hk1;cases hk1;rw[Ent.gM (at2 c' (hnsR c' e' hR')) (fp2 c' (hnsR c' e' hR'))]at hk';exact hB.sepb c' e' hR' hk'
    ·rw[Ent.gM (at2 c (hnsR c e hR)) (fp2 c (hnsR c e hR))]at hk;rcases hL' with⟨rfl,rfl⟩|hR'
     ·have hk1:some (E'.blk c')=some k:=hk';rw[(at1 c' hbn).1]at hk1;cases hk1;exact hB.sepb c e hR hk
     ·rw[Ent.gM (at2 c' (hnsR c' e' hR')) (fp2 c' (hnsR c' e' hR'))]at hk';exact hB.sep c c' e e' k hne hR hR' hk hk'
   ·exact hs.sep b c' _ e' k (fun e=>hcb' e.symm) hb h3' (hX c e k hL hk) (hother c' e' k hcn' hk')
  ·rcases hcase c' e' hc' with hL'|⟨hcb',hcn',h3'⟩
   ·exact hs.sep c b e _ k hcb h3 hb (hother c e k hcn hk) (hX c' e' k hL' hk')
   ·exact hs.sep c c' e e' k hne h3 h3' (hother c e k hcn hk) (hother c' e' k hcn' hk')
 ·obtain⟨g1,g2,g3⟩:=hs.env c hc;have hcn:c∉ns:=fun h=>by rw[hfix c h]at hc;cases hc
  exact⟨(at1 c hcn).1.trans g1,(at1 c hcn).2.trans g2,hused c (.inl g3)⟩
end
def aD(ρ:List (Nat×Option Nat))(x y:Atom):Prop:=∀E S w v,x.has E S w v->y.has (eG ρ E) S w v
def nT(ρ:List (Nat×Option Nat)):List Atom->List Atom->Prop
 |[],[]=>True
 |a::l,b::m=>aD ρ a b/\nT ρ l m
 |_,_=>False
theorem aD.same{ρ:List (Nat×Option Nat)}{x:Atom}(h:fresh ρ x.ids=true):aD ρ x x:=fun E S w v hv=>hv.env (rH h E)
theorem aD.own{ρ:List (Nat×Option Nat)}{o b:Nat}(h:lk ρ b=some (some o)):aD ρ (.own o) (.own b):=fun E S w v hv=>by
 obtain⟨h1,h2⟩:=hv;exact⟨by simp only[eG,h];exact h1,h2⟩
theorem aD.rel{ρ:List (Nat×Option Nat)}{o b:Nat}{R:Nat->Value->Value->Prop}(h:lk ρ b=some (some o)):aD ρ (.rel o R) (.rel b R):=fun E S w v hv=>by
 obtain⟨h1,h2⟩:=hv;exact⟨by simp only[eG,h];exact h1,h2⟩
theorem aD.nil{ρ:List (Nat×Option Nat)}{b:Nat}(h:lk ρ b=some none):aD ρ (.c (.val (.slice none 0 0))) (.own b):=fun E S w v hv=>by
 have hv':v= .slice none 0 0:=hv;subst hv';exact⟨by simp only[eG,h],rfl⟩
theorem aD.atV{ρ:List (Nat×Option Nat)}{b:Nat}(h:lk ρ b=some none):aD ρ (.c (.val (.slice none 0 0))) (.rel b (af2 0)):=fun E S w v hv=>by
 have hv':v= .slice none 0 0:=hv;subst hv';exact⟨by simp only[eG,h];rfl,rfl⟩
theorem nT.all{ρ:List (Nat×Option Nat)}{E:Env}{S:Nat->Prop}{w:World}:∀{l m:List Atom} {vs:List Value},nT ρ l m->aK (Atom.has E S w) l vs->aK (Atom.has (eG ρ E) S w) m vs
 |[],[],[],_,_=>trivial
 |a::l,b::m,v::vs,h,k=>⟨h.1 E S w v k.1,h.2.all k.2⟩
 |[],[],_::_,_,k=>k.elim
 |_::_,_::_,[],_,k=>k.elim
 |[],_::_,_,h,_=>h.elim
 |_::_,[],_,h,_=>h.elim
theorem ay.nW{st:St}{ρ:List (Nat×Option Nat)}{b:Nat}{t:TypeId}{cells0 cells:List Atom}(h:st.hp b= .ent (.box t cells0))(hf:fresh ρ [b]=true)(hi:nT ρ cells0 cells):ay st ρ b (.box t cells):=by
 have ha:=rH hf;refine .old b _ h (.inr ⟨?_,rfl⟩) (fun E S w hh=>?_) (fun E=>by funext k;simp only[Ent.at,(ha E b zq9).1])
 ·have:=zqh.1 hf b zq9;simpa using this
 ·obtain⟨cs,h1,h2⟩:=hh;exact⟨cs,by rw[(ha E b zq9).1];exact h1,hi.all h2⟩
theorem ay.aqW{α:Type}{st:St}{ρ:List (Nat×Option Nat)}{b:Nat}{tO tI:TypeId}{size:Nat}{enc:α->List CA}(hb:lk ρ b=some none):ay st ρ b (.abs (iE tO tI size enc [] [])):=by
 have e0:dH (.slice none 0 0) 0= .slice none 0 0:=rfl;refine .nil hb (fun E S w=>?_) (fun E k=>?_)
 ·show mM tO tI size enc [] [] ((eG ρ E).sl b) ((eG ρ E).fp b) S w;simp only[eG,hb];refine⟨World.ownsRow_nil ..,(fun j hj=>by cases hj),(fun j l hj=>by simp at hj),fun i j k hi hj hij h=>?_,fun k=>⟨fun h=>h.elim,fun⟨i,hi,h⟩=>?_⟩⟩
  ·have h0:i=0:=by simpa using hi
   subst h0;rw[e0]at h;cases h
  ·have h0:i=0:=by simpa using hi
   subst h0;rw[e0]at h;cases h
 ·simp only[Ent.at,eG,hb];intro h;cases h
structure Hide(p:Prop):Prop where
 out:p
def qw(st:St)(b:Nat)(A:mF)(os:List Nat):St:=⟨st.tm,fZ st.hp ((b,.ent (.abs A))::os.map fun o=>(o,.gone))⟩
theorem St.aaD{ι:Type}{C:Ctx}{st:St}{b:Nat}{φ:ι->Prop}{t:TypeId}{cells:ι->List Atom}{R:ι->List (Nat×Ent)}{cells0:List Atom}(p:ι)(ρ:List (Nat×Option Nat))(os:List Nat)(hφ:φ p)(hb:st.hp b= .ent (.box t cells0))(hc:nT ρ cells0 (cells p))(hR:aaE st ρ (R p))
  (hos:((R p).all fun q=>match SX.src ρ q.1 with|some o=>jv os o|none=>true)=true) (hbo:jv os b=false) (hdi:((R p).all fun q=>(R p).all fun q'=>Nat.beq q.1 q'.1||!(eqO (SX.src ρ q.1) (SX.src ρ q'.1)))=true) (hfb:lk ρ b=none:=by rfl):St.le C st (qw st b (jL b φ t cells R) os):=by
 intro a w ⟨E,S,hs⟩
 let X:Nat->Prop:=fun k=>k=E.blk b\/∃i e,(i,e)∈R p/\Ent.at e (eG ρ E) i k
 have hbox:Ent.has E S w b (.box t cells0):=hs.hp b _ hb;have hsrc:∀i e k,(i,e)∈R p->e.at (eG ρ E) i k->∃o e0,SX.src ρ i=some o/\o∈os/\st.hp o= .ent e0/\e0.at E o k:=by
  intro i e k hi hk;rcases(hR.mem i e hi).src with⟨o,e0,so,ho,hk0⟩|hk0
  ·have:=zqh.1 hos _ hi;simp only[so]at this;rw[hk0]at hk;exact⟨o,e0,so,fE.1 this,ho,hk⟩
  ·exact absurd hk (hk0 E k)
 have hbn:b∉os:=fun h=>by rw[fE.2 h]at hbo;cases hbo
 have hB:y8 φ t cells R (E.blk b) X S w p (eG ρ E):=by
  refine⟨hφ,?_,fun i e hi=>?_,fun i i' e e' k hne hi hi' hk hk'=>?_,fun i e hi hk=>?_,fun k=>Iff.rfl⟩
  ·obtain⟨cs,h1,h2⟩:=hbox;exact⟨cs,h1,hc.all h2⟩
  ·cases hR.mem i e hi with
   |old o e0 ho _ hh hk=>exact hh _ _ _ (hs.hp o e0 ho)
   |nil _ hh _=>exact hh _ _ _
  ·obtain⟨o,e0,so,_,ho,g1⟩:=hsrc i e k hi hk;obtain⟨o',e0',so',_,ho',g1'⟩:=hsrc i' e' k hi' hk';have:=zqh.1 (zqh.1 hdi _ hi) _ hi';rw[so,so']at this;have hno:o≠o':=by
    intro e;subst e;simp[eqO,hne]at this
   exact hs.sep o o' e0 e0' k hno ho ho' g1 g1'
  ·obtain⟨o,e0,so,hoo,ho,g1⟩:=hsrc i e _ hi hk;exact hs.sep o b e0 _ _ (fun h=>hbn (h▸hoo)) ho hb g1 rfl
 let E':Env:=⟨E.blk,E.sl,upd E.fp b X⟩
 have hat:∀i,E.at' E' i:=fun i=>⟨rfl,rfl⟩
 have hfp:∀i,i≠b->E'.fp i=E.fp i:=fun i hi=>upd_ne _ _ hi
 have hcase:∀c e,(qw st b (jL b φ t cells R) os).hp c= .ent e->(c=b/\e= .abs (jL b φ t cells R))\/(c≠b/\c∉os/\st.hp c= .ent e):=by
  intro c e hc;rcases gI c ((b,.ent (.abs (jL b φ t cells R)))::os.map fun o=>(o,.gone)) st.hp with⟨s,g1,g2⟩|⟨g1,g2⟩
  ·have:s= .ent e:=g2.symm.trans hc;subst this;rcases zy3.1 g1 with h|h
   ·cases h;exact .inl ⟨rfl,rfl⟩
   ·obtain⟨q,_,he⟩:=zqg.1 h;cases he
  ·refine .inr ⟨?_,fun h=>g1 .gone (zy2 _ (zqg.2 ⟨c,h,rfl⟩)),g2.symm.trans hc⟩
   rintro rfl;exact g1 _ zq9
 have hused:∀i,(st.hp i).used=true->((qw st b (jL b φ t cells R) os).hp i).used=true:=by
  intro i hi;show (fZ st.hp _ i).used=true;rcases gI i ((b,.ent (.abs (jL b φ t cells R)))::os.map fun o=>(o,.gone)) st.hp with⟨s,g1,g2⟩|⟨g1,g2⟩
  ·rw[g2];rcases zy3.1 g1 with h|h
   ·cases h;rfl
   ·obtain⟨q,_,he⟩:=zqg.1 h;cases he;rfl
  ·rw[g2];exact hi
 have hXS:∀k,X k->S k/\(C.B k\/C.w0.heap.size<=k):=by
  intro k hk;rcases hk with rfl|⟨i,e,hi,hk⟩
  ·exact hs.blk b _ _ hb rfl
  ·obtain⟨o,e0,_,_,ho,g1⟩:=hsrc i e k hi hk;exact hs.blk o e0 k ho g1
 have hXo:∀c e k,c≠b->c∉os->st.hp c= .ent e->X k->¬e.at E c k:=by
  intro c e k hcb hco hc hk;rcases hk with rfl|⟨i,e',hi,hk⟩
  ·exact fun h=>hs.sep c b e _ _ hcb hc hb h rfl
  ·obtain⟨o,e0,_,hoo,ho,g1⟩:=hsrc i e' k hi hk;exact hs.sep o c e0 e k (fun h=>hco (h▸hoo)) ho hc g1
 have hother:∀(c:Nat) (e:Ent) (k:Nat),c≠b->e.at E' c k->e.at E c k:=fun c e k hc hk=>by rw[Ent.gM (hat c) (hfp c hc)]at hk;exact hk
 have hmine:∀k,(Ent.abs (jL b φ t cells R)).at E' b k->X k:=fun k hk=>by
  have hk':upd E.fp b X b k:=hk;rw[upd_same]at hk';exact hk'
 refine⟨E',S,{dfr:=hs.dfr,nt:=hs.nt,cT:=hs.cT,cT0:=hs.cT0,cS:=hs.cS,lt:=hs.lt,tm:=fun i v hv=>?_,tid:=fun i v hv j hj=>hused j (hs.tid i v hv j hj),hp:=fun c e hc=>?_,hid:=fun c e hc i hi=>?_,blk:=fun c e k hc hk=>?_,sep:=fun c c' e e' k hne hc hc' hk hk'=>?_,off:=hs.off,env:=fun c hc=>?_,gl:=hs.gl}⟩
 ·exact(hs.tm i v hv).step (fun j hj=>hat j) (Off.refl S w) (fun k hk=> .inl hk)
 ·rcases hcase c e hc with⟨rfl,rfl⟩|⟨hcb,_,h3⟩
  ·show∃(p':ι) (Ep:Env),(Ep.blk c=E.blk c/\Ep.sl c=E.sl c)/\y8 φ t cells R (E.blk c) (upd E.fp c X c) S w p' Ep;rw[upd_same];exact⟨p,_,⟨by simp only[eG,hfb],by simp only[eG,hfb]⟩,hB⟩
  ·exact(hs.hp c e h3).step (fun j hj=>hat j) (hat c) (Off.refl S w) (fun k hk=> .inl hk) (fun _ _=>rfl) (hfp c hcb)
 ·rcases hcase c e hc with⟨rfl,rfl⟩|⟨hcb,_,h3⟩
  ·cases hi
  ·exact hused i (hs.hid c e h3 i hi)
 ·rcases hcase c e hc with⟨rfl,rfl⟩|⟨hcb,_,h3⟩
  ·exact hXS k (hmine k hk)
  ·exact hs.blk c e k h3 (hother c e k hcb hk)
 ·rcases hcase c e hc with⟨rfl,rfl⟩|⟨hcb,hco,h3⟩
  ·rcases hcase c' e' hc' with⟨rfl,rfl⟩|⟨hcb',hco',h3'⟩
   ·exact hne rfl
   ·exact hXo c' e' k hcb' hco' h3' (hmine k hk) (hother c' e' k hcb' hk')
  ·rcases hcase c' e' hc' with⟨rfl,rfl⟩|⟨hcb',hco',h3'⟩
   ·exact hXo c e k hcb hco h3 (hmine k hk') (hother c e k hcb hk)
   ·exact hs.sep c c' e e' k hne h3 h3' (hother c e k hcb hk) (hother c' e' k hcb' hk')
 ·obtain⟨g1,g2,g3⟩:=hs.env c hc;exact⟨g1,g2,hused c g3⟩
theorem WP.agn{ι:Type}{P:Program}{C:Ctx}{st:St}{Q:Exit->St->Prop}{c:Code}{b:Nat}{φ:ι->Prop}{t:TypeId}{cells:ι->List Atom}{R:ι->List (Nat×Ent)}(ns:List Nat)(hb:st.hp b= .ent (.abs (jL b φ t cells R)))(hns:∀p,(R p).map (·.1)=ns)(hfree:∀i∈ns,st.hp i= .free)(hfix:∀i∈ns,C.fix i=false)
  (hid:∀p,∀i∈(cells p).flatMap Atom.ids,i∈ns\/i=b) (hRid:∀p i e,(i,e)∈R p->e.ids=[]) (h:∀p,φ p->WP P C c (uR st b t (cells p) (R p)) Q):WP P C c st Q:=fun a w hs=>by
 obtain⟨p,hp,hs'⟩:=Sat.agn ns hs hb hns hfree hfix hid hRid;exact h p hp a w hs'
end
section
section
variable{P:Program}{C:Ctx}{st:St}{α:Type}
variable{ops rest:List Oper}{acc:List (List Nat×List Nat)}{K:List (List Nat×List Nat)->St->Prop}{dst:Option Tmp}{d:Tmp}{op:Op}{ty t t':TypeId}{x y z:Operand}{k:IntKind}
end
end
section
theorem zw:∀m:List CA,aY (m.map Atom.c)=some m
 |[]=>rfl
 |c::m=>by simp[aY,zw m]
theorem afr{cells:List Atom}{m:List CA}(h:cells=m.map Atom.c):aY cells=some m:=by rw[h];exact zw m
section
variable{P:Program}{C:Ctx}{st:St}{α:Type}
variable{ops rest:List Oper}{acc:List (List Nat×List Nat)}{K:List (List Nat×List Nat)->St->Prop}{dst:Option Tmp}{d:Tmp}{op:Op}{ty t t':TypeId}{x y z:Operand}{k:IntKind}
theorem G.lenH{A:mF}{e:TypeId}{b i n size sz:Nat}[ht:bT P t e sz](next:Reg P C ops rest (st.app dst ⟨.v (.int .i64 (n:Int)),[]⟩) (([b],[])::acc) K)(hd:aC dst C.nt=true:=by rfl)(hx:st.ev x=some (.it (.one (.rel b (af2 i)))):=by rfl)(hb:st.hp b= .ent (.abs A):=by rfl)(hA:mo A i e size n:=by first|exact SX.mo.out|exact SX.mo.inn (by assumption)):Go1 P C ops dst (.call ⟨.builtin .len,#[x],#[t]⟩) ty rest st acc K:=
 Go1.lenH hd hx hb hA next
theorem G.pX{A:mF}{e:TypeId}{b j n size i:Nat}[ht:bT P t e size](next:Reg P C ops rest (st.app dst ⟨.it (.one (.rel b (rF j (i*size)))),[]⟩) (([b],[])::acc) K)(hd:aC dst C.nt=true:=by rfl)(hx:st.ev x=some (.it (.one (.rel b (af2 j)))):=by rfl)(hb:st.hp b= .ent (.abs A):=by rfl)(hA:mo A j e size n:=by first|exact SX.mo.out|exact SX.mo.inn (by assumption))(hy:st.ev y=some (.v (.int k (i:Int))):=by rfl)(hi:i < n:=by omega):Go1 P C ops dst (.indexAddr t x y) ty rest st acc K:=
 Go1.pX hd hx hb hA hy hi next
theorem G.ajJ{tO tI:TypeId}{b size i j:Nat}{enc:α->List CA}{js:List Nat}{c:List (List α)}[ht:iK P t](next:Reg P C ops rest (st.app dst ⟨.it (.one (uj b (j+1))),[]⟩) (([b],[])::acc) K)(hd:aC dst C.nt=true:=by rfl)(hx:st.ev x=some (.it (.one (.rel b (rF 0 (i*1))))):=by rfl)(hb:st.hp b= .ent (.abs (iE tO tI size enc js c)):=by rfl)(hj:js[i]? =some j:=by assumption):Go1 P C ops dst (.load t x) ty rest st acc K:=
 Go1.ajJ hd hx hb (by rw[Nat.mul_one];exact hj) next
theorem G.ad5{tO tI:TypeId}{b size i j:Nat}{enc:α->List CA}{js:List Nat}{c:List (List α)}(next:Reg P C ops rest (st.app none ⟨.v undef,[(b,.ent (.abs (iE tO tI size enc (js.set i j) c)))]⟩) (([b],[b])::acc) K)(hs:(P.info? t).map (·.size)=some 1:=by kernel_rfl)(hx:st.ev x=some (.it (.one (.rel b (rF 0 (i*1))))):=by rfl)(hy:st.ev y=some (.it (.one (uj b (j+1)))):=by rfl)(hb:st.hp b= .ent (.abs (iE tO tI size enc js c)):=by rfl)(ho:i < js.length:=by first|omega|(rw[zvf];omega))(hj:j < c.length:=by first|assumption|omega):Go1 P C ops none (.store t x y) ty rest st acc K:=
 Go1.ad5 hs hx hy hb (off:=i*1) (by rw[Nat.mul_one];exact ho) hj (by rw[Nat.mul_one];exact next)
theorem G.aaf{tO tI:TypeId}{b size i j:Nat}{enc:α->List CA}{js:List Nat}{c:List (List α)}{v:AV0}{r:List α}{a:α}[he:eY enc size](next:Reg P C ops rest (st.app none ⟨.v undef,[(b,.ent (.abs (iE tO tI size enc js (c.set j (r.set i a)))))]⟩) (([b],[b])::acc) K)(hs:(P.info? t).map (·.size)=some size:=by kernel_rfl)(hx:st.ev x=some (.it (.one (.rel b (rF (j+1) (i*size))))):=by rfl)(hy:st.ev y=some (.it v):=by rfl)(hb:st.hp b= .ent (.abs (iE tO tI size enc js c)):=by rfl)
  (hv:v.cells=(enc a).map Atom.c:=by rfl) (h1:v.cells.all Atom.eO=true:=by rfl) (hj:c[j]? =some r:=by assumption) (hi:i < r.length:=by omega):Go1 P C ops none (.store t x y) ty rest st acc K:=
 Go1.aaf hs hx hy hb (by rw[hv,zq5];exact he.h a) h1 (afr hv) hj (zvf ..) (by have:=zx1 size (show i+1<=r.length from hi);rw[zv8]at this;exact this) (rD r i a hi) next
theorem G.akq{i:Nat}{enc:α->List CA}{l:List α}{a:α}{e:TypeId}{b n:Nat}{c1 c2 c3 c4:CA}[ht:gH P t 4][he:eY enc 4](next:Reg P C ops rest (st.app dst ⟨.agg [.c c1,.c c2,.c c3,.c c4],[]⟩) (([b],[])::acc) K)(hd:aC dst C.nt=true:=by rfl)(hx:st.ev x=some (.it (.one (.rptr b (i*4)))):=by rfl)(hb:st.hp b= .ent (.row e 4 n (l.flatMap enc)):=by rfl)(ha:l[i]? =some a:=by assumption)(h4:enc a=[c1,c2,c3,c4]:=by rfl):Go1 P C ops dst (.load t x) ty rest st acc K:=
 Go1.amY (l:=[c1,c2,c3,c4]) hd hx hb ((wR (enc:=enc) (size:=4) ha).trans h4) rfl next
theorem G.ab1{i:Nat}{enc:α->List CA}{l:List α}{a:α}{v:AV0}{e:TypeId}{b n size:Nat}[he:eY enc size](next:Reg P C ops rest (st.app none ⟨.v undef,[(b,.ent (.row e size n ((l.set i a).flatMap enc)))]⟩) (([b],[b])::acc) K)(hs:(P.info? t).map (·.size)=some size:=by kernel_rfl)(hx:st.ev x=some (.it (.one (.rptr b (i*size)))):=by rfl)(hy:st.ev y=some (.it v):=by rfl)(hb:st.hp b= .ent (.row e size n (l.flatMap enc)):=by rfl)(hv:v.cells=(enc a).map Atom.c:=by rfl)(h1:v.cells.all Atom.eO=true:=by rfl)(hi:i < l.length:=by omega)(hn:n=l.length:=by first|rfl|omega):Go1 P C ops none (.store t x y) ty rest st acc K:=
 Go1.y9 hs hx hy hb (by rw[hv,zq5];exact he.h a) (by subst hn;have:=zx1 size (show i+1<=l.length from hi);rw[zv8]at this;exact this) h1 (afr hv) (rD l i a hi) next
theorem G.aaj{tO tI:TypeId}{b b2 bytes size:Nat}{z0:Value}{enc:α->List CA}{js:List Nat}{c:List (List α)}{l:List α}[ht:bT P t tO 1][he:fH P tO [z0] bytes](next:Reg P C ops rest (st.app (some d) ⟨.it (.one (uj d 0)),[(b,.gone),(b2,.gone),(d,.ent (.abs (iE tO tI size enc (js++[c.length]) (c++[l]))))]⟩) (([b,b2,d],[b,b2,d])::acc) K)(hd:aC (some d) C.nt=true:=by rfl)(hx:st.ev x=some (.it (.one (uj b 0))):=by rfl)(hy:st.ev y=some (.it (.one (uj b2 0))):=by rfl)
  (hb:st.hp b= .ent (.abs (iE tO tI size enc js c)):=by rfl) (hb2:st.hp b2= .ent (.abs (aho tI size enc l)):=by rfl) (hbb:b≠b2:=by decide) (hf:st.hp d= .free:=by rfl) (h63:js.length+1<=9223372036854775807:=by omega) (hbytes:(js.length+1)*bytes<=140737488355328:=by omega):Go1 P C ops (some d) (.call ⟨.builtin .append,#[x,y],#[t,t]⟩) ty rest st acc K:=
 Go1.aaj hd hx hy hb hb2 hbb hf h63 hbytes next
end
theorem aj.fnA{P:Program}{f:FuncId}{fn:Func}{c:Code}{args:List AV}{pre:List (Nat×Ent)}{out:Out}{nt:Nat}{rs:List ResultVar}(hf:P.funcs[f]? =some fn)(hres:fn.results=rs.toArray)(hnt:fn.ntmps=nt)(hb:fn.body=some c)(hn:(fn.name== "runtime.NumGoroutine")=false)(hna:Nat.ble args.length nt=true)
  (p1:nodupB (pre.map (·.1))=true) (p3:(args.all fun v=>v.ids.all (jv (pre.map (·.1))))=true) (p4:(pre.all fun p=>p.2.ids.all (jv (pre.map (·.1))))=true) (p5:((pre.map (·.1)).all (jv (out.hp.map (·.1))))=true)
  (p6:((out.res.ids++out.hp.flatMap fun p=>p.2.ids).all fun i=>jv (pre.map (·.1)) i||jv (out.hp.map (·.1)) i)=true)
  (h:∀(w0:World) (T B:Nat->Prop) (E0:Env),(pre=[]->∀k,¬B k)->WP P ⟨w0,T,B,nt,E0,fun b=>(lk pre b).isSome⟩ c ⟨fun t=>args[t]?,fun b=>match lk pre b with|some e=> .ent e|none=> .free⟩ (bD ⟨w0,T,B,nt,E0,fun b=>(lk pre b).isSome⟩ P rs out)):aj P f args pre out:=by
 have e1:(fun b=>(pre.lookup b).isSome)=fun b=>(lk pre b).isSome:=funext fun b=>by rw[gy]
 have e2:jy args pre=⟨fun t=>args[t]?,fun b=>match lk pre b with|some e=> .ent e|none=> .free⟩:=by
  unfold jy
  congr 1
  funext b
  rw[gy];cases lk pre b <;> rfl
 have key:∀i,jv (pre.map (·.1)) i=true->(pre.lookup i).isSome=true:=fun i hi=>by rw[gy];exact nH (fE.1 hi)
 refine aj.fn hf hres hnt hb hn hna (fun b e hb=>by rw[gy];exact ae0 p1 hb) (fun v hv i hi=>key i (zqh.1 (zqh.1 p3 v hv) i hi)) (fun b e hb i hi=>key i (zqh.1 (zqh.1 p4 (b,e) hb) i hi)) (fun b e hb=>?_) (fun i hi=>?_) fun w0 T B E0 hB=>?_
 ·have:=fE.1 (zqh.1 p5 b (zqg.2 ⟨(b,e),hb,rfl⟩));obtain⟨⟨b',s⟩,hs,rfl⟩:=zqg.1 this;exact⟨s,hs⟩
 ·have hi':i∈out.res.ids++out.hp.flatMap fun p=>p.2.ids:=by
   rw[zyg];rcases hi with hi|⟨b,e,hb,hi⟩
   ·exact .inl hi
   ·exact .inr (zx9.2 ⟨(b,.ent e),hb,hi⟩)
  have:=zqh.1 p6 i hi';rw[Bool.or_eq_true]at this;rcases this with h|h
  ·exact .inl (key i h)
  ·obtain⟨⟨b',s⟩,hs,rfl⟩:=zqg.1 (fE.1 h);exact .inr ⟨s,hs⟩
 ·rw[e1,e2];refine WP.bD (h w0 T B E0 fun hp k hk=>?_)
  subst hp;obtain⟨b,e,hb,_⟩:=hB k hk;cases hb
theorem aM.le{C:Ctx}{P:Program}{rs:List ResultVar}{out:Out}{st st':St}(h:St.le C st st')(k:aM C P rs out st'):aM C P rs out st:=by
 obtain⟨s,h1,h2⟩:=k;exact⟨s,fun a w hs=>h1 a w (h a w hs),h2⟩
end
section
def mkOne:Op->Bool
 | .makeFunc _ a c=>Nat.beq a.size 0&&Nat.beq c.size 0
 |_=>true
def noMk:List Oper->Bool
 |[]=>true
 |o::l=>match mkOne o.op with|true=>noMk l|false=>false
section
variable{P:Program}{C:Ctx}{st:St}{Q:Exit->St->Prop}
theorem WP.ajO{id:Nat}{l:List Oper}(hn:noMk l=true)(h:Reg P C l l st [] (fun _ st'=>Q .normal st')):WP P C (.region id l.toArray false) st Q:=WP.aG h
theorem WP.ag2{id:Nat}{l:List Oper}(hn:noMk l=true)(hm:P.follows .mixedOrders=true)(h:Reg P C l l st [] (fun feet st'=>check l.toArray feet=true/\Q .normal st')):WP P C (.region id l.toArray true) st Q:=WP.ao1 hm h
end
section
variable{P:Program}{C:Ctx}{st:St}
variable{ops rest:List Oper}{acc:List (List Nat×List Nat)}{K:List (List Nat×List Nat)->St->Prop}{dst:Option Tmp}{ty t e:TypeId}{x y:Operand}{k:IntKind}{n size:Nat}
end
end
section
section
variable{P:Program}{C:Ctx}{st:St}
variable{ops rest:List Oper}{acc:List (List Nat×List Nat)}{K:List (List Nat×List Nat)->St->Prop}{dst:Option Tmp}{d:Tmp}{op:Op}{ty t t' t'' e:TypeId}{x y:Operand}{k:IntKind}{n size:Nat}
class vG(P:Program)(t:TypeId)(e:outParam TypeId):Prop where
 h:P.underlying t=some (.pointer e)
 s:(P.info? e).map (fun j=>Nat.beq j.size 0)=some false
theorem G.atD[hp:vG P t e](next:Reg P C ops rest (st.app dst ⟨.v (.bool true),[]⟩) (([],[])::acc) K)(hd:aC dst C.nt=true:=by rfl)(hx:st.ev x=some (.v (.pointer none)):=by rfl)(hy:st.ev y=some (.v (.pointer none)):=by rfl):Go1 P C ops dst (.binOp .eql t x y t') ty rest st acc K:=
 Go1.oZ hd rfl hx hy (fun ρ o w ho h1 h2=>by
  unfold execOp;rw[ho];have h:∀d:Nat,(Op.equalIn (d+1) t (.pointer none) (.pointer none)).run P w= .ok true w:=fun d=>by
   simp[Op.equalIn,run_underlying hp.h]
  simp[h1,h2,eqGuard,binOp,Op.equal,Op.maxDepth,h 9999]) next
theorem G.asP{b off:Nat}[hp:vG P t e](next:Reg P C ops rest (st.app dst ⟨.v (.bool false),[]⟩) (([],[])::acc) K)(hd:aC dst C.nt=true:=by rfl)(hx:st.ev x=some (.ptr b off):=by rfl)(hy:st.ev y=some (.v (.pointer none)):=by rfl):Go1 P C ops dst (.binOp .eql t x y t') ty rest st acc K:=
 Go1.dM [] [] zp hd zp (fun o ho _ st' E S a w hev hs _=>by
  have hv':a.eval x= .pointer (some ⟨E.blk b,off,none⟩):=(hs.ev ((hev x (by simp[ho,Op.operands])).trans hx)).1
  have hyv:a.eval y= .pointer none:=(hs.ev ((hev y (by simp[ho,Op.operands])).trans hy)).1
  refine⟨fun j hj=>(by cases hj),.bool false,?_,rfl⟩
  unfold execOp;rw[ho];have h:∀d:Nat,(Op.equalIn (d+1) t (.pointer (some ⟨E.blk b,off,none⟩)) (.pointer none)).run P w= .ok false w:=fun d=>by
   simp[Op.equalIn,run_underlying hp.h]
  simp[hv',hyv,eqGuard,binOp,Op.equal,Op.maxDepth,h 9999]) next
theorem G.asQ{b off:Nat}[hp:vG P t e](next:Reg P C ops rest (st.app dst ⟨.v (.bool false),[]⟩) (([],[])::acc) K)(hd:aC dst C.nt=true:=by rfl)(hx:st.ev x=some (.ptr b off):=by rfl)(hy:st.ev y=some (.ptr b off):=by rfl):Go1 P C ops dst (.binOp .neq t x y t') ty rest st acc K:=
 Go1.dM [] [] zp hd zp (fun o ho _ st' E S a w hev hs _=>by
  have hv':a.eval x= .pointer (some ⟨E.blk b,off,none⟩):=(hs.ev ((hev x (by simp[ho,Op.operands])).trans hx)).1
  have hyv:a.eval y= .pointer (some ⟨E.blk b,off,none⟩):=(hs.ev ((hev y (by simp[ho,Op.operands])).trans hy)).1
  obtain⟨j,hj,_⟩:=zya.1 hp.s;refine⟨fun j hj=>(by cases hj),.bool false,?_,rfl⟩
  have h:=Lib.run_neq_ptr_same (P:=P) w ⟨E.blk b,off,none⟩ hp.h hj;unfold execOp;rw[ho];simp[hv',hyv,eqGuard,h]) next
class TUns(P:Program)(t:TypeId):Prop where
 h:P.underlying t=some .unsafePointer
theorem acv{w:World}{g:Nat}{cs:List Value}{T:TypeId}(h:w.heap[g]? =some (.cells cs.toArray T (0,0))):w.shape? g=some (T,cs.length):=by
 simp[World.shape?,h]
theorem G.aoB{b off:Nat}{T:TypeId}{cells:List Atom}[hp:vG P t e][hu:TUns P t'](next:Reg P C ops rest (st.app dst ⟨.ptr b off,[]⟩) (([b],[])::acc) K)(hd:aC dst C.nt=true:=by rfl)(hx:st.ev x=some (.ptr b off):=by rfl)
  (hb:st.hp b= .ent (.box T cells):=by rfl) (ho:Nat.blt off cells.length=true:=by rfl):Go1 P C ops dst (.convert t t' x) ty rest st acc K:=
 Go1.dM [(b,.box T cells)] [b] (fun c e' hc=>by simp at hc;simp[hc.1]) hd (fun c e' hc=>by simp at hc;rw[hc.1,hc.2];exact hb) (fun o ho' _ st' E S a w hev hs hrd=>by
  obtain⟨hv,hids⟩:=hs.ev ((hev x (by simp[ho',Op.operands])).trans hx)
  have hv':a.eval x= .pointer (some ⟨E.blk b,off,none⟩):=hv;obtain⟨j,hj,hjs⟩:=zya.1 hp.s;obtain⟨cs,hcs,hall⟩:=hs.hp b _ (hrd b _ zq9);have hlen:=hall.length;have hlt:off < cs.length:=by rw[<-hlen];simpa using ho
  have h:=Lib.run_to_unsafe (P:=P) w (dst:=t') ⟨E.blk b,off,none⟩ hp.h hu.h hj (fun h0=>by rw[h0]at hjs;cases hjs) (acv hcs) hlt
  refine⟨fun i hi=>hids i hi,_,?_,rfl⟩
  unfold execOp;rw[ho'];simp[hv',h]) next
theorem Go1.aut{b off m:Nat}{T:TypeId}{cells:List Atom}[hu:TUns P t][hp:vG P t' e](hd:aC dst C.nt=true)(hx:st.ev x=some (.ptr b off))(hb:st.hp b= .ent (.box T cells))(hl:cells.length=m)
  (hlies:liesAt P P.depth T (m / P.cellsOf T) off e 1=true) (next:Reg P C ops rest (st.app dst ⟨.ptr b off,[]⟩) (([b],[])::acc) K):Go1 P C ops dst (.convert t t' x) ty rest st acc K:=
 Go1.dM [(b,.box T cells)] [b] (fun c e' hc=>by simp at hc;simp[hc.1]) hd (fun c e' hc=>by simp at hc;rw[hc.1,hc.2];exact hb) (fun o ho' _ st' E S a w hev hs hrd=>by
  obtain⟨hv,hids⟩:=hs.ev ((hev x (by simp[ho',Op.operands])).trans hx)
  have hv':a.eval x= .pointer (some ⟨E.blk b,off,none⟩):=hv;obtain⟨j,hj,hjs⟩:=zya.1 hp.s;obtain⟨cs,hcs,hall⟩:=hs.hp b _ (hrd b _ zq9);have hlen:=hall.length;have h:=Lib.run_from_unsafe (P:=P) w (src:=t) ⟨E.blk b,off,none⟩ hu.h hp.h hj (acv hcs) (by rw[<-hlen,hl];exact hlies)
  refine⟨fun i hi=>hids i hi,_,?_,rfl⟩
  unfold execOp;rw[ho'];simp[hv',h]) next
theorem Go1.ao9{f:FuncId}{b off:Nat}{as:Array Operand}{tys:Array TypeId}(ha:evs st as.toList=some [.ptr b off])(hc:∀v w,(callFunc f #[v]).run P w= .ok (.value v) w)(hd:aC dst C.nt=true)
  (next:Reg P C ops rest (st.app dst ⟨.ptr b off,[]⟩) (([],[])::acc) K):Go1 P C ops dst (.call ⟨.value (.func f),as,tys⟩) ty rest st acc K:=
 Go1.dM [] [] zp hd zp (fun o ho _ st' E S a w hev hs _=>by
  have hop:o.op.operands= #[.func f]++as:=by rw[ho];rfl
  have ha':evs st' as.toList=some [.ptr b off]:=by rw[iO (fun x hx=>hev x (by rw[hop];simp at hx;simp[hx]))];exact ha
  obtain⟨hall,hids⟩:=lM hs ha'
  match hm:as.toList.map a.eval,hall with
  |[v],hh=>
   have hv:v= .pointer (some ⟨E.blk b,off,none⟩):=hh.1;have har:as.map a.eval= #[v]:=by apply Array.ext';simpa using hm
   refine⟨fun i hi=>hids _ zq9 i hi,v,?_,hv⟩
   unfold execOp;rw[ho];have he:a.eval (.func f)= .func (.func f) #[] #[]:=rfl;have:=hc v w;simp[resolve,he,Deferred.ofValue,invoke,har,this]) next
theorem afo{S:Nat->Prop}{w:World}:∀l:List UInt8,aK (CA.has S w) (l.flatMap lF) (Lib.strCells ⟨⟨l⟩⟩)
 |[]=>trivial
 |b::l=>⟨rfl,afo l⟩
theorem aeO{S:Nat->Prop}{w:World}:∀{l:List UInt8} {vs:List Value},aK (CA.has S w) (l.flatMap lF) vs->vs=l.map fun b=>Value.int .u8 b.toNat
 |[],[],_=>rfl
 |b::l,v::vs,h=>by
  have h1:v= .int .u8 b.toNat:=h.1;rw[h1,aeO (l:=l) h.2];rfl
 |[],_::_,h=>h.elim
 |_::_,[],h=>h.elim
class aoj(P:Program)(e:TypeId):Prop where
 h:(P.info? e).map (fun i=>(i.zero,i.size,i.bytes))=some (some (.int .u8 0),1,1)
theorem zI(w:World)(t u ty e:TypeId)(ht:P.underlying t=some (.slice e))(hu:P.underlying u=some .string)(he:aoj P e)(v:Value)(n:Nat)(xs:List Value)(hown:w.ownsRow 0 e 1 v n xs)(s:ByteArray)(hbytes:n+s.size<=140737488355328):
  ∃v' w',(Builtin.append_ #[t,u] ty #[v,.string s]).run P w= .ok v' w'/\w'.ownsRow 0 e 1 v' (n+s.size) (xs++Lib.strCells s)/\w.grownBy w' v.ownBlock/\∀k,v'.ownBlock=some k->v.ownBlock=some k\/w.heap.size<=k:=by
 obtain⟨i,hi,hn⟩:=zya.1 he.h;simp only[Prod.mk.injEq]at hn;obtain⟨hz,hsize,hby⟩:=hn;have hbase:0<=w.heap.size:=zq8 _;obtain⟨v',w',hr,h1,h2,h3⟩:=Lib.run_append_own_string (P:=P) w 0 t u ty e i ht hu hi hz hsize hby v n xs hown s (by unfold maxLen;omega) hbytes hbase
 refine⟨v',w',hr,h1,h2,fun k hk=>?_⟩
 have hxl:xs.length=n:=by simpa using hown.1
 rcases hown.2 with⟨rfl,rfl⟩|⟨g,cap,cur,rfl,hbg,hg,hnc,hcm,hcs,htake⟩
 ·by_cases hm:s.size=0
  ·have hf:=Lib.run_firstCells_string (P:=P) w 1 s;rw[hm]at hf;have hr':(Builtin.append_ #[t,u] ty #[.slice none 0 0,.string s]).run P w= .ok (.slice none 0 0) w:=by
    simp[Builtin.append_,run_underlying ht,run_underlying hu,Go.sizeOf,typeInfo,hi,hsize,Builtin.lenOf,hm,hf]
   rw[hr']at hr;cases hr;cases hk
  ·have hr':=run_append_nil_string (P:=P) w t u ty e i (.int .u8 0) ht hu hi hz s zE zE (by rw[hby];omega)
   rw[hr']at hr;cases hr;simp[Value.ownBlock]at hk;right;omega
 ·by_cases hroom:n+s.size<=cap
  ·have hcs':cur.size=cap:=by simpa using hcs
   have hr':=Lib.run_append_room_string (P:=P) w t u ty e i ht hu hi hsize g n cap cur hg s hroom zE
   rw[hr']at hr;cases hr;exact .inl hk
  ·have holds:∀j u,xs[j]? =some u->w.cell? ((⟨g,0,none⟩:Addr).add j)=some u:=hown.cells (g:=g) rfl;have hr':=Lib.run_append_grow_string (P:=P) w t u ty e i (.int .u8 0) ht hu hi hz ⟨g,0,none⟩ n cap xs (by rw[hsize];simpa using hxl) holds s zE (by unfold maxLen at hcm;omega) (by rw[hby];exact growslice_fits zE zE)
   rw[hr']at hr;cases hr;simp[Value.ownBlock]at hk;right;omega
theorem G.ajI{b n:Nat}{cells:List CA}{l:List UInt8}[ht:bT P t e 1][hu:aaL P t'][he:aoj P e](next:Reg P C ops rest (st.app (some d) ⟨.own d,[(b,.gone),(d,.ent (.row e 1 (n+l.length) (cells++l.flatMap lF)))]⟩) (([b,d],[b,d])::acc) K)(hd:aC (some d) C.nt=true:=by rfl)(hx:st.ev x=some (.own b):=by rfl)(hy:st.ev y=some (.v (str l)):=by rfl)
  (hb:st.hp b= .ent (.row e 1 n cells):=by rfl) (hf:st.hp d= .free:=by rfl) (hbytes:n+l.length<=140737488355328:=by omega):Go1 P C ops (some d) (.call ⟨.builtin .append,#[x,y],#[t,t']⟩) ty rest st acc K:=by
 have hbd:d≠b:=by rintro rfl;rw[hf]at hb;cases hb
 refine⟨[b,d],_,fun o h2 h3 h4=>aT.eff [] [(b,.row e 1 n cells)] (fun c hc=>?_) (h2▸dR hd) (fun c e hc=>by cases hc) (fun c e hc=>?_) (fun c s hc=>?_) (fun c s hc=>?_) (fun st' E S a w hev hhp hs _ hpre=>?_),next⟩
 ·rcases hc with⟨e,hc⟩|⟨e,hc⟩|⟨s,hc⟩
  ·cases hc
  ·simp at hc;simp[hc.1]
  ·simp at hc;rcases hc with hc|hc <;> simp[hc.1]
 ·simp at hc;obtain⟨rfl,rfl⟩:=hc;exact⟨hb,_,zq9⟩
 ·simp at hc;rcases hc with⟨rfl,rfl⟩|⟨rfl,rfl⟩
  ·exact .inl ⟨_,zq9⟩
  ·exact .inr hf
 ·simp at hc;rcases hc with⟨rfl,rfl⟩|⟨rfl,rfl⟩ <;> rfl
 ·obtain⟨⟨hxv,_⟩,_⟩:=hs.ev ((hev x (by simp[h3,Op.operands,Call.operands])).trans hx)
  have hyv:a.eval y=str l:=(hs.ev ((hev y (by simp[h3,Op.operands,Call.operands])).trans hy)).1
  have hbe:=hpre b _ zq9;obtain⟨vs,hown,hvs⟩:=hs.hp b _ hbe;have hsz:(⟨⟨l⟩⟩:ByteArray).size=l.length:=rfl;obtain⟨v',w',h5,h6,h7,h8⟩:=zI (P:=P) w t t' o.type e ht.h hu.h he (E.sl b) n vs hown ⟨⟨l⟩⟩ (by rw[hsz];exact hbytes)
  rw[hsz]at h6;refine⟨⟨fun i hi=>?_,fun c e hc i hi=>?_⟩,fun K Q hK=>?_⟩
  ·simp[AV.ids,AV0.ids,Atom.ids]at hi;subst hi;simp[fZ,Slot.used]
  ·simp at hc
   obtain⟨rfl,rfl⟩:=hc;cases hi
  ·have hE:=Eff.row (E:=E) (S:=S) (b:=d) (pre:=[(b,.row e 1 n cells)]) (gones:=[(b,.gone)]) hs.lt
    (fun c e' k hc hk=>by simp at hc;obtain⟨rfl,rfl⟩:=hc;exact(hs.blk _ _ k hbe hk).1)
    (fun e' hc=>by simp at hc;exact hbd hc.1)
    (fun c s hc=>by simp at hc;obtain⟨rfl,rfl⟩:=hc;exact⟨rfl,_,zq9⟩)
    (mX h7 (fun k hk=>⟨b,_,zq9,hk⟩)) h6 (aeF hvs (afo l))
    (fun k hk=>(h8 k hk).imp (fun h=>⟨b,_,zq9,h⟩) id)
   unfold Oper.wp;have hrun:(execOp a.eval o).run P w= .ok (.value v') w':=by
    unfold execOp;rw[h3];simp[resolve,invoke,builtin,hxv,hyv,h5]
   rw[hrun];exact hK _ _ _ _ hE
theorem G.ab7{b n:Nat}{cells:List CA}(next:Reg P C ops rest (st.app dst ⟨.it (.one (.rptr b 0)),[]⟩) (([b],[])::acc) K)(hd:aC dst C.nt=true:=by rfl)(hx:st.ev x=some (.own b):=by rfl)(hb:st.hp b= .ent (.row e size n cells):=by rfl)(h0:0 < n:=by omega):Go1 P C ops dst (.call ⟨.builtin .unsafeSliceData,#[x],#[t]⟩) ty rest st acc K:=
 Go1.dM [(b,.row e size n cells)] [b] (fun c e' hc=>by simp at hc;simp[hc.1]) hd (fun c e' hc=>by simp at hc;rw[hc.1,hc.2];exact hb) (fun o ho _ st' E S a w hev hs hrd=>by
  obtain⟨⟨hv,_⟩,hids⟩:=hs.ev ((hev x (by simp[ho,Op.operands,Call.operands])).trans hx)
  obtain⟨vs,hown,hvs⟩:=hs.hp b _ (hrd b _ zq9);rcases hown.2 with⟨_,hz⟩|⟨g,cap,cur,hsl,_,hg,hnc,_⟩
  ·omega
  ·have h:=Lib.run_unsafeSliceData_row (P:=P) w #[t] o.type ⟨g,0,none⟩ n cap zE
   refine⟨fun j hj=>hids j hj,.pointer (some ⟨g,0,none⟩),?_,⟨g,n,cap,hsl,rfl⟩⟩
   unfold execOp;rw[ho];simp[resolve,invoke,builtin,hv,hsl,h]) next
class amP(P:Program)(e:TypeId):Prop where
 c:P.cellsOf e=1
theorem G.aa8{b n:Nat}{l:List UInt8}[hp:vG P t e][hc:amP P e](next:Reg P C ops rest (st.app dst ⟨.v (str l),[(b,.gone)]⟩) (([b],[b])::acc) K)(hd:aC dst C.nt=true:=by rfl)(hx:st.ev x=some (.it (.one (.rptr b 0))):=by rfl)(hy:st.ev y=some (.v (.int .i64 (n:Int))):=by rfl)
  (hb:st.hp b= .ent (.row e 1 n (l.flatMap lF)):=by rfl) (h0:0 < n:=by omega):Go1 P C ops dst (.call ⟨.builtin .unsafeString,#[x,y],#[t,t']⟩) ty rest st acc K:=by
 refine⟨[b],_,fun o h2 h3 h4=>aT.eff [] [(b,.row e 1 n (l.flatMap lF))] (fun c hc=>?_) (h2▸dR hd) (fun c e hc=>by cases hc) (fun c e hc=>?_) (fun c s hc=>?_) (fun c s hc=>?_) (fun st' E S a w hev hhp hs _ hpre=>?_),next⟩
 ·rcases hc with⟨e,hc⟩|⟨e,hc⟩|⟨s,hc⟩
  ·cases hc
  ·simp at hc;simp[hc.1]
  ·simp at hc;simp[hc.1]
 ·simp at hc;obtain⟨rfl,rfl⟩:=hc;exact⟨hb,_,zq9⟩
 ·simp at hc;obtain⟨rfl,rfl⟩:=hc;exact .inl ⟨_,zq9⟩
 ·simp at hc;obtain⟨rfl,rfl⟩:=hc;rfl
 ·have hx0:∃g n cap,E.sl b= .slice (some ⟨g,0,none⟩) n cap/\a.eval x= .pointer (some ⟨g,0,none⟩):=(hs.ev ((hev x (by simp[h3,Op.operands,Call.operands])).trans hx)).1
  obtain⟨g',n',cap',hsl',hxv⟩:=hx0;have hyv:a.eval y= .int .i64 (n:Int):=(hs.ev ((hev y (by simp[h3,Op.operands,Call.operands])).trans hy)).1
  have hbe:=hpre b _ zq9;obtain⟨vs,hown,hvs⟩:=hs.hp b _ hbe;have hv:=aeO hvs;subst hv;have hl:l.length=n:=by have:=hown.1;simpa using this
  rcases hown.2 with⟨_,hz⟩|⟨g,cap,cur,hsl,_,hg,hnc,hcm,hcs,htk⟩
  ·omega
  ·have hgg:g'=g:=by rw[hsl]at hsl';injection hsl' with q1 q2 q3;injection q1 with q1;injection q1 with q1;exact q1.symm
   subst hgg;have hne:l≠[]:=by rintro rfl;simp at hl;omega
   have hcell:∀j x,l[j]? =some x->w.cell? ((⟨g',0,none⟩:Addr).add j)=some (.int .u8 x.toNat):=fun j u hu=>by
    have hown':=hown;rw[hsl]at hown';exact hown'.cells (g:=g') rfl j _ (by simp[hu])
   have h:=Lib.run_unsafeString_row (P:=P) w t t' o.type e hp.h hc.c g' cur.size (by simp[World.shape?,hg]) l hne (by rw[hl];simp at hcs;omega) (by unfold maxLen at hcm;omega) hcell
   rw[hl]at h;refine⟨⟨fun i hi=>(by cases hi),fun c e' hc i hi=>(by simp at hc)⟩,fun K Q hK=>?_⟩
   unfold Oper.wp;have hrun:(execOp a.eval o).run P w= .ok (.value (str l)) (w.freeze ⟨g',0,none⟩ n):=by
    unfold execOp;rw[h3];simp[resolve,invoke,builtin,hxv,hyv,h]
   rw[hrun];have hat:∀k,(Ent.row e 1 n (l.flatMap lF)).at E b k↔k=g':=fun k=>by
    show (E.sl b).ownBlock=some k↔_;rw[hsl];simp[Value.ownBlock];exact eq_comm
   have ho:Off (fun k=>∃c e',(c,e')∈[(b,Ent.row e 1 n (l.flatMap lF))]/\e'.at E c k) w (w.freeze ⟨g',0,none⟩ n):=by
    have hn0:n≠0:=zE
    unfold World.freeze;rw[if_neg hn0];refine⟨rfl,rfl,rfl,by simp,fun k hk hn=>?_⟩
    have hkg:k≠g':=fun e=>hn ⟨b,_,zq9,(hat k).2 e⟩
    simp only[];rw[Array.getElem?_modify,if_neg (fun e=>hkg e.symm)]
   refine hK (str l) _ E S {env:=fun _ _=>⟨rfl,rfl⟩,fpe:=fun _ _=>rfl,sub:=fun _ h=>h,new:=fun _ h=> .inl h,lt:=fun k hk=>zqf (hs.lt k hk) ho.size,off:=ho,res:=rfl,ents:=fun i e hi=>?_,blk:=fun i e k hi hk=>?_,sep:=fun i i' e e' k hne hi=>?_}
   ·simp at hi
   ·simp at hi
   ·simp at hi
end
structure HeldG(q:Prop):Prop where
 out:q
end
