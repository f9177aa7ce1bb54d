import Derived.Test.YthnkfhfcgjoieaaGreatDoorO5
import Derived.Test.YthnkfhfcgjoieaaGreatDoorO6
set_option linter.unusedVariables false
set_option linter.unusedSimpArgs false
namespace SX
open Go Go.RowKit
section
section
variable{P:Program}{C:Ctx}{st:St}
variable{ops rest:List Oper}{acc:List (List Nat×List Nat)}{K:List (List Nat×List Nat)->St->Prop}{dst:Option Tmp}{d:Tmp}{op:Op}{ty t t' e:TypeId}{x y:Operand}
def ifpR(t:TypeId)(blk:Nat)(_ v:Value):Prop:=v= .iface t (.pointer (some ⟨blk,0,none⟩))
def kE(t:TypeId)(m:List CA):Rep where
 has S w v:=∃us:List Value,v= .iface t (.agg us.toArray)/\aK (CA.has S w) m us
 one:=by rintro S w v ⟨us,rfl,_⟩;rfl
 step:=by rintro S S' w w' v ⟨us,rfl,h⟩ ho hs;exact⟨us,rfl,h.mono fun _ _ _ h=>h.step ho hs⟩
class afY(P:Program)(t:TypeId):Prop where
 h:(match P.underlying t with|some (.struct _)=>true|_=>false)=true
theorem afY.out(h:afY P t):∃fs,P.underlying t=some (.struct fs):=by
 have h:=h.h
 split at h
 ·rename_i fs e;exact⟨fs,e⟩
 ·cases h
theorem anR:∀m:List CA,(m.map Atom.c).flatMap Atom.ids=[]
 |[]=>rfl
 |c::m=>by rw[zy6,zq7,anR m];rfl
theorem aj1{E:Env}{S:Nat->Prop}{w:World}:∀{m:List CA} {us:List Value},aK (CA.has S w) m us->aK (Atom.has E S w) (m.map Atom.c) us
 |[],[],_=>trivial
 |_::_,_::_,h=>⟨h.1,aj1 h.2⟩
 |[],_::_,h=>h.elim
 |_::_,[],h=>h.elim
theorem G.akh{b:Nat}[hp:vG P t e](next:Reg P C ops rest (st.app dst ⟨.it (.one (.rel b (ifpR t))),[]⟩) (([],[])::acc) K)(hd:aC dst C.nt=true:=by rfl)(hx:st.ev x=some (.ptr b 0):=by rfl):Go1 P C ops dst (.makeInterface t x) ty rest st acc K:=
 Go1.dM [] [] zp hd zp (fun o ho _ st' E S a w hev hs _=>by
  obtain⟨hv,hids⟩:=hs.ev ((hev x (by simp[ho,Op.operands])).trans hx)
  have hv':a.eval x= .pointer (some ⟨E.blk b,0,none⟩):=hv;refine⟨fun i hi=>hids i hi,.iface t (.pointer (some ⟨E.blk b,0,none⟩)),?_,rfl,rfl⟩
  unfold execOp;rw[ho];simp[hv',Instr.makeInterface,run_underlying hp.h]) next
theorem G.atc{l:List Atom}{m:List CA}[hp:afY P t](next:Reg P C ops rest (st.app dst ⟨.r (kE t m),[]⟩) (([],[])::acc) K)(hd:aC dst C.nt=true:=by rfl)(hx:st.ev x=some (.agg l):=by rfl)(hm:aY l=some m:=by rfl):Go1 P C ops dst (.makeInterface t x) ty rest st acc K:=
 Go1.dM [] [] zp hd zp (fun o ho _ st' E S a w hev hs _=>by
  obtain⟨⟨us,hv,hall⟩,hids⟩:=hs.ev ((hev x (by simp[ho,Op.operands])).trans hx)
  obtain⟨fs,hfs⟩:=hp.out;refine⟨fun i hi=>(by cases hi),.iface t (.agg us.toArray),?_,us,rfl,?_⟩
  ·unfold execOp;rw[ho];simp[hv,Instr.makeInterface,run_underlying hfs]
  ·rw[eu hm]at hall;exact iH hall) next
theorem G.aeg{m:List CA}[hp:afY P t](next:Reg P C ops rest (st.app dst ⟨.tup [.agg (m.map .c),.one (.c (.val (.bool true)))],[]⟩) (([],[])::acc) K)(hd:aC dst C.nt=true:=by rfl)(hx:st.ev x=some (.r (kE t m)):=by rfl):Go1 P C ops dst (.typeAssert x t' t true) ty rest st acc K:=
 Go1.dM [] [] zp hd zp (fun o ho _ st' E S a w hev hs _=>by
  obtain⟨⟨us,hv,hall⟩,hids⟩:=hs.ev ((hev x (by simp[ho,Op.operands])).trans hx)
  obtain⟨fs,hfs⟩:=hp.out;have hi0:(AV.tup [AV0.agg (m.map Atom.c),AV0.one (.c (.val (.bool true)))]).ids=[]:=by
   show (m.map Atom.c).flatMap Atom.ids++([]++[])=[];rw[anR];rfl
  refine⟨fun i hi=>(by rw[hi0]at hi;cases hi),.tuple #[.agg us.toArray,.bool true],?_,[.agg us.toArray,.bool true],rfl,⟨us,rfl,aj1 hall⟩,rfl,trivial⟩
  unfold execOp;rw[ho];simp[hv,Instr.typeAssert,run_underlying hfs]) next
class vH(P:Program)(t:TypeId)(name:String)(f:outParam FuncId)(p:outParam Bool):Prop where
 h:((P.info? t).bind fun i=>(i.methods.find? (·.name==name)).map fun m=>(m.path,m.func))=some (#[],some (f,p))
theorem alE{name:String}{f:FuncId}(hm:vH P t name f true)(hp:vG P t e)(v:Value)(w:World)(n:Nat):(method (n+1) t v name).run P w= .ok (f,v) w:=by
 obtain⟨i,hi,h2⟩:=Option.bind_eq_some_iff.1 hm.h;obtain⟨m,hm2,h3⟩:=zya.1 h2;simp only[Prod.mk.injEq]at h3;unfold method;simp[typeInfo,hi,hm2,h3.1,h3.2,follow,receiverAt,run_underlying hp.h,Place.get]
theorem alj{name:String}{f:FuncId}(hm:vH P t name f false)(hp:vG P t e)(he:iK P e){b:Nat}{u:Value}{T:TypeId}(w:World)(n:Nat)(hg:w.heap[b]? =some (.cells #[u] T (0,0))):(method (n+1) t (.pointer (some ⟨b,0,none⟩)) name).run P w= .ok (f,u) w:=by
 obtain⟨i,hi,h2⟩:=Option.bind_eq_some_iff.1 hm.h;obtain⟨m,hm2,h3⟩:=zya.1 h2;simp only[Prod.mk.injEq]at h3;have hl:=pJ (P:=P) (t:=e) (off:=0) (cs:=[u]) he w hg rfl;have hw:∀(tys:Array TypeId) (ty:TypeId) (a:Addr) (s m:ByteArray),(Builtin.ssaWrapNilChk_ tys ty #[.pointer (some a),.string s,.string m]).run P w= .ok (.pointer (some a)) w:=fun _ _ _ _ _=>rfl
 unfold method;simp[typeInfo,hi,hm2,h3.1,h3.2,follow,receiverAt,run_underlying hp.h,Place.get,strVal,hw,asAddr,hl]
end
theorem aj.bor{P:Program}{f:FuncId}{c:Nat}{T:TypeId}{size n:Nat}{cells:List CA}{args:List AV}{r:Value}(h:ah P f (.r (aQ size n cells)::args) (.v r))(hargs:args.all (fun v=>v.ids.isEmpty)=true)
  (hrow:∀(S:Nat->Prop) (w:World) (v:Value) (vs:List Value),w.ownsRow 0 T size v n vs->aK (CA.has S w) cells vs->(aQ size n cells).has (fun k=>S k/\v.ownBlock≠some k) w v):
  aj P f (.own c::args) [(c,.row T size n cells)] ⟨.v r,[(c,.ent (.row T size n cells))]⟩:=by
 refine⟨h.1,fun E S w vs hlt hgl hv hpre hS hsep=>?_⟩
 have hrow':(Ent.row T size n cells).has E S w c:=hpre c _ zq9;obtain⟨xs,ho,hx⟩:=hrow'
 match vs,hv with
 |u::vs,⟨hu,hvs⟩=>
  have hu1:u=E.sl c:=hu.1;have hargs':aK (AV.has E (fun k=>S k/\(E.sl c).ownBlock≠some k) w) (.r (aQ size n cells)::args) (u::vs):=by
   refine⟨?_,?_⟩
   ·rw[hu1];exact hrow S w _ xs ho hx
   ·exact hvs.mono fun a b _ hab=>AV.has.step (E':=E) hab (fun _ _=>⟨rfl,rfl⟩) (Off.refl _ w) (fun k hk=> .inl hk.1)
  have hcalls:=h.2 E (fun k=>S k/\(E.sl c).ownBlock≠some k) w (u::vs) (fun k hk=>hlt k hk.1) (hgl.sub fun k hk=>hk.1) hargs' (fun b e hb=>by cases hb) (fun b e k hb=>by cases hb) (fun b b' e e' k _ hb=>by cases hb)
  refine hcalls.mono ?_;rintro e w' ⟨v,E',S',rfl,hE⟩;have hvr:v=r:=hE.res;subst hvr;have hoff:Off none' w w':=hE.off.mono fun k ⟨b,e,hb,_⟩=>by cases hb
  have hrw:(Ent.row T size n cells).has E S w' c:=Ent.has.step (e:= .row T size n cells) (E':=E) ⟨xs,ho,hx⟩ (fun _ hi=>by cases hi) ⟨rfl,rfl⟩ (hoff.mono fun k hk=>hk.elim) (fun k hk=> .inl hk) (fun k hk=>hoff.block k (hlt k (hS c _ k zq9 hk)) (fun h=>h)) rfl
  refine⟨_,E,S,rfl,{env:=fun _ _=>⟨rfl,rfl⟩,fpe:=fun _ _=>rfl,sub:=fun _ h=>h,new:=fun _ h=> .inl h,lt:=fun k hk=>zqf (hlt k hk) hoff.size,off:=hoff.mono fun k hk=>hk.elim,res:=rfl,ents:=fun b e hb=>?_,blk:=fun b e k hb hk=>?_,sep:=fun b b' e e' k hne hb hb'=>?_}⟩
  ·simp at hb;obtain⟨rfl,rfl⟩:=hb;exact hrw
  ·simp at hb;obtain⟨rfl,rfl⟩:=hb
   exact⟨hS _ _ k zq9 hk,.inl ⟨_,_,zq9,hk⟩⟩
  ·simp at hb hb';obtain⟨rfl,_⟩:=hb;obtain⟨rfl,_⟩:=hb';exact absurd rfl hne
end
section
def Does(X:List Value->World->(Ending->World->Prop)->Prop)(args:List AV)(pre:List (Nat×Ent))(out:Out):Prop:=
 ∀(E:Env) (S:Nat->Prop) (w:World) (vs:List Value),(∀k,S k->k < w.heap.size)->ou S w->aK (AV.has E S w) args vs->
  (∀b e,(b,e)∈pre->e.has E S w b)->(∀b e k,(b,e)∈pre->e.at E b k->S k)->(∀b b' e e' k,b≠b'->(b,e)∈pre->(b',e')∈pre->e.at E b k->¬e'.at E b' k)->
  X vs w fun e w'=>∃v E' S',e= .returned v/\Eff E S w pre out v w' E' S'
theorem Does.bun{X:List Value->World->(Ending->World->Prop)->Prop}(hX0:∀vs w Q Q',X vs w Q->(∀e w',Q e w'->Q' e w')->X vs w Q'){args:List AV}{r:AV}{b:Nat}{t:TypeId}{cells cells':List Atom}{R R':List (Nat×Ent)}(h:Does X args ((b,.box t cells)::R) ⟨r,(b,.ent (.box t cells'))::R'.map fun q=>(q.1,.ent q.2)⟩)
  (hargs:∀v∈args,∀i∈v.ids,i=b) (hr:r.ids=[]) (hbn:∀e,(b,e)∉R'):
  Does X args [(b,.abs (jL b (fun _:Unit=>True) t (fun _=>cells) (fun _=>R)))] ⟨r,[(b,.ent (.abs (jL b (fun _:Unit=>True) t (fun _=>cells') (fun _=>R'))))]⟩:=by
 intro E S w vs hl hgl hall hpre hblk hsep;obtain⟨p,Ep,⟨hs1,hs2⟩,hB⟩:∃(p:Unit) (Ep:Env),(Ep.blk b=E.blk b/\Ep.sl b=E.sl b)/\y8 (fun _:Unit=>True) t (fun _=>cells) (fun _=>R) (E.blk b) (E.fp b) S w p Ep:=hpre b _ (zxi.2 rfl)
 have hX:∀k,E.fp b k->S k:=fun k hk=>hblk b _ k (zxi.2 rfl) hk
 have hmem:∀i e,(i,e)∈(b,Ent.box t cells)::R->(i=b/\e= .box t cells)\/(i,e)∈R:=fun i e hi=>by
  rcases zy3.1 hi with hi|hi
  ·cases hi;exact .inl ⟨rfl,rfl⟩
  ·exact .inr hi
 have hfp:∀i e k,(i,e)∈(b,Ent.box t cells)::R->e.at Ep i k->E.fp b k:=fun i e k hi hk=>by
  rcases hmem i e hi with⟨rfl,rfl⟩|hi
  ·have hk':some (Ep.blk i)=some k:=hk;rw[hs1]at hk';exact(hB.X k).2 (.inl (zy7 hk').symm)
  ·exact(hB.X k).2 (.inr ⟨i,e,hi,hk⟩)
 have hv:aK (AV.has Ep S w) args vs:=hall.mono fun a v ha hav=>hav.step (fun i hi=>by rw[hargs a ha i hi];exact⟨hs1,hs2⟩) (Off.refl S w) (fun k hk=> .inl hk)
 refine hX0 _ _ _ _ (h Ep S w vs hl hgl hv (fun i e hi=>?_) (fun i e k hi hk=>hX k (hfp i e k hi hk)) (fun i i' e e' k hne hi hi' hk hk'=>?_)) fun e w' ⟨v,E2,S2,he,hE⟩=>?_
 ·rcases hmem i e hi with⟨rfl,rfl⟩|hi
  ·obtain⟨cs,g1,g2⟩:=hB.box;exact⟨cs,by rw[hs1];exact g1,g2⟩
  ·exact hB.ents i e hi
 ·rcases hmem i e hi with⟨e1,rfl⟩|hm
  ·rcases hmem i' e' hi' with⟨e2,rfl⟩|hm'
   ·exact hne (e1.trans e2.symm)
   ·have hk1:some (Ep.blk i)=some k:=hk;rw[e1,hs1]at hk1;exact hB.sepb i' e' hm' ((zy7 hk1)▸hk')
  ·rcases hmem i' e' hi' with⟨e2,rfl⟩|hm'
   ·have hk1:some (Ep.blk i')=some k:=hk';rw[e2,hs1]at hk1;exact hB.sepb i e hm ((zy7 hk1)▸hk)
   ·exact hB.sep i i' e e' k hne hm hm' hk hk'
 ·have hb2:Ep.at' E2 b:=hE.env b fun _=>⟨_,zq9⟩
  have hq:∀i e,(i,e)∈R'->(i,Slot.ent e)∈(b,Slot.ent (.box t cells'))::R'.map fun q=>(q.1,Slot.ent q.2):=fun i e hi=>zy2 _ (zqg.2 ⟨(i,e),hi,rfl⟩)
  have hbb:some (E2.blk b)=some (E.blk b):=by rw[hb2.1,hs1]
  have hfp2:∀k,(∃i e,(i,e)∈(b,Ent.box t cells)::R/\e.at Ep i k)->∃i e,(i,e)∈[(b,Ent.abs (jL b (fun _:Unit=>True) t (fun _=>cells) (fun _=>R)))]/\e.at E i k:=fun k ⟨i,e,hi,hk⟩=>⟨b,_,zxi.2 rfl,hfp i e k hi hk⟩
  have hX':∀k,(k=E.blk b\/∃i e,(i,e)∈R'/\e.at E2 i k)->S2 k/\((∃i e,(i,e)∈[(b,Ent.abs (jL b (fun _:Unit=>True) t (fun _=>cells) (fun _=>R)))]/\e.at E i k)\/w.heap.size<=k):=fun k hk=>by
   rcases hk with rfl|⟨i,e,hi,hk⟩
   ·have:=hE.blk b _ (E.blk b) zq9 hbb;exact⟨this.1,this.2.imp (hfp2 _) id⟩
   ·have:=hE.blk i e k (hq i e hi) hk;exact⟨this.1,this.2.imp (hfp2 _) id⟩
  have hone:∀i e',(i,Slot.ent e')∈[(b,Slot.ent (Ent.abs (jL b (fun _:Unit=>True) t (fun _=>cells') (fun _=>R'))))]->i=b/\e'= .abs (jL b (fun _:Unit=>True) t (fun _=>cells') (fun _=>R')):=fun i e' hi=>by simpa using hi
  refine⟨v,⟨E.blk,E.sl,upd E.fp b fun k=>k=E.blk b\/∃i e,(i,e)∈R'/\e.at E2 i k⟩,S2,he,
   {env:=fun i _=>⟨rfl,rfl⟩,fpe:=fun i hi=>upd_ne _ _ fun e=>hi (.ent (.abs (jL b (fun _:Unit=>True) t (fun _=>cells') (fun _=>R')))) (by simp[e]),sub:=hE.sub,new:=hE.new,lt:=hE.lt,off:=hE.off.mono hfp2,
    res:=hE.res.step (fun i hi=>by rw[hr]at hi;cases hi) (Off.refl _ _) (fun k hk=> .inl hk),ents:=fun i e' hi=>?_,blk:=fun i e' k hi hk=>?_,sep:=fun i i' e1 e2 k hne h1 h2=>?_}⟩
  ·obtain⟨rfl,rfl⟩:=hone i e' hi;show (jL i (fun _:Unit=>True) t (fun _=>cells') (fun _=>R')).has (E.blk i) (E.sl i) (upd E.fp i _ i) S2 w'
   rw[upd_same];obtain⟨cs,g1,g2⟩:=hE.ents i _ zq9;refine⟨(),E2,⟨hb2.1.trans hs1,hb2.2.trans hs2⟩,{φ:=trivial,box:=⟨cs,by rw[<-zy7 hbb];exact g1,g2⟩,ents:=fun j e hj=>hE.ents j e (hq j e hj),sep:=fun j j' e e' k hne hj hj'=>hE.sep j j' e e' k hne (hq j e hj) (hq j' e' hj'),sepb:=fun j e hj hk=>?_,X:=fun k=>Iff.rfl}⟩
   by_cases hji:j=i
   ·subst hji;exact hbn e hj
   ·exact hE.sep i j _ e (E.blk i) (fun e=>hji e.symm) zq9 (hq j e hj) hbb hk
  ·obtain⟨rfl,rfl⟩:=hone i e' hi;have hk':upd E.fp i _ i k:=hk;rw[upd_same]at hk';exact hX' k hk'
  ·obtain⟨rfl,_⟩:=hone _ _ h1;obtain⟨rfl,_⟩:=hone _ _ h2;exact absurd rfl hne
def ail(P:Program)(name:String)(vs:List Value)(w:World)(Q:Ending->World->Prop):Prop:=
 ∃v0 us f us',vs=v0::us/\(callMethod v0 name us.toArray).run P w= .ok (.enter f us') w/\Calls P f us' w Q
theorem ail.mono{P:Program}{name:String}:∀vs w Q Q',ail P name vs w Q->(∀e w',Q e w'->Q' e w')->ail P name vs w Q':=fun vs w Q Q' ⟨v0,us,f,us',h1,h2,h3⟩ hQ=>⟨v0,us,f,us',h1,h2,h3.mono fun e w' h=>hQ e w' h⟩
abbrev jd(P:Program)(name:String)(args:List AV)(pre:List (Nat×Ent))(out:Out):Prop:=Does (ail P name) args pre out
section
variable{P:Program}{C:Ctx}{st:St}
variable{ops rest:List Oper}{acc:List (List Nat×List Nat)}{K:List (List Nat×List Nat)->St->Prop}{dst:Option Tmp}{d:Tmp}{op:Op}{ty t t' e:TypeId}{x y:Operand}
theorem acF{name:String}{f:FuncId}{v u:Value}{us:Array Value}{w:World}(hm:∀n,(method (n+1) t v name).run P w= .ok (f,u) w)(he:∃fn,P.funcs[f]? =some fn/\(fn.name== "runtime.NumGoroutine")=false/\fn.body.isNone=false):
  (callMethod (.iface t v) name us).run P w= .ok (.enter f (#[u]++us)) w:=by
 obtain⟨fn,h1,h2,h3⟩:=he;have h2':fn.name≠ "runtime.NumGoroutine" :=by simpa using h2
 have h3':fn.body≠none:=by intro e;rw[e]at h3;cases h3
 have hm':=hm (P.types.size+99);rw[show P.types.size+99+1=P.types.size+Made.depth from rfl]at hm'
 simp[callMethod,run_program,hm',callFunc,h1,h2',h3']
theorem jd.ofP{name:String}{f:FuncId}{b:Nat}{args:List AV}{pre:List (Nat×Ent)}{out:Out}[hm:vH P t name f true][hp:vG P t e](h:aj P f (.ptr b 0::args) pre out):jd P name (.it (.one (.rel b (ifpR t)))::args) pre out:=by
 intro E S w vs hl hg hv h1 h2 h3
 match vs,hv with
 |v0::us,⟨hv0,hus⟩=>
  have hv0':v0= .iface t (.pointer (some ⟨E.blk b,0,none⟩)):=hv0.1;subst hv0';refine⟨_,us,f,_,rfl,acF (fun n=>alE hm hp _ w n) h.1,?_⟩
  have hc:=h.2 E S w (.pointer (some ⟨E.blk b,0,none⟩)::us) hl hg ⟨rfl,hus⟩ h1 h2 h3;have e1: #[Value.pointer (some ⟨E.blk b,0,none⟩)]++us.toArray=(Value.pointer (some ⟨E.blk b,0,none⟩)::us).toArray:=by apply Array.ext';simp
  rw[e1];exact hc
theorem jd.ofV{name:String}{f:FuncId}{b c:Nat}{T T2:TypeId}{size n n':Nat}{cells cells':List CA}{args:List AV}{r:AV}[hm:vH P t name f false][hp:vG P t e][he:iK P e](h:aj P f (.own c::args) [(c,.row T2 size n cells)] ⟨r,[(c,.ent (.row T2 size n' cells'))]⟩)(hbc:b≠c)(hr:r.ids=[]):
  jd P name (.it (.one (.rel b (ifpR t)))::args) [(b,.box T [.own c]),(c,.row T2 size n cells)] ⟨r,[(b,.ent (.box T [.own c])),(c,.ent (.row T2 size n' cells'))]⟩:=by
 intro E S w vs hl hg hv h1 h2 h3
 match vs,hv with
 |v0::us,⟨hv0,hus⟩=>
  have hv0':v0= .iface t (.pointer (some ⟨E.blk b,0,none⟩)):=hv0.1;subst hv0';obtain⟨cs,hg1,hcs⟩:(Ent.box T [.own c]).has E S w b:=h1 b _ zq9;obtain⟨u,rfl,hu⟩:∃u,cs=[u]/\(Atom.own c).has E S w u:=by
   match cs,hcs with
   |[u],h=>exact⟨u,rfl,h.1⟩
  have mc:(c,Ent.row T2 size n cells)∈[(b,Ent.box T [.own c]),(c,Ent.row T2 size n cells)]:=zy2 _ zq9;have mb:(b,Ent.box T [.own c])∈[(b,Ent.box T [.own c]),(c,Ent.row T2 size n cells)]:=zq9;refine⟨_,us,f,_,rfl,acF (fun n=>alj hm hp he w n hg1) h.1,?_⟩
  have hc:=h.2 E S w (u::us) hl hg ⟨hu,hus⟩ (fun i e hi=>by simp at hi;obtain⟨rfl,rfl⟩:=hi;exact h1 _ _ mc) (fun i e k hi hk=>by simp at hi;obtain⟨rfl,rfl⟩:=hi;exact h2 _ _ k mc hk) (fun i i' e e' k hne hi hi'=>by simp at hi hi';exact absurd (hi.1.trans hi'.1.symm) hne)
  have e1: #[u]++us.toArray=(u::us).toArray:=by apply Array.ext';simp
  rw[e1];refine hc.mono ?_;rintro e w' ⟨v,E',S',rfl,hE⟩;have hSb:S (E.blk b):=h2 b _ _ mb rfl;have hout:∀i s,(i,s)∈([(c,.ent (.row T2 size n' cells'))]:List (Nat×Slot))->i=c:=fun i s hi=>by simp at hi;exact hi.1
  have hEc:E.at' E' c:=hE.env c fun _=>⟨_,zq9⟩
  have hEb:E.at' E' b:=hE.env b fun⟨s,hs⟩=>absurd (hout b s hs) hbc
  have hnb:¬(Ent.row T2 size n cells).at E c (E.blk b):=h3 b c _ _ (E.blk b) hbc mb mc rfl;have hkeep:w'.heap[E.blk b]? =w.heap[E.blk b]? :=hE.off.block _ (hl _ hSb) fun⟨i,e,hi,hk⟩=>by
   simp at hi;obtain⟨rfl,rfl⟩:=hi;exact hnb hk
  refine⟨v,E',S',rfl,
   {env:=fun i hi=>hE.env i fun⟨s,hs⟩=>⟨Ent.row T2 size n cells,by rw[hout i s hs];exact zq9⟩,fpe:=fun i hi=>hE.fpe i fun s hs=>hi s (zy2 _ hs),sub:=hE.sub,new:=hE.new,lt:=hE.lt,
    off:=hE.off.mono fun k ⟨i,e,hi,hk⟩=>⟨i,e,zy2 _ hi,hk⟩,res:=hE.res,ents:=fun i e hi=>?_,blk:=fun i e k hi hk=>?_,sep:=fun i i' e e' k hne hi hi' hk hk'=>?_}⟩
  ·rcases zy3.1 hi with hi|hi
   ·cases hi;refine⟨[u],by rw[hEb.1,hkeep];exact hg1,⟨?_,trivial⟩⟩
    exact⟨hu.1.trans hEc.2.symm,hu.2⟩
   ·exact hE.ents i e hi
  ·rcases zy3.1 hi with hi|hi
   ·cases hi;have hk':some (E'.blk b)=some k:=hk;rw[hEb.1]at hk';cases hk';exact⟨hE.sub _ hSb,.inl ⟨b,_,mb,rfl⟩⟩
   ·obtain⟨g1,g2⟩:=hE.blk i e k hi hk;exact⟨g1,g2.imp (fun⟨i,e,hi,hk⟩=>⟨i,e,zy2 _ hi,hk⟩) id⟩
  ·have key:∀k,(Ent.row T2 size n' cells').at E' c k->k≠E.blk b:=fun k hk hkb=>by
    subst hkb;rcases(hE.blk c _ _ zq9 hk).2 with⟨i,e,hi,hk2⟩|hge
    ·simp at hi;obtain⟨rfl,rfl⟩:=hi;exact hnb hk2
    ·have:=hl _ hSb;omega
   have hbk:∀k,(Ent.box T [.own c]).at E' b k->k=E.blk b:=fun k hk=>by
    have hk':some (E'.blk b)=some k:=hk;rw[hEb.1]at hk';exact(zy7 hk').symm
   rcases zy3.1 hi with hi|hi
   ·cases hi;rcases zy3.1 hi' with hi'|hi'
    ·cases hi';exact hne rfl
    ·simp at hi';obtain⟨rfl,rfl⟩:=hi'
     exact key k hk' (hbk k hk)
   ·simp at hi;obtain⟨rfl,rfl⟩:=hi
    rcases zy3.1 hi' with hi'|hi'
    ·cases hi';exact key k hk (hbk k hk')
    ·simp at hi';obtain⟨rfl,rfl⟩:=hi';exact hne rfl
theorem Go1.inv{name:String}{as:Array Operand}{tys:Array TypeId}{a0:AV}{args:List AV}{pre:List (Nat×Ent)}{out:Out}{fp:List Nat}(hd:aC dst C.nt=true)(hx:st.ev x=some a0)(ha:evs st as.toList=some args)
  (hc:jd P name (a0::args) pre out) (hpre:∀b e,(b,e)∈pre->st.hp b= .ent e/\∃s,(b,s)∈out.hp) (hnew:∀b s,(b,s)∈out.hp->(∃e,(b,e)∈pre)\/st.hp b= .free) (hkeep:∀b s,(b,s)∈out.hp->s.used=true)
  (hfp:∀b s,(b,s)∈out.hp->b∈fp)
  (hid:∀i,(i∈out.res.ids\/∃b e,(b,Slot.ent e)∈out.hp/\i∈e.ids)->(∃s,(i,s)∈out.hp))
  (next:Reg P C ops rest (st.app dst out) ((fp,out.hp.map (·.1))::acc) K):Go1 P C ops dst (.call ⟨.invoke x name,as,tys⟩) ty rest st acc K:=by
 refine⟨fp,out,fun o h2 h3 h4=>aT.eff [] pre (fun b hb=>?_) (h2▸dR hd) (fun b e hb=>by cases hb) hpre hnew hkeep (fun st' E S a w hev hhp hs _ hpre'=>?_),next⟩
 ·rcases hb with⟨e,hb⟩|⟨e,hb⟩|⟨s,hb⟩
  ·cases hb
  ·obtain⟨_,s,hs⟩:=hpre b e hb;exact hfp b s hs
  ·exact hfp b s hb
 ·have hop:o.op.operands= #[x]++as:=by rw[h3];rfl
  have ha':evs st' as.toList=some args:=by rw[iO (fun x hx=>hev x (by rw[hop];simp at hx;simp[hx]))];exact ha
  obtain⟨hall,hids⟩:=lM hs ha';obtain⟨hv,hvi⟩:=hs.ev ((hev x (by rw[hop];simp)).trans hx)
  have key:∀i,(∃s,(i,s)∈out.hp)->(fZ st'.hp out.hp i).used=true:=by
   intro i hi;rcases gI i out.hp st'.hp with⟨s,g1,g2⟩|⟨g1,g2⟩
   ·rw[g2];exact hkeep i s g1
   ·obtain⟨s,hi⟩:=hi;exact absurd hi (g1 s)
  refine⟨⟨fun i hi=>key i (hid i (.inl hi)),fun b e hb i hi=>key i (hid i (.inr ⟨b,e,hb,hi⟩))⟩,fun K Q hK=>?_⟩
  obtain⟨v0,us,f,us',h5,h6,h7⟩:=hc E S w (a.eval x::as.toList.map a.eval) hs.lt hs.gl ⟨hv,hall⟩ (fun b e hb=>hs.hp b e (hpre' b e hb)) (fun b e k hb hk=>(hs.blk b e k (hpre' b e hb) hk).1)
   (fun b b' e e' k hne hb hb'=>hs.sep b b' e e' k hne (hpre' b e hb) (hpre' b' e' hb'))
  have h8:a.eval x=v0/\as.toList.map a.eval=us:=by simpa using h5
  obtain⟨rfl,rfl⟩:=h8;have h0:(execOp a.eval o).run P w= .ok (.enter f us') w:=by
   rw[<-h6];unfold execOp;rw[h3];have e1:(#[a.eval x]++as.map a.eval)[0]? =some (a.eval x):=by rw[<-zw2,Array.toList_append];rfl
   have e2:(#[a.eval x]++as.map a.eval).extract 1 (#[a.eval x]++as.map a.eval).size=(as.toList.map a.eval).toArray:=by
    apply Array.ext'
    simp
    exact zxc zp
   simp only[resolve,Sem.run_bind,Sem.run_pure,Result.andThen_ok,invoke,e1,e2]
  unfold Oper.wp;rw[h0];exact h7.mono fun e w' ⟨v,E',S',he,hE⟩=>by subst he;exact hK v w' E' S' hE
theorem G.inv1{name:String}{as:Array Operand}{tys:Array TypeId}{b:Nat}{R:Nat->Value->Value->Prop}{args:List AV}{A A':mF}{r:AV}(hc:jd P name (.it (.one (.rel b R))::args) [(b,.abs A)] ⟨r,[(b,.ent (.abs A'))]⟩)
  (next:Reg P C ops rest (st.app dst ⟨r,[(b,.ent (.abs A'))]⟩) (([b],[b])::acc) K) (hd:aC dst C.nt=true:=by rfl) (hx:st.ev x=some (.it (.one (.rel b R))):=by rfl) (ha:evs st as.toList=some args:=by rfl) (hb:st.hp b= .ent (.abs A):=by rfl) (hr:r.ids=[]:=by rfl):Go1 P C ops dst (.call ⟨.invoke x name,as,tys⟩) ty rest st acc K:=
 Go1.inv (fp:=[b]) hd hx ha hc (fun i e hi=>by simp at hi;obtain⟨rfl,rfl⟩:=hi;exact⟨hb,_,zq9⟩) (fun i s hi=>by simp at hi;obtain⟨rfl,rfl⟩:=hi;exact .inl ⟨_,zq9⟩) (fun i s hi=>by simp at hi;rw[hi.2];rfl) (fun i s hi=>by simp at hi;simp[hi.1])
  (fun i hi=>by
   rcases hi with hi|⟨b',e,hb',hi⟩
   ·rw[hr]at hi;cases hi
   ·simp at hb';obtain⟨rfl,rfl⟩:=hb';cases hi) next
end
end
