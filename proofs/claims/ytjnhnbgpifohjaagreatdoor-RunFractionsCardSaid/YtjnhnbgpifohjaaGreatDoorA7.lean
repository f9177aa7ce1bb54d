import Derived.Test.YtjnhnbgpifohjaaGreatDoorA6
import Derived.Test.YtjnhnbgpifohjaaGreatDoorA29
set_option linter.unusedVariables false
set_option linter.unusedSimpArgs false
namespace SX
section
open Go Go.RowKit
def B3(C:Ctx):Prop:=∀k,C.B k→k=C.E0.blk 81∨C.E0.sl 82= .map (some k)∨(C.E0.sl 84).ownBlock=some k
abbrev uN(t:TypeId)(cs:List Atom)(l:List (List UInt8×List CA))(t2:TypeId)(size n:Nat)(cells:List CA):List (Nat×Ent):=[(81,.box t cs),(82,.abs (gV l)),(84,.row t2 size n cells)]
theorem aj.fnM{P:Program}{f:FuncId}{fn:Func}{c:Code}{args:List AV}{t:TypeId}{cs:List Atom}{l:List (List UInt8×List CA)}{t2:TypeId}{size n:Nat}{cells:List CA}{out:Out}{nt:Nat}{rs:List ResultVar}(hf:P.funcs[f]? =some fn)(hres:fn.results=rs.toArray)(hnt:fn.ntmps=nt)(hb:fn.body=some c)(hn:(fn.name== "runtime.NumGoroutine")=false)(hna:Nat.ble args.length nt=true)
  (p3:(args.all fun v=>v.ids.all (iR [81,82,84]))=true) (p4:(cs.all fun a=>a.ids.all (iR [81,82,84]))=true) (p5:([81,82,84].all (iR (out.hp.map (·.1))))=true)
  (p6:((out.res.ids++out.hp.flatMap fun p=>p.2.ids).all fun i=>iR [81,82,84] i||iR (out.hp.map (·.1)) i)=true)
  (h:∀(w0:World) (T B:Nat→Prop) (E0:Env),B3 ⟨w0,T,B,nt,E0,fun b=>(lk (uN t cs l t2 size n cells) b).isSome⟩→WP P ⟨w0,T,B,nt,E0,fun b=>(lk (uN t cs l t2 size n cells) b).isSome⟩ c ⟨fun t=>args[t]?,fun b=>match lk (uN t cs l t2 size n cells) b with|some e=> .ent e|none=> .free⟩ (bO ⟨w0,T,B,nt,E0,fun b=>(lk (uN t cs l t2 size n cells) b).isSome⟩ P rs out)):aj P f args (uN t cs l t2 size n cells) out:=by
 have e0:(uN t cs l t2 size n cells).map (·.1)=[81,82,84]:=rfl;have p1:nodupB ((uN t cs l t2 size n cells).map (·.1))=true:=rfl;have e1:(fun b=>((uN t cs l t2 size n cells).lookup b).isSome)=fun b=>(lk (uN t cs l t2 size n cells) b).isSome:=funext fun b=>by rw[eX]
 have e2:iU args (uN t cs l t2 size n cells)=⟨fun t=>args[t]?,fun b=>match lk (uN t cs l t2 size n cells) b with|some e=> .ent e|none=> .free⟩:=by
  unfold iU
  congr 1
  funext b
  rw[eX];cases lk (uN t cs l t2 size n cells) b <;> rfl
 have key:∀i,iR [81,82,84] i=true→((uN t cs l t2 size n cells).lookup i).isSome=true:=fun i hi=>by rw[eX];exact lY (dW.1 hi)
 have hm3:∀b e,(b,e)∈uN t cs l t2 size n cells→(b=81∧e= .box t cs)∨(b=82∧e= .abs (gV l))∨(b=84∧e= .row t2 size n cells):=fun b e hb=>by simpa using hb
 refine aj.fnH hf hres hnt hb hn hna (fun b e hb=>by rw[eX];exact adB p1 hb) (fun v hv i hi=>key i (List.all_eq_true.1 (List.all_eq_true.1 p3 v hv) i hi)) (fun b e hb i hi=>?_) (fun b e hb=>?_) (fun i hi=>?_) (fun w0 T B E0 hB hH=>?_)
 ·rcases hm3 b e hb with⟨rfl,rfl⟩|⟨rfl,rfl⟩|⟨rfl,rfl⟩
  ·obtain⟨a,ha,hi⟩:=List.mem_flatMap.1 (show i∈cs.flatMap Atom.ids from hi)
   exact key i (List.all_eq_true.1 (List.all_eq_true.1 p4 a ha) i hi)
  ·cases hi
  ·cases hi
 ·have hmem:b∈[81,82,84]:=by rw[←e0];exact List.mem_map.2 ⟨(b,e),hb,rfl⟩
  obtain⟨⟨b',s⟩,hs,rfl⟩:=List.mem_map.1 (dW.1 (List.all_eq_true.1 p5 b hmem));exact⟨s,hs⟩
 ·have hi':i∈out.res.ids++out.hp.flatMap fun p=>p.2.ids:=by
   rw[List.mem_append];rcases hi with hi|⟨b,e,hb,hi⟩
   ·exact .inl hi
   ·exact .inr (List.mem_flatMap.2 ⟨(b,.ent e),hb,hi⟩)
  have:=List.all_eq_true.1 p6 i hi';rw[Bool.or_eq_true]at this;rcases this with h|h
  ·exact .inl (key i h)
  ·obtain⟨⟨b',s⟩,hs,rfl⟩:=List.mem_map.1 (dW.1 h);exact .inr ⟨s,hs⟩
 ·rw[e1,e2];refine WP.bO (h w0 T B E0 fun k hk=>?_)
  obtain⟨b,e,hb,hk⟩:=hB k hk;obtain⟨S,w,hh⟩:=hH b e hb;rcases hm3 b e hb with⟨rfl,rfl⟩|⟨rfl,rfl⟩|⟨rfl,rfl⟩
  ·exact .inl (Option.some.inj hk).symm
  ·obtain⟨r,es,clock,h1,h2,_⟩:=hh;exact .inr (.inl (by
    show E0.sl 82=_;rw[h1,(h2 k).1 hk]))
  ·exact .inr (.inr hk)
theorem St.aiv{C:Ctx}{st:St}{b size n:Nat}{t:TypeId}{cells:List CA}{t1:TypeId}{cs:List Atom}{l:List (List UInt8×List CA)}{t2:TypeId}{size2 n2:Nat}{cells2:List CA}(hB:B3 C)(h81:st.hp 81= .ent (.box t1 cs))(h82:st.hp 82= .ent (.abs (gV l)))(h84:st.hp 84= .ent (.row t2 size2 n2 cells2))
  (f1:C.fix 81=true) (f2:C.fix 82=true) (f3:C.fix 84=true) (hne:(Nat.beq b 81||Nat.beq b 82||Nat.beq b 84)=false) (hb:st.hp b= .ent (.row t size n cells)):St.le C st (st.frz b size n cells):=
 St.ac1 (fun E S a w hs k hk=>((hs.blk b _ k hb hk).2).elim (fun hk'=>by
  have n1:b≠81:=fun e=>by subst e;simp at hne
  have n2:b≠82:=fun e=>by subst e;simp at hne
  have n3:b≠84:=fun e=>by subst e;simp at hne
  rcases hB k hk' with h|h|h
  ·refine absurd ?_ (hs.sep b 81 _ _ _ n1 hb h81 hk);show some (E.blk 81)=some k;rw[(hs.env 81 f1).1,h]
  ·refine absurd ?_ (hs.sep b 82 _ _ _ n2 hb h82 hk);obtain⟨r,es,clock,g1,g2,_⟩:=hs.hp 82 _ h82;rw[(hs.env 82 f2).2.1,h]at g1;show E.fp 82 k;rw[g2]
   injection g1 with g1
   exact Option.some.inj g1
  ·refine absurd ?_ (hs.sep b 84 _ _ _ n3 hb h84 hk);show (E.sl 84).ownBlock=some k;rw[(hs.env 84 f3).2.1,h]) id) hb
theorem WP.ajj{P:Program}{C:Ctx}{st:St}{Q:Exit→St→Prop}{c:Code}{t:TypeId}(b:Nat){size n:Nat}{cells:List CA}{t1:TypeId}{cs:List Atom}{l:List (List UInt8×List CA)}{t2:TypeId}{size2 n2:Nat}{cells2:List CA}(hB:B3 C)(hb:st.hp b= .ent (.row t size n cells))(h81:st.hp 81= .ent (.box t1 cs))(h82:st.hp 82= .ent (.abs (gV l)))(h84:st.hp 84= .ent (.row t2 size2 n2 cells2))
  (h:WP P C c (st.frz b size n cells) Q) (f1:C.fix 81=true:=by rfl) (f2:C.fix 82=true:=by rfl) (f3:C.fix 84=true:=by rfl) (hne:(Nat.beq b 81||Nat.beq b 82||Nat.beq b 84)=false:=by rfl):WP P C c st Q:=
 WP.weaken (St.aiv hB h81 h82 h84 f1 f2 f3 hne hb) h
theorem aN.frzM{P:Program}{C:Ctx}{st:St}{rs:List ResultVar}{out:Out}{t:TypeId}(b:Nat){size n:Nat}{cells:List CA}{t1:TypeId}{cs:List Atom}{l:List (List UInt8×List CA)}{t2:TypeId}{size2 n2:Nat}{cells2:List CA}(hB:B3 C)(hb:st.hp b= .ent (.row t size n cells))(h81:st.hp 81= .ent (.box t1 cs))(h82:st.hp 82= .ent (.abs (gV l)))(h84:st.hp 84= .ent (.row t2 size2 n2 cells2))
  (h:aN C P rs out (st.frz b size n cells)) (f1:C.fix 81=true:=by rfl) (f2:C.fix 82=true:=by rfl) (f3:C.fix 84=true:=by rfl) (hne:(Nat.beq b 81||Nat.beq b 82||Nat.beq b 84)=false:=by rfl):aN C P rs out st:=by
 obtain⟨s',hl,hr⟩:=h;exact⟨s',fun a w hs=>hl a w (St.aiv hB h81 h82 h84 f1 f2 f3 hne hb a w hs),hr⟩
theorem aj.bun{P:Program}{f:FuncId}{args:List AV}{r:AV}{b:Nat}{t:TypeId}{cells cells':List Atom}{R R':List (Nat×Ent)}(h:aj P f args ((b,.box t cells)::R) ⟨r,(b,.ent (.box t cells'))::R'.map fun q=>(q.1,.ent q.2)⟩)
  (hargs:∀v∈args,∀i∈v.ids,i=b) (hr:r.ids=[]) (hbn:∀e,(b,e)∉R'):
  aj P f args [(b,.abs (mh b (fun _:Unit=>True) t (fun _=>cells) (fun _=>R)))] ⟨r,[(b,.ent (.abs (mh b (fun _:Unit=>True) t (fun _=>cells') (fun _=>R'))))]⟩:=by
 obtain⟨h0,h⟩:=h;refine⟨h0,fun E S w vs hl hgl hall hpre hblk hsep=>?_⟩
 obtain⟨p,Ep,⟨hs1,hs2⟩,hB⟩:∃(p:Unit) (Ep:Env),(Ep.blk b=E.blk b∧Ep.sl b=E.sl b)∧aa6 (fun _:Unit=>True) t (fun _=>cells) (fun _=>R) (E.blk b) (E.fp b) S w p Ep:=hpre b _ (List.mem_singleton.2 rfl)
 have hX:∀k,E.fp b k→S k:=fun k hk=>hblk b _ k (List.mem_singleton.2 rfl) hk
 have hmem:∀i e,(i,e)∈(b,Ent.box t cells)::R→(i=b∧e= .box t cells)∨(i,e)∈R:=fun i e hi=>by
  rcases List.mem_cons.1 hi with hi|hi
  ·cases hi;exact .inl ⟨rfl,rfl⟩
  ·exact .inr hi
 have hfp:∀i e k,(i,e)∈(b,Ent.box t cells)::R→e.at Ep i k→E.fp b k:=fun i e k hi hk=>by
  rcases hmem i e hi with⟨rfl,rfl⟩|hi
  ·have hk':some (Ep.blk i)=some k:=hk;rw[hs1]at hk';exact(hB.X k).2 (.inl (Option.some.inj hk').symm)
  ·exact(hB.X k).2 (.inr ⟨i,e,hi,hk⟩)
 have hv:aI (AV.has Ep S w) args vs:=hall.mono fun a v ha hav=>hav.step (fun i hi=>by rw[hargs a ha i hi];exact⟨hs1,hs2⟩) (Off.refl S w) (fun k hk=> .inl hk)
 refine(h Ep S w vs hl hgl hv (fun i e hi=>?_) (fun i e k hi hk=>hX k (hfp i e k hi hk)) (fun i i' e e' k hne hi hi' hk hk'=>?_)).mono fun e w' ⟨v,E2,S2,he,hE⟩=>?_
 ·rcases hmem i e hi with⟨rfl,rfl⟩|hi
  ·obtain⟨cs,g1,g2⟩:=hB.box;exact⟨cs,by rw[hs1];exact g1,g2⟩
  ·exact hB.ents i e hi
 ·rcases hmem i e hi with⟨e1,rfl⟩|hm
  ·rcases hmem i' e' hi' with⟨e2,rfl⟩|hm'
   ·exact hne (e1.trans e2.symm)
   ·have hk1:some (Ep.blk i)=some k:=hk;rw[e1,hs1]at hk1;exact hB.sepb i' e' hm' ((Option.some.inj hk1)▸hk')
  ·rcases hmem i' e' hi' with⟨e2,rfl⟩|hm'
   ·have hk1:some (Ep.blk i')=some k:=hk';rw[e2,hs1]at hk1;exact hB.sepb i e hm ((Option.some.inj hk1)▸hk)
   ·exact hB.sep i i' e e' k hne hm hm' hk hk'
 ·have hb2:Ep.at' E2 b:=hE.env b fun _=>⟨_,List.mem_cons_self⟩
  have hq:∀i e,(i,e)∈R'→(i,Slot.ent e)∈(b,Slot.ent (.box t cells'))::R'.map fun q=>(q.1,Slot.ent q.2):=fun i e hi=>List.mem_cons_of_mem _ (List.mem_map.2 ⟨(i,e),hi,rfl⟩)
  have hbb:some (E2.blk b)=some (E.blk b):=by rw[hb2.1,hs1]
  have hfp2:∀k,(∃i e,(i,e)∈(b,Ent.box t cells)::R∧e.at Ep i k)→∃i e,(i,e)∈[(b,Ent.abs (mh b (fun _:Unit=>True) t (fun _=>cells) (fun _=>R)))]∧e.at E i k:=fun k ⟨i,e,hi,hk⟩=>⟨b,_,List.mem_singleton.2 rfl,hfp i e k hi hk⟩
  have hX':∀k,(k=E.blk b∨∃i e,(i,e)∈R'∧e.at E2 i k)→S2 k∧((∃i e,(i,e)∈[(b,Ent.abs (mh b (fun _:Unit=>True) t (fun _=>cells) (fun _=>R)))]∧e.at E i k)∨w.heap.size≤k):=fun k hk=>by
   rcases hk with rfl|⟨i,e,hi,hk⟩
   ·have:=hE.blk b _ (E.blk b) List.mem_cons_self hbb;exact⟨this.1,this.2.imp (hfp2 _) id⟩
   ·have:=hE.blk i e k (hq i e hi) hk;exact⟨this.1,this.2.imp (hfp2 _) id⟩
  have hone:∀i e',(i,Slot.ent e')∈[(b,Slot.ent (Ent.abs (mh b (fun _:Unit=>True) t (fun _=>cells') (fun _=>R'))))]→i=b∧e'= .abs (mh b (fun _:Unit=>True) t (fun _=>cells') (fun _=>R')):=fun i e' hi=>by simpa using hi
  refine⟨v,⟨E.blk,E.sl,upd E.fp b fun k=>k=E.blk b∨∃i e,(i,e)∈R'∧e.at E2 i k⟩,S2,he,
   {env:=fun i _=>⟨rfl,rfl⟩,fpe:=fun i hi=>upd_ne _ _ fun e=>hi (.ent (.abs (mh b (fun _:Unit=>True) t (fun _=>cells') (fun _=>R')))) (by simp[e]),sub:=hE.sub,new:=hE.new,lt:=hE.lt,off:=hE.off.mono hfp2,
    res:=hE.res.step (fun i hi=>by rw[hr]at hi;cases hi) (Off.refl _ _) (fun k hk=> .inl hk),ents:=fun i e' hi=>?_,blk:=fun i e' k hi hk=>?_,sep:=fun i i' e1 e2 k hne h1 h2=>?_}⟩
  ·obtain⟨rfl,rfl⟩:=hone i e' hi;show (mh i (fun _:Unit=>True) t (fun _=>cells') (fun _=>R')).has (E.blk i) (E.sl i) (upd E.fp i _ i) S2 w'
   rw[upd_same];obtain⟨cs,g1,g2⟩:=hE.ents i _ List.mem_cons_self;refine⟨(),E2,⟨hb2.1.trans hs1,hb2.2.trans hs2⟩,{φ:=trivial,box:=⟨cs,by rw[←Option.some.inj hbb];exact g1,g2⟩,ents:=fun j e hj=>hE.ents j e (hq j e hj),sep:=fun j j' e e' k hne hj hj'=>hE.sep j j' e e' k hne (hq j e hj) (hq j' e' hj'),sepb:=fun j e hj hk=>?_,X:=fun k=>Iff.rfl}⟩
   by_cases hji:j=i
   ·subst hji;exact hbn e hj
   ·exact hE.sep i j _ e (E.blk i) (fun e=>hji e.symm) List.mem_cons_self (hq j e hj) hbb hk
  ·obtain⟨rfl,rfl⟩:=hone i e' hi;have hk':upd E.fp i _ i k:=hk;rw[upd_same]at hk';exact hX' k hk'
  ·obtain⟨rfl,_⟩:=hone _ _ h1;obtain⟨rfl,_⟩:=hone _ _ h2;exact absurd rfl hne
def alY:AV0→AV0
 | .one (.clo f [])=> .one (.c (.val (.func (.func f) #[] #[])))
 |x=>x
theorem aoK{E:Env}{S:Nat→Prop}{w:World}{x:AV0}{v:Value}(h:x.has E S w v):(alY x).has E S w v:=by
 unfold alY
 split
 ·exact h
 ·exact h
theorem afl{E:Env}{S:Nat→Prop}{w:World}:∀{l:List (Nat×AV0)} {us:List (Nat×Value)},aI (fun p q=>p.1=q.1∧p.2.has E S w q.2) l us→aI (fun p q=>p.1=q.1∧p.2.has E S w q.2) (l.map fun p=>(p.1,alY p.2)) us
 |[],[],_=>trivial
 |_::_,_::_,h=>⟨⟨h.1.1,aoK h.1.2⟩,afl h.2⟩
 |[],_::_,h=>h.elim
 |_::_,[],h=>h.elim
section
variable{P:Program}{C:Ctx}{st:St}
variable{ops rest:List Oper}{acc:List (List Nat×List Nat)}{K:List (List Nat×List Nat)→St→Prop}{dst:Option Tmp}{d:Tmp}{ty t:TypeId}
theorem agI{o:Oper}{st':St}{E:Env}{S:Nat→Prop}{a:Act}{w:World}{e:TypeId}{n size bytes:Nat}{zs:List Value}{parts:Array (Nat×Operand)}{ps:List (Nat×AV0)}{l:List Atom}{m:List CA}[ht:bg P t e size][he:dZ P e zs bytes]
  (hs:lX C st' E S a w) (h3:o.op= .buildSlice t n parts) {ps0:List (Nat×AV0)} (hp':evp st' parts.toList=some ps0) (hps:ps0.map (fun p=>(p.1,alY p.2))=ps) (h1:(ps.all fun p=>p.2.cells.all Atom.dL&&Nat.blt p.1 n)=true) (hn:Nat.ble (n*size) 16777216=true)
  (hfl:eH (placesOf n size) ((madeCells zs.toArray (n*size)).toList.map fun v=>Atom.c (.val v)) ps=some l) (hc:aQ l=some m) (hm:Nat.beq m.length (n*size)=true):
  ∃us:List Value,(execOp a.eval o).run P w= .ok (.value (.slice (some ⟨w.heap.size,0,none⟩) n n)) (w.alloc (.cells us.toArray e))∧us.length=n*size∧aI (CA.has S w) m us∧n≤maxLen:=by
  obtain⟨hall0,hids⟩:=tV hs hp';have hall:=afl hall0;rw[hps]at hall;obtain⟨i,z,hi,hz,hcz,hsz,hby⟩:=nC he ht.s;rw[List.all_eq_true]at h1;rw[Nat.ble_eq]at hn;obtain⟨us,hfill,hus⟩:=qN (w:=w) (cs:=(madeCells zs.toArray (n*size)).toList) hall (fun p hp=>by have:=h1 p hp;simp only[Bool.and_eq_true]at this;exact this.1) (jP _) hfl
  have hlen:us.length=n*size:=by
   have h6:=hus.length;rw[dJ hc]at h6;simp at h6
   have:=Nat.eq_of_beq_eq_true hm;omega
  have hqi:∀q∈parts.toList.map (fun x=>(x.1,a.eval x.2)),(fun i=>(placesOf n size)[i]?) q.1=(fun i=>some (i*size,size)) q.1:=by
   intro q hq;obtain⟨j,hj⟩:=List.mem_iff_getElem?.1 hq;obtain⟨p,hpj,hpq,_⟩:=hall.get' hj;have:=h1 p (zq4 hpj);simp only[Bool.and_eq_true,Nat.blt_eq]at this;have hlt:q.1 < n:=by rw[←hpq];exact this.2
   simp[placesOf,hlt]
  rw[nZ (p:=fun i=>(placesOf n size)[i]?) (p':=fun i=>some (i*size,size)) _ _ hqi]at hfill
  refine⟨us,?_,hlen,iC (by rw[←dJ hc];exact hus),?_⟩
  ·unfold execOp;rw[h3];have hparts:(parts.map fun x=>(x.1,a.eval x.2)).toList=parts.toList.map fun x=>(x.1,a.eval x.2):=by simp
   have hgt:¬n*size > 2 ^ 24:=by omega
   simp only[Instr.buildSlice,Sem.run_bind,run_underlying ht.h,Result.andThen_ok,run_sizeOf ht.s,hparts];rw[if_neg hgt];by_cases h0:n*size=0
   ·have he0:(madeCells zs.toArray (n*size)).toList.toArray=(Array.range (n*size)).map ((#[]:Array Value)[· % (#[]:Array Value).size]!):=by rw[h0];simp[madeCells]
    rw[he0]at hfill;rw[if_pos h0];simp only[Sem.run_bind,Sem.run_pure,Result.andThen_ok];rw[hfill];simp[newRow]
   ·have he0:(madeCells zs.toArray (n*size)).toList.toArray=(Array.range (n*size)).map (zs.toArray[· % zs.toArray.size]!):=by rw[Array.toArray_toList];rfl
    rw[he0]at hfill;rw[if_neg h0];simp only[Sem.run_bind,Sem.run_pure,Result.andThen_ok,zeroValue,typeInfo,run_program,hi,hz,hcz];rw[hfill];simp[newRow]
  ·by_cases h0:n=0
   ·subst h0;simp[maxLen]
   ·have:=ht.p;have h7:n*1≤n*size:=Nat.mul_le_mul_left _ this;simp only[maxLen];omega
theorem Go1.xM{dst:Option Tmp}{e:TypeId}{n size bytes:Nat}{zs:List Value}{parts:Array (Nat×Operand)}{ps:List (Nat×AV0)}{l:List Atom}{m:List CA}[ht:bg P t e size][he:dZ P e zs bytes](hd:aC dst C.nt=true)
  {ps0:List (Nat×AV0)} (hp:evp st parts.toList=some ps0) (hps:ps0.map (fun p=>(p.1,alY p.2))=ps) (h1:(ps.all fun p=>p.2.cells.all Atom.dL&&Nat.blt p.1 n)=true) (hn:Nat.ble (n*size) 16777216=true)
  (hfl:eH (placesOf n size) ((madeCells zs.toArray (n*size)).toList.map fun v=>Atom.c (.val v)) ps=some l) (hc:aQ l=some m) (hm:Nat.beq m.length (n*size)=true)
  (next:Reg P C ops rest (st.app dst ⟨.r (aL size n m),[]⟩) (([],[])::acc) K):Go1 P C ops dst (.buildSlice t n parts) ty rest st acc K:=by
 refine⟨[],⟨.r (aL size n m),[]⟩,fun o h2 h3 h4=>aY.eff [] [] (fun b hb=>?_) (h2▸bZ hd) (fun b e hb=>by cases hb) (fun b e hb=>by cases hb) (fun b s hb=>by cases hb) (fun b s hb=>by cases hb) (fun st' E S a w hev hhp hs _ _=>?_),next⟩
 ·rcases hb with⟨e,hb⟩|⟨e,hb⟩|⟨s,hb⟩ <;> cases hb
 ·have hp':evp st' parts.toList=some ps0:=by
   rw[lI (fun x hx=>hev x.2 (by rw[h3];simp[Op.operands];exact⟨x.1,by simpa using hx⟩))];exact hp
  obtain⟨us,hrun,hlen,hall,hmx⟩:=agI (ht:=ht) (he:=he) hs h3 hp' hps h1 hn hfl hc hm;refine⟨⟨fun i hi=>(by cases hi),fun b e hb=>by cases hb⟩,fun K Q hK=>?_⟩
  unfold Oper.wp;rw[hrun];refine hK _ _ E S {env:=fun _ _=>⟨rfl,rfl⟩,fpe:=fun _ _=>rfl,sub:=fun _ h=>h,new:=fun _ h=> .inl h,lt:=fun k hk=>Nat.lt_of_lt_of_le (hs.lt k hk) (by simp),off:=Off.alloc _ _ _,res:=?_,ents:=fun _ _ h=>(by cases h),blk:=fun _ _ _ h=>(by cases h),sep:=fun _ _ _ _ _ _ h=>(by cases h)}
  refine bB.2 ⟨_,_,rfl,Nat.le_refl _,hmx,(fun h=>by cases h),(by rw[hall.length,hlen]),fun i c hc=>?_⟩
  obtain⟨u,hu,huc⟩:=hall.get hc;refine⟨w.heap.size,0,u,rfl,fun hS=>absurd (hs.lt _ hS) (Nat.lt_irrefl _),?_,huc.step (Off.alloc _ _ _) (fun k hk=> .inl hk)⟩
  have hcell:=cells_of_block (heap_alloc_new w (.cells us.toArray e)) 0 i u (by simpa using hu)
  simpa[Addr.add_lit]using hcell
end
end
section
open Go Go.RowKit Go.ChangeShapes Go.WideShapes Go.ChangeAt Go.Joins
section
variable{H:Type}{enc:TypeId×Value→H}{P:Program}{W:World}{base:Nat}{sp:Nat→Bool}{hd:Bool}
end
end
end SX