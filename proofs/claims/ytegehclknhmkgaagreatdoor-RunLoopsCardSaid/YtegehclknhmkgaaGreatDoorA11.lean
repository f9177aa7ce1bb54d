import Derived.Test.YtegehclknhmkgaaGreatDoorA10
import Derived.Test.YtegehclknhmkgaaGreatDoorA36
import Derived.Test.YtegehclknhmkgaaGreatDoorA1
import Derived.Test.YtegehclknhmkgaaGreatDoorA3
set_option linter.unusedVariables false
set_option linter.unusedSimpArgs false
namespace SX
section
open Go Go.RowKit
def B3(C:Ctx):Prop:=∀k,C.B k→k=C.E0.blk 81∨C.E0.sl 82= .map (some k)∨(C.E0.sl 84).ownBlock=some k
abbrev um(t:TypeId)(cs:List Atom)(l:List (List UInt8×List CA))(t2:TypeId)(size n:Nat)(cells:List CA):List (Nat×Ent):=[(81,.box t cs),(82,.abs (gI l)),(84,.row t2 size n cells)]
theorem ah.fnM{P:Program}{f:FuncId}{fn:Func}{c:Code}{args:List AV}{t:TypeId}{cs:List Atom}{l:List (List UInt8×List CA)}{t2:TypeId}{size n:Nat}{cells:List CA}{out:Out}{nt:Nat}{rs:List ResultVar}(hf:P.funcs[f]? =some fn)(hres:fn.results=rs.toArray)(hnt:fn.ntmps=nt)(hb:fn.body=some c)(hn:(fn.name== "runtime.NumGoroutine")=false)(hna:Nat.ble args.length nt=true)
  (p3:(args.all fun v=>v.ids.all (iK [81,82,84]))=true) (p4:(cs.all fun a=>a.ids.all (iK [81,82,84]))=true) (p5:([81,82,84].all (iK (out.hp.map (·.1))))=true)
  (p6:((out.res.ids++out.hp.flatMap fun p=>p.2.ids).all fun i=>iK [81,82,84] i||iK (out.hp.map (·.1)) i)=true)
  (h:∀(w0:World) (T B:Nat→Prop) (E0:Env),B3 ⟨w0,T,B,nt,E0,fun b=>(lk (um t cs l t2 size n cells) b).isSome⟩→WP P ⟨w0,T,B,nt,E0,fun b=>(lk (um t cs l t2 size n cells) b).isSome⟩ c ⟨fun t=>args[t]?,fun b=>match lk (um t cs l t2 size n cells) b with|some e=> .ent e|none=> .free⟩ (bI ⟨w0,T,B,nt,E0,fun b=>(lk (um t cs l t2 size n cells) b).isSome⟩ P rs out)):ah P f args (um t cs l t2 size n cells) out:=by
 have e0:(um t cs l t2 size n cells).map (·.1)=[81,82,84]:=rfl;have p1:nodupB ((um t cs l t2 size n cells).map (·.1))=true:=rfl;have e1:(fun b=>((um t cs l t2 size n cells).lookup b).isSome)=fun b=>(lk (um t cs l t2 size n cells) b).isSome:=funext fun b=>by rw[eU]
 have e2:iE args (um t cs l t2 size n cells)=⟨fun t=>args[t]?,fun b=>match lk (um t cs l t2 size n cells) b with|some e=> .ent e|none=> .free⟩:=by
  unfold iE
  congr 1
  funext b
  rw[eU];cases lk (um t cs l t2 size n cells) b <;> rfl
 have key:∀i,iK [81,82,84] i=true→((um t cs l t2 size n cells).lookup i).isSome=true:=fun i hi=>by rw[eU];exact lg (dV.1 hi)
 have hm3:∀b e,(b,e)∈um t cs l t2 size n cells→(b=81∧e= .box t cs)∨(b=82∧e= .abs (gI l))∨(b=84∧e= .row t2 size n cells):=fun b e hb=>by simpa using hb
 refine ah.fnH hf hres hnt hb hn hna (fun b e hb=>by rw[eU];exact ab3 p1 hb) (fun v hv i hi=>key i (List.all_eq_true.1 (List.all_eq_true.1 p3 v hv) i hi)) (fun b e hb i hi=>?_) (fun b e hb=>?_) (fun i hi=>?_) (fun w0 T B E0 hB hH=>?_)
 ·rcases hm3 b e hb with⟨rfl,rfl⟩|⟨rfl,rfl⟩|⟨rfl,rfl⟩
  ·obtain⟨a,ha,hi⟩:=List.mem_flatMap.1 (show i∈cs.flatMap Atom.ids from hi)
   exact key i (List.all_eq_true.1 (List.all_eq_true.1 p4 a ha) i hi)
  ·cases hi
  ·cases hi
 ·have hmem:b∈[81,82,84]:=by rw[←e0];exact List.mem_map.2 ⟨(b,e),hb,rfl⟩
  obtain⟨⟨b',s⟩,hs,rfl⟩:=List.mem_map.1 (dV.1 (List.all_eq_true.1 p5 b hmem));exact⟨s,hs⟩
 ·have hi':i∈out.res.ids++out.hp.flatMap fun p=>p.2.ids:=by
   rw[List.mem_append];rcases hi with hi|⟨b,e,hb,hi⟩
   ·exact .inl hi
   ·exact .inr (List.mem_flatMap.2 ⟨(b,.ent e),hb,hi⟩)
  have:=List.all_eq_true.1 p6 i hi';rw[Bool.or_eq_true]at this;rcases this with h|h
  ·exact .inl (key i h)
  ·obtain⟨⟨b',s⟩,hs,rfl⟩:=List.mem_map.1 (dV.1 h);exact .inr ⟨s,hs⟩
 ·rw[e1,e2];refine WP.bI (h w0 T B E0 fun k hk=>?_)
  obtain⟨b,e,hb,hk⟩:=hB k hk;obtain⟨S,w,hh⟩:=hH b e hb;rcases hm3 b e hb with⟨rfl,rfl⟩|⟨rfl,rfl⟩|⟨rfl,rfl⟩
  ·exact .inl (Option.some.inj hk).symm
  ·obtain⟨r,es,clock,h1,h2,_⟩:=hh;exact .inr (.inl (by
    show E0.sl 82=_;rw[h1,(h2 k).1 hk]))
  ·exact .inr (.inr hk)
theorem St.ahl{C:Ctx}{st:St}{b size n:Nat}{t:TypeId}{cells:List CA}{t1:TypeId}{cs:List Atom}{l:List (List UInt8×List CA)}{t2:TypeId}{size2 n2:Nat}{cells2:List CA}(hB:B3 C)(h81:st.hp 81= .ent (.box t1 cs))(h82:st.hp 82= .ent (.abs (gI l)))(h84:st.hp 84= .ent (.row t2 size2 n2 cells2))
  (f1:C.fix 81=true) (f2:C.fix 82=true) (f3:C.fix 84=true) (hne:(Nat.beq b 81||Nat.beq b 82||Nat.beq b 84)=false) (hb:st.hp b= .ent (.row t size n cells)):St.le C st (st.frz b size n cells):=
 St.abg (fun E S a w hs k hk=>((hs.blk b _ k hb hk).2).elim (fun hk'=>by
  have n1:b≠81:=fun e=>by subst e;simp at hne
  have n2:b≠82:=fun e=>by subst e;simp at hne
  have n3:b≠84:=fun e=>by subst e;simp at hne
  rcases hB k hk' with h|h|h
  ·refine absurd ?_ (hs.sep b 81 _ _ _ n1 hb h81 hk);show some (E.blk 81)=some k;rw[(hs.env 81 f1).1,h]
  ·refine absurd ?_ (hs.sep b 82 _ _ _ n2 hb h82 hk);obtain⟨r,es,clock,g1,g2,_⟩:=hs.hp 82 _ h82;rw[(hs.env 82 f2).2.1,h]at g1;show E.fp 82 k;rw[g2]
   injection g1 with g1
   exact Option.some.inj g1
  ·refine absurd ?_ (hs.sep b 84 _ _ _ n3 hb h84 hk);show (E.sl 84).ownBlock=some k;rw[(hs.env 84 f3).2.1,h]) id) hb
theorem WP.afG{P:Program}{C:Ctx}{st:St}{Q:Exit→St→Prop}{c:Code}{t:TypeId}(b:Nat){size n:Nat}{cells:List CA}{t1:TypeId}{cs:List Atom}{l:List (List UInt8×List CA)}{t2:TypeId}{size2 n2:Nat}{cells2:List CA}(hB:B3 C)(hb:st.hp b= .ent (.row t size n cells))(h81:st.hp 81= .ent (.box t1 cs))(h82:st.hp 82= .ent (.abs (gI l)))(h84:st.hp 84= .ent (.row t2 size2 n2 cells2))
  (h:WP P C c (st.frz b size n cells) Q) (f1:C.fix 81=true:=by rfl) (f2:C.fix 82=true:=by rfl) (f3:C.fix 84=true:=by rfl) (hne:(Nat.beq b 81||Nat.beq b 82||Nat.beq b 84)=false:=by rfl):WP P C c st Q:=
 WP.weaken (St.ahl hB h81 h82 h84 f1 f2 f3 hne hb) h
theorem aL.frzM{P:Program}{C:Ctx}{st:St}{rs:List ResultVar}{out:Out}{t:TypeId}(b:Nat){size n:Nat}{cells:List CA}{t1:TypeId}{cs:List Atom}{l:List (List UInt8×List CA)}{t2:TypeId}{size2 n2:Nat}{cells2:List CA}(hB:B3 C)(hb:st.hp b= .ent (.row t size n cells))(h81:st.hp 81= .ent (.box t1 cs))(h82:st.hp 82= .ent (.abs (gI l)))(h84:st.hp 84= .ent (.row t2 size2 n2 cells2))
  (h:aL C P rs out (st.frz b size n cells)) (f1:C.fix 81=true:=by rfl) (f2:C.fix 82=true:=by rfl) (f3:C.fix 84=true:=by rfl) (hne:(Nat.beq b 81||Nat.beq b 82||Nat.beq b 84)=false:=by rfl):aL C P rs out st:=by
 obtain⟨s',hl,hr⟩:=h;exact⟨s',fun a w hs=>hl a w (St.ahl hB h81 h82 h84 f1 f2 f3 hne hb a w hs),hr⟩
theorem ah.bun{P:Program}{f:FuncId}{args:List AV}{r:AV}{b:Nat}{t:TypeId}{cells cells':List Atom}{R R':List (Nat×Ent)}(h:ah P f args ((b,.box t cells)::R) ⟨r,(b,.ent (.box t cells'))::R'.map fun q=>(q.1,.ent q.2)⟩)
  (hargs:∀v∈args,∀i∈v.ids,i=b) (hr:r.ids=[]) (hbn:∀e,(b,e)∉R'):
  ah P f args [(b,.abs (lM b (fun _:Unit=>True) t (fun _=>cells) (fun _=>R)))] ⟨r,[(b,.ent (.abs (lM b (fun _:Unit=>True) t (fun _=>cells') (fun _=>R'))))]⟩:=by
 obtain⟨h0,h⟩:=h;refine⟨h0,fun E S w vs hl hgl hall hpre hblk hsep=>?_⟩
 obtain⟨p,Ep,⟨hs1,hs2⟩,hB⟩:∃(p:Unit) (Ep:Env),(Ep.blk b=E.blk b∧Ep.sl b=E.sl b)∧xH (fun _:Unit=>True) t (fun _=>cells) (fun _=>R) (E.blk b) (E.fp b) S w p Ep:=hpre b _ (List.mem_singleton.2 rfl)
 have hX:∀k,E.fp b k→S k:=fun k hk=>hblk b _ k (List.mem_singleton.2 rfl) hk
 have hmem:∀i e,(i,e)∈(b,Ent.box t cells)::R→(i=b∧e= .box t cells)∨(i,e)∈R:=fun i e hi=>by
  rcases List.mem_cons.1 hi with hi|hi
  ·cases hi;exact .inl ⟨rfl,rfl⟩
  ·exact .inr hi
 have hfp:∀i e k,(i,e)∈(b,Ent.box t cells)::R→e.at Ep i k→E.fp b k:=fun i e k hi hk=>by
  rcases hmem i e hi with⟨rfl,rfl⟩|hi
  ·have hk':some (Ep.blk i)=some k:=hk;rw[hs1]at hk';exact(hB.X k).2 (.inl (Option.some.inj hk').symm)
  ·exact(hB.X k).2 (.inr ⟨i,e,hi,hk⟩)
 have hv:aI (AV.has Ep S w) args vs:=hall.mono fun a v ha hav=>hav.step (fun i hi=>by rw[hargs a ha i hi];exact⟨hs1,hs2⟩) (Off.refl S w) (fun k hk=> .inl hk)
 refine(h Ep S w vs hl hgl hv (fun i e hi=>?_) (fun i e k hi hk=>hX k (hfp i e k hi hk)) (fun i i' e e' k hne hi hi' hk hk'=>?_)).mono fun e w' ⟨v,E2,S2,he,hE⟩=>?_
 ·rcases hmem i e hi with⟨rfl,rfl⟩|hi
  ·obtain⟨cs,g1,g2⟩:=hB.box;exact⟨cs,by rw[hs1];exact g1,g2⟩
  ·exact hB.ents i e hi
 ·rcases hmem i e hi with⟨e1,rfl⟩|hm
  ·rcases hmem i' e' hi' with⟨e2,rfl⟩|hm'
   ·exact hne (e1.trans e2.symm)
   ·have hk1:some (Ep.blk i)=some k:=hk;rw[e1,hs1]at hk1;exact hB.sepb i' e' hm' ((Option.some.inj hk1)▸hk')
  ·rcases hmem i' e' hi' with⟨e2,rfl⟩|hm'
   ·have hk1:some (Ep.blk i')=some k:=hk';rw[e2,hs1]at hk1;exact hB.sepb i e hm ((Option.some.inj hk1)▸hk)
   ·exact hB.sep i i' e e' k hne hm hm' hk hk'
 ·have hb2:Ep.at' E2 b:=hE.env b fun _=>⟨_,List.mem_cons_self⟩
  have hq:∀i e,(i,e)∈R'→(i,Slot.ent e)∈(b,Slot.ent (.box t cells'))::R'.map fun q=>(q.1,Slot.ent q.2):=fun i e hi=>List.mem_cons_of_mem _ (List.mem_map.2 ⟨(i,e),hi,rfl⟩)
  have hbb:some (E2.blk b)=some (E.blk b):=by rw[hb2.1,hs1]
  have hfp2:∀k,(∃i e,(i,e)∈(b,Ent.box t cells)::R∧e.at Ep i k)→∃i e,(i,e)∈[(b,Ent.abs (lM b (fun _:Unit=>True) t (fun _=>cells) (fun _=>R)))]∧e.at E i k:=fun k ⟨i,e,hi,hk⟩=>⟨b,_,List.mem_singleton.2 rfl,hfp i e k hi hk⟩
  have hX':∀k,(k=E.blk b∨∃i e,(i,e)∈R'∧e.at E2 i k)→S2 k∧((∃i e,(i,e)∈[(b,Ent.abs (lM b (fun _:Unit=>True) t (fun _=>cells) (fun _=>R)))]∧e.at E i k)∨w.heap.size≤k):=fun k hk=>by
   rcases hk with rfl|⟨i,e,hi,hk⟩
   ·have:=hE.blk b _ (E.blk b) List.mem_cons_self hbb;exact⟨this.1,this.2.imp (hfp2 _) id⟩
   ·have:=hE.blk i e k (hq i e hi) hk;exact⟨this.1,this.2.imp (hfp2 _) id⟩
  have hone:∀i e',(i,Slot.ent e')∈[(b,Slot.ent (Ent.abs (lM b (fun _:Unit=>True) t (fun _=>cells') (fun _=>R'))))]→i=b∧e'= .abs (lM b (fun _:Unit=>True) t (fun _=>cells') (fun _=>R')):=fun i e' hi=>by simpa using hi
  refine⟨v,⟨E.blk,E.sl,upd E.fp b fun k=>k=E.blk b∨∃i e,(i,e)∈R'∧e.at E2 i k⟩,S2,he,
   {env:=fun i _=>⟨rfl,rfl⟩,fpe:=fun i hi=>upd_ne _ _ fun e=>hi (.ent (.abs (lM b (fun _:Unit=>True) t (fun _=>cells') (fun _=>R')))) (by simp[e]),sub:=hE.sub,new:=hE.new,lt:=hE.lt,off:=hE.off.mono hfp2,
    res:=hE.res.step (fun i hi=>by rw[hr]at hi;cases hi) (Off.refl _ _) (fun k hk=> .inl hk),ents:=fun i e' hi=>?_,blk:=fun i e' k hi hk=>?_,sep:=fun i i' e1 e2 k hne h1 h2=>?_}⟩
  ·obtain⟨rfl,rfl⟩:=hone i e' hi;show (lM i (fun _:Unit=>True) t (fun _=>cells') (fun _=>R')).has (E.blk i) (E.sl i) (upd E.fp i _ i) S2 w'
   rw[upd_same];obtain⟨cs,g1,g2⟩:=hE.ents i _ List.mem_cons_self;refine⟨(),E2,⟨hb2.1.trans hs1,hb2.2.trans hs2⟩,{φ:=trivial,box:=⟨cs,by rw[←Option.some.inj hbb];exact g1,g2⟩,ents:=fun j e hj=>hE.ents j e (hq j e hj),sep:=fun j j' e e' k hne hj hj'=>hE.sep j j' e e' k hne (hq j e hj) (hq j' e' hj'),sepb:=fun j e hj hk=>?_,X:=fun k=>Iff.rfl}⟩
   by_cases hji:j=i
   ·subst hji;exact hbn e hj
   ·exact hE.sep i j _ e (E.blk i) (fun e=>hji e.symm) List.mem_cons_self (hq j e hj) hbb hk
  ·obtain⟨rfl,rfl⟩:=hone i e' hi;have hk':upd E.fp i _ i k:=hk;rw[upd_same]at hk';exact hX' k hk'
  ·obtain⟨rfl,_⟩:=hone _ _ h1;obtain⟨rfl,_⟩:=hone _ _ h2;exact absurd rfl hne
def akf:AV0→AV0
 | .one (.clo f [])=> .one (.c (.val (.func (.func f) #[] #[])))
 |x=>x
theorem ajY{E:Env}{S:Nat→Prop}{w:World}{x:AV0}{v:Value}(h:x.has E S w v):(akf x).has E S w v:=by
 unfold akf
 split
 ·exact h
 ·exact h
theorem adx{E:Env}{S:Nat→Prop}{w:World}:∀{l:List (Nat×AV0)} {us:List (Nat×Value)},aI (fun p q=>p.1=q.1∧p.2.has E S w q.2) l us→aI (fun p q=>p.1=q.1∧p.2.has E S w q.2) (l.map fun p=>(p.1,akf p.2)) us
 |[],[],_=>trivial
 |_::_,_::_,h=>⟨⟨h.1.1,ajY h.1.2⟩,adx h.2⟩
 |[],_::_,h=>h.elim
 |_::_,[],h=>h.elim
section
variable{P:Program}{C:Ctx}{st:St}
variable{ops rest:List Oper}{acc:List (List Nat×List Nat)}{K:List (List Nat×List Nat)→St→Prop}{dst:Option Tmp}{d:Tmp}{ty t:TypeId}
theorem afc{o:Oper}{st':St}{E:Env}{S:Nat→Prop}{a:Act}{w:World}{e:TypeId}{n size bytes:Nat}{zs:List Value}{parts:Array (Nat×Operand)}{ps:List (Nat×AV0)}{l:List Atom}{m:List CA}[ht:aZ P t e size][he:eH P e zs bytes]
  (hs:lG C st' E S a w) (h3:o.op= .buildSlice t n parts) {ps0:List (Nat×AV0)} (hp':evp st' parts.toList=some ps0) (hps:ps0.map (fun p=>(p.1,akf p.2))=ps) (h1:(ps.all fun p=>p.2.cells.all Atom.dS&&Nat.blt p.1 n)=true) (hn:Nat.ble (n*size) 16777216=true)
  (hfl:eT (placesOf n size) ((madeCells zs.toArray (n*size)).toList.map fun v=>Atom.c (.val v)) ps=some l) (hc:aP l=some m) (hm:Nat.beq m.length (n*size)=true):
  ∃us:List Value,(execOp a.eval o).run P w= .ok (.value (.slice (some ⟨w.heap.size,0,none⟩) n n)) (w.alloc (.cells us.toArray e))∧us.length=n*size∧aI (CA.has S w) m us∧n≤maxLen:=by
  obtain⟨hall0,hids⟩:=sO hs hp';have hall:=adx hall0;rw[hps]at hall;obtain⟨i,z,hi,hz,hcz,hsz,hby⟩:=pG he ht.s;rw[List.all_eq_true]at h1;rw[Nat.ble_eq]at hn;obtain⟨us,hfill,hus⟩:=oL (w:=w) (cs:=(madeCells zs.toArray (n*size)).toList) hall (fun p hp=>by have:=h1 p hp;simp only[Bool.and_eq_true]at this;exact this.1) (jJ _) hfl
  have hlen:us.length=n*size:=by
   have h6:=hus.length;rw[dH hc]at h6;simp at h6
   have:=Nat.eq_of_beq_eq_true hm;omega
  have hqi:∀q∈parts.toList.map (fun x=>(x.1,a.eval x.2)),(fun i=>(placesOf n size)[i]?) q.1=(fun i=>some (i*size,size)) q.1:=by
   intro q hq;obtain⟨j,hj⟩:=List.mem_iff_getElem?.1 hq;obtain⟨p,hpj,hpq,_⟩:=hall.get' hj;have:=h1 p (List.mem_of_getElem? hpj);simp only[Bool.and_eq_true,Nat.blt_eq]at this;have hlt:q.1 < n:=by rw[←hpq];exact this.2
   simp[placesOf,hlt]
  rw[nk (p:=fun i=>(placesOf n size)[i]?) (p':=fun i=>some (i*size,size)) _ _ hqi]at hfill
  refine⟨us,?_,hlen,gW (by rw[←dH hc];exact hus),?_⟩
  ·unfold execOp;rw[h3];have hparts:(parts.map fun x=>(x.1,a.eval x.2)).toList=parts.toList.map fun x=>(x.1,a.eval x.2):=by simp
   have hgt:¬n*size > 2 ^ 24:=by omega
   simp only[Instr.buildSlice,Sem.run_bind,run_underlying ht.h,Result.andThen_ok,run_sizeOf ht.s,hparts];rw[if_neg hgt];by_cases h0:n*size=0
   ·have he0:(madeCells zs.toArray (n*size)).toList.toArray=(Array.range (n*size)).map ((#[]:Array Value)[· % (#[]:Array Value).size]!):=by rw[h0];simp[madeCells]
    rw[he0]at hfill;rw[if_pos h0];simp only[Sem.run_bind,Sem.run_pure,Result.andThen_ok];rw[hfill];simp[newRow]
   ·have he0:(madeCells zs.toArray (n*size)).toList.toArray=(Array.range (n*size)).map (zs.toArray[· % zs.toArray.size]!):=by rw[Array.toArray_toList];rfl
    rw[he0]at hfill;rw[if_neg h0];simp only[Sem.run_bind,Sem.run_pure,Result.andThen_ok,zeroValue,typeInfo,run_program,hi,hz,hcz];rw[hfill];simp[newRow]
  ·by_cases h0:n=0
   ·subst h0;simp[maxLen]
   ·have:=ht.p;have h7:n*1≤n*size:=Nat.mul_le_mul_left _ this;simp only[maxLen];omega
theorem Go1.acQ{dst:Option Tmp}{e:TypeId}{n size bytes:Nat}{zs:List Value}{parts:Array (Nat×Operand)}{ps:List (Nat×AV0)}{l:List Atom}{m:List CA}[ht:aZ P t e size][he:eH P e zs bytes](hd:ay dst C.nt=true)
  {ps0:List (Nat×AV0)} (hp:evp st parts.toList=some ps0) (hps:ps0.map (fun p=>(p.1,akf p.2))=ps) (h1:(ps.all fun p=>p.2.cells.all Atom.dS&&Nat.blt p.1 n)=true) (hn:Nat.ble (n*size) 16777216=true)
  (hfl:eT (placesOf n size) ((madeCells zs.toArray (n*size)).toList.map fun v=>Atom.c (.val v)) ps=some l) (hc:aP l=some m) (hm:Nat.beq m.length (n*size)=true)
  (next:Reg P C ops rest (st.app dst ⟨.r (aM size n m),[]⟩) (([],[])::acc) K):Go1 P C ops dst (.buildSlice t n parts) ty rest st acc K:=by
 refine⟨[],⟨.r (aM size n m),[]⟩,fun o h2 h3 h4=>aT.eff [] [] (fun b hb=>?_) (h2▸dD hd) (fun b e hb=>by cases hb) (fun b e hb=>by cases hb) (fun b s hb=>by cases hb) (fun b s hb=>by cases hb) (fun st' E S a w hev hhp hs _ _=>?_),next⟩
 ·rcases hb with⟨e,hb⟩|⟨e,hb⟩|⟨s,hb⟩ <;> cases hb
 ·have hp':evp st' parts.toList=some ps0:=by
   rw[kW (fun x hx=>hev x.2 (by rw[h3];simp[Op.operands];exact⟨x.1,by simpa using hx⟩))];exact hp
  obtain⟨us,hrun,hlen,hall,hmx⟩:=afc (ht:=ht) (he:=he) hs h3 hp' hps h1 hn hfl hc hm;refine⟨⟨fun i hi=>(by cases hi),fun b e hb=>by cases hb⟩,fun K Q hK=>?_⟩
  unfold Oper.wp;rw[hrun];refine hK _ _ E S {env:=fun _ _=>⟨rfl,rfl⟩,fpe:=fun _ _=>rfl,sub:=fun _ h=>h,new:=fun _ h=> .inl h,lt:=fun k hk=>Nat.lt_of_lt_of_le (hs.lt k hk) (by simp),off:=Off.alloc _ _ _,res:=?_,ents:=fun _ _ h=>(by cases h),blk:=fun _ _ _ h=>(by cases h),sep:=fun _ _ _ _ _ _ h=>(by cases h)}
  refine bB.2 ⟨_,_,rfl,Nat.le_refl _,hmx,(fun h=>by cases h),(by rw[hall.length,hlen]),fun i c hc=>?_⟩
  obtain⟨u,hu,huc⟩:=hall.get hc;refine⟨w.heap.size,0,u,rfl,fun hS=>absurd (hs.lt _ hS) (Nat.lt_irrefl _),?_,huc.step (Off.alloc _ _ _) (fun k hk=> .inl hk)⟩
  have hcell:=cells_of_block (heap_alloc_new w (.cells us.toArray e)) 0 i u (by simpa using hu)
  simpa[Addr.add_lit]using hcell
end
end
section
open Go Go.RowKit Go.ChangeShapes Go.WideShapes Go.ChangeAt Go.Joins
section
variable{H:Type}{enc:TypeId×Value→H}{P:Program}{W:World}{base:Nat}{sp:Nat→Bool}{hd:Bool}
end
end
section
open Go Go.RowKit
section
section
variable{P:Program}{C:Ctx}{ops:Array Oper}{ods:List (Oper×Dec)}{st:St}{Q:Exit→Act→World→Prop}
theorem aeS(hops:ops.toList=ods.map (·.1))(hc:check ops (ods.map fun p=>foot p.2)=true)
  (hwp:∀(i:Nat) (o:Oper) (d:Dec),ods[i]? =some (o,d)→∀L:Nat→Bool,
   (∀t∈o.looksAt ops,(dY L 0 ods st).tm t=(dY (fun k=>decide (k < i)) 0 ods st).tm t)→
   (∀b∈d.fp,(dY L 0 ods st).hp b=(dY (fun k=>decide (k < i)) 0 ods st).hp b)→
   ∀a w,Sat C (dY L 0 ods st) a w→∀K:Act→World→Prop,(∀a w,Sat C (d.app o (dY L 0 ods st)) a w→K a w)→wpOp P ops Q i K a w)
  (hQ:∀a w,Sat C (dY (fun _=>true) 0 ods st) a w→Q .normal a w):
  ∀(fuel:Nat) (listed:Array Bool) (a:Act) (w:World),listed.size=ods.length→listed.toList.count false=fuel→
   (∀j k,listed.getD j false=true→bef ops.toList j k=true→listed.getD k false=true)→
   Sat C (dY (fun k=>listed.getD k false) 0 ods st) a w→wpAny P .any ops Q fuel listed a w:=by
 have hsz:ods.length=ops.size:=by have:=congrArg List.length hops;simpa using this.symm
 have hat:∀(i:Nat) (o:Oper) (d:Dec),ods[i]? =some (o,d)→ops[i]? =some o:=by
  intro i o d h;rw[←Array.getElem?_toList,hops,List.getElem?_map,h];rfl
 unfold check at hc;rw[Bool.and_eq_true]at hc;have hz:∀(i:Nat) (o:Oper) (d:Dec),ods[i]? =some (o,d)→(ops.toList.zip (ods.map fun p=>foot p.2))[i]? =some (o,foot d):=by
  intro i o d h;rw[List.getElem?_zip_eq_some]
  exact⟨by rw[Array.getElem?_toList];exact hat i o d h,by rw[List.getElem?_map,h];rfl⟩
 have hpair:∀(i j:Nat) (o:Oper) (d:Dec) (p:Oper) (e:Dec),i < j→ods[i]? =some (o,d)→ods[j]? =some (p,e)→bef ops.toList j i=true∨(o.apart ops p=true∧far (foot d) (foot e)=true):=by
  intro i j o d p e hij h1 h2;obtain⟨⟨m,hm,h3⟩,_,_⟩:=fJ _ [] _ hc.2 j p (foot e) (hz j p e h2);have:=mo _ 0 h3 i o (foot d) (by rw[List.nil_append,List.getElem?_take,if_pos hij];exact hz i o d h1)
  rw[Nat.zero_add]at this;refine this.imp (fun h=>?_) id
  unfold bef;rw[List.getD_eq_getElem?_getD,hm];exact h
 have hwr:∀(i:Nat) (o:Oper) (d:Dec),ods[i]? =some (o,d)→∀x∈d.wr,x∈d.fp:=fun i o d h=>(fJ _ [] _ hc.2 i o (foot d) (hz i o d h)).2.1
 have hed:∀(i:Nat) (o:Oper) (d:Dec),ods[i]? =some (o,d)→∀e∈o.after,Region.binds .any e=true→e.on < i:=fun i o d h e he hb=>by
  have:=(fJ _ [] _ hc.2 i o (foot d) (hz i o d h)).2.2 e he hb;simpa using this
 intro fuel;have fin:∀(listed:Array Bool) (a:Act) (w:World),listed.size=ods.length→(∀i,i < ods.length→listed.getD i false=true)→Sat C (dY (fun k=>listed.getD k false) 0 ods st) a w→Q .normal a w:=by
  intro listed a w _ hall hs;refine hQ a w ?_
  rwa [iV _ (fun k=>listed.getD k false) ods 0 st (fun k _ hk=>(hall k (by omega)).symm)]
 have empty:∀(listed:Array Bool),listed.size=ods.length→Region.ready .any ops listed=[]→∀i,i < ods.length→listed.getD i false=true:=by
  intro listed hls hr i
  induction i using Nat.strongRecOn with
  |_ i ih=>
   intro hi;obtain⟨o,d,ho⟩:=mem_some hi;cases hli:listed.getD i false with
   |true=>rfl
   |false=>
    have:i∈Region.ready .any ops listed:=by
     rw[mem_ready];refine⟨?_,o,hat i o d ho,fun e he hb=>ih e.on (hed i o d ho e he hb) (Nat.lt_trans (hed i o d ho e he hb) hi)⟩
     have h9:i < listed.size:=by omega
     simp[h9]at hli ⊢
     exact hli
    rw[hr]at this;cases this
 induction fuel with
 |zero=>
  intro listed a w hls hcnt hcl hs;have hall:∀i,i < ods.length→listed.getD i false=true:=by
   intro i hi;have:=qL _ hcnt i (by simpa using(by omega:i < listed.size))
   simp only[Array.getElem?_toList]at this
   simp[this]
  refine⟨?_,fin listed a w hls hall hs⟩;cases hr:Region.ready .any ops listed with
  |nil=>rfl
  |cons i r=>
   have hi:i∈Region.ready .any ops listed:=by rw[hr];simp
   rw[mem_ready]at hi;obtain⟨h0,o,ho,_⟩:=hi;have hlt:i < ods.length:=by rw[hsz];exact(Array.getElem?_eq_some_iff.1 ho).1
   have h1:=hall i hlt;have h9:i < listed.size:=by omega
   simp[h9]at h0 h1
   rw[h0]at h1;cases h1
 |succ fuel ih=>
  intro listed a w hls hcnt hcl hs;refine⟨fun hr=>fin listed a w hls (empty listed hls hr) hs,fun i hi=>?_⟩
  rw[mem_ready]at hi;obtain⟨h0,o',ho',hedge⟩:=hi;have hlt:i < ods.length:=by rw[hsz];exact(Array.getElem?_eq_some_iff.1 ho').1
  obtain⟨o,d,hod⟩:=mem_some hlt;have hoo:o'=o:=by rw[hat i o d hod]at ho';exact(Option.some.inj ho').symm
  subst hoo;have hli:i < listed.size:=by omega
  have hfalse:listed.getD i false=false:=by simp[hli]at h0 ⊢;exact h0
  -- all that must come before i is done
  have hbefore:∀k,bef ops.toList i k=true→listed.getD k false=true:=by
   intro k hk;obtain⟨e,he,hb,h⟩:=aec (by rw[Array.getElem?_toList];exact ho') hk
   have h1:=hedge e he hb;rcases h with h|h
   ·rw[←h];exact h1
   ·exact hcl e.on k h1 h
  -- what i meets of those done behind it in the text lies apart
  have hafter:∀(k:Nat) (p:Oper) (e:Dec),i < k→ods[k]? =some (p,e)→listed.getD k false=true→o'.apart ops p=true∧far (foot d) (foot e)=true:=by
   intro k p e hik hk hL;rcases hpair i k o' d p e hik hod hk with h|h
   ·have:=hcl k i hL h;rw[hfalse]at this;cases this
   ·exact h
  have hwho:∀(k:Nat) (p:Oper) (e:Dec),ods[k]? =some (p,e)→¬(k≠i∧((k < i→p.apart ops o'=true∧far (foot e) (foot d)=true)∧(i < k→o'.apart ops p=true∧far (foot d) (foot e)=true)))→decide (k < i)=listed.getD k false:=by
   intro k p e hk hconf;rcases Nat.lt_trichotomy k i with hlt'|heq|hgt
   ·rw[decide_eq_true hlt'];rcases hpair k i p e o' d hlt' hk hod with h|h
    ·exact(hbefore k h).symm
    ·exact absurd ⟨by omega,fun _=>h,fun h'=>by omega⟩ hconf
   ·subst heq;rw[hfalse];simp
   ·rw[decide_eq_false (by omega)]
    cases hL:listed.getD k false with
    |false=>rfl
    |true=>exact absurd ⟨by omega,fun h'=>by omega,fun _=>hafter k p e hgt hk hL⟩ hconf
  refine hwp i o' d hod _ (fun t ht=>?_) (fun b hb=>?_) a w hs _ (fun a' w' hs'=>?_)
  ·refine sI _ t ods 0 st st rfl _ (fun k p e hk hdst=>?_)
   rw[Nat.zero_add];refine(hwho k p e hk (fun⟨hne,h1,h2⟩=>?_)).symm
   rcases Nat.lt_or_gt_of_ne hne with hlt'|hgt
   ·exact(Oper.apart_spec (h1 hlt').1).1 t hdst ht
   ·exact(Oper.apart_spec (h2 hgt).1).2.2 t hdst ht
  ·refine sS _ b ods 0 st st rfl _ (fun k p e hk hw=>?_)
   rw[Nat.zero_add];refine(hwho k p e hk (fun⟨hne,h1,h2⟩=>?_)).symm
   rcases Nat.lt_or_gt_of_ne hne with hlt'|hgt
   ·have:=(h1 hlt').2;unfold far at this;rw[Bool.and_eq_true]at this;exact mR this.1 hw hb
   ·have:=(h2 hgt).2;unfold far at this;rw[Bool.and_eq_true]at this;exact mR this.2 hw hb
  ·refine ih (listed.setIfInBounds i true) a' w' (by simpa using hls) ?_ ?_ ?_
   ·rw[Array.toList_setIfInBounds];have:=count_set listed.toList i (by
     rw[Array.getElem?_toList]
     simp[hli]at h0 ⊢
     exact h0)
    omega
   ·intro j k hj hjk;by_cases hji:j=i
    ·subst hji;exact getD_set_true (hbefore k hjk)
    ·rw[getD_set_ne false (fun e=>hji e.symm)]at hj
     exact getD_set_true (hcl j k hj hjk)
   ·have hsplit:ods=ods.take i++(o',d)::ods.drop (i+1):=by
     have:ods.drop i=(o',d)::ods.drop (i+1):=by
      have h9:=List.drop_eq_getElem_cons hlt;rw[List.getElem?_eq_getElem hlt]at hod
      rw[h9,Option.some.inj hod]
     rw[←this,List.take_append_drop]
    have hlen:(ods.take i).length=i:=by simp;omega
    have e1:dY (fun k=>(listed.setIfInBounds i true).getD k false) 0 ods st=d.app o' (dY (fun k=>listed.getD k false) 0 ods st):=by
     rw[hsplit,kg,kg,hlen,Nat.zero_add];have hti:(listed.setIfInBounds i true).getD i false=true:=by simp[hli]
     rw[iV (fun k=>(listed.setIfInBounds i true).getD k false) (fun k=>listed.getD k false) (ods.take i) 0 st (fun k _ hk=>by
      rw[hlen]at hk;exact getD_set_ne false (by omega))]
     simp only[dY,hti,hfalse];rw[iV (fun k=>(listed.setIfInBounds i true).getD k false) (fun k=>listed.getD k false) (ods.drop (i+1)) (i+1) _ (fun k hk _=>getD_set_ne false (by omega))]
     exact uz ops _ o' d (hwr i o' d hod) (ods.drop (i+1)) (i+1) _ (fun k p e hk hL=>hafter (i+1+k) p e (by omega) (by rw[List.getElem?_drop]at hk;exact hk) hL)
    rw[e1];exact hs'
end
theorem vT(L:Nat→Bool)(d':Dec):∀(l:List (Oper×Dec)) (k i:Nat) (o:Oper) (d:Dec) (st:St),l[i]? =some (o,d)→(∀s,d'.app o s=d.app o s)→
  dY L k (l.set i (o,d')) st=dY L k l st
 |[],_,i,_,_,_,h,_=>by simp at h
 |(p,e)::l,k,0,o,d,st,h,hd=>by
  simp only[List.getElem?_cons_zero,Option.some.injEq,Prod.mk.injEq]at h
  obtain⟨rfl,rfl⟩:=h;simp only[List.set_cons_zero,dY,hd]
 |(p,e)::l,k,i+1,o,d,st,h,hd=>by
  simp only[List.set_cons_succ,dY];exact vT L d' l (k+1) i o d _ (by simpa using h) hd
theorem akl{ods:List (Oper×Dec)}{st:St}{b j:Nat}(hw:∀k o d,ods[k]? =some (o,d)→b∈d.wr→k=j)(L:Nat→Bool):
  (dY L 0 ods st).hp b=st.hp b∨(dY L 0 ods st).hp b=(dY (fun _=>true) 0 ods st).hp b:=by
 cases hj:L j with
 |true=>
  refine .inr (sS L b ods 0 st st rfl _ (fun k o d hk hb=>?_))
  rw[Nat.zero_add,hw k o d hk hb,hj]
 |false=>
  refine .inl ?_;rw[sS L b ods 0 st st rfl (fun _=>false) (fun k o d hk hb=>by rw[Nat.zero_add,hw k o d hk hb,hj]),jR _ _ _ _ (fun _ _=>rfl)]
theorem adU:∀(l:List (Oper×Dec)) (k i:Nat) (st:St) (o:Oper) (fp:List Nat) (out:Out) (dd:Tmp),l[i]? =some (o,.run fp out)→o.dst=some dd→
  (∀m o' d',l[m]? =some (o',d')→o'.dst=some dd→m=i)→(dY (fun _=>true) k l st).tm dd=some out.res
 |[],_,i,_,_,_,_,_,h,_,_=>by simp at h
 |(p,e)::l,k,0,st,o,fp,out,dd,h,hd,hu=>by
  simp only[List.getElem?_cons_zero,Option.some.injEq,Prod.mk.injEq]at h
  obtain⟨rfl,rfl⟩:=h;simp only[dY];rw[sI (fun _=>true) dd l (k+1) _ _ rfl (fun _=>false) (fun m o' d' hm hdd=>by
   have:=hu (m+1) o' d' (by simpa using hm) hdd
   omega),jR _ _ _ _ (fun _ _=>rfl)]
  show aak st.tm p.dst (some out.res) dd=_;rw[hd];show upd st.tm dd (some out.res) dd=_;simp[upd]
 |(p,e)::l,k,i+1,st,o,fp,out,dd,h,hd,hu=>by
  simp only[dY];exact adU l (k+1) i _ o fp out dd (by simpa using h) hd (fun m o' d' hm hdd=>by
   have:=hu (m+1) o' d' (by simpa using hm) hdd
   omega)
section
variable{P:Program}{C:Ctx}{st:St}{Q:Exit→St→Prop}
theorem WP.ajq{id:Nat}{l:List Oper}(i b j:Nat)(lo:Oper)(dd:Tmp)(r:AV)(hm:P.follows .mixedOrders=true)
  (hlo:l[i]? =some lo) (hdst:lo.dst=some dd) (hg:lo.guard=none)
  (huniq:∀k o,l[k]? =some o→o.dst=some dd→k=i)
  (hops:∀k o t,i≤k→l[k]? =some o→o.dst=some t→t∉lo.looksAt l.toArray)
  (h:Reg P C l l st [] (fun feet st'=>feet[i]? =some ([b],[])∧(∀k f,feet[k]? =some f→b∈f.2→k=j)∧st'.tm dd=some r∧
   (∀s2:St,(s2.hp b=st.hp b∨s2.hp b=st'.hp b)→(∀t∈lo.looksAt l.toArray,s2.tm t=st'.tm t)→aT P C lo s2 [b] ⟨r,[]⟩)∧
   check l.toArray (feet.set i ([],[]))=true∧Q .normal st')):WP P C (.region id l.toArray true) st Q:=fun a w hs=>by
 obtain⟨ods,st',h1,h2,hf,hw,hr,hL,hc,hQ⟩:=h;obtain⟨h4,h5⟩:=alD ods 0 st st' h2;rw[List.reverse_nil,List.nil_append]at hf hw hc;have hl:ods.length=l.length:=by have:=congrArg List.length h1;simpa using this
 have hat:∀(k:Nat) (o:Oper) (d:Dec),ods[k]? =some (o,d)→l[k]? =some o:=fun k o d hk=>by
  rw[←h1,List.getElem?_map,hk];rfl
 obtain⟨d,hod⟩:∃d,ods[i]? =some (lo,d):=by
  rw[←h1,List.getElem?_map]at hlo
  cases hx:ods[i]? with
  |none=>rw[hx]at hlo;cases hlo
  |some p=>rw[hx]at hlo;cases hlo;exact⟨p.2,rfl⟩
 have hfd:foot d=([b],[]):=by
  rw[List.getElem?_map,hod]at hf
  exact Option.some.inj hf
 cases d with
 |skip=>cases hfd
 |run fp out=>
  obtain⟨v,hp⟩:=out;have hfp:fp=[b]:=congrArg Prod.fst hfd;have hhp:hp=[]:=by
   have:hp.map (·.1)=[]:=congrArg Prod.snd hfd;simpa using this
  subst hfp;subst hhp;have hv:v=r:=by
   have:=adU ods 0 i st lo [b] ⟨v,[]⟩ dd hod hdst (fun m o' d' hm' hdd=>huniq m o' (hat m o' d' hm') hdd)
   rw[←h5,hr]at this;exact(Option.some.inj this).symm
  subst hv;have hset:∀L,dY L 0 (ods.set i (lo,.run [] ⟨v,[]⟩)) st=dY L 0 ods st:=fun L=>vT L _ ods 0 i lo _ st hod (fun _=>rfl)
  have hil:i < ods.length:=by
   rw[List.getElem?_eq_some_iff]at hod;exact hod.1
  have hrep:∀k,(Array.replicate l.toArray.size false).getD k false=false:=fun k=>by
   rw[Array.getD_eq_getD_getElem?,Array.getElem?_replicate];split <;> rfl
  refine wp_region_any hm (aeS (C:=C) (ods:=ods.set i (lo,.run [] ⟨v,[]⟩)) (st:=st) ?_ ?_ ?_ (fun a w hs'=>⟨st',hQ,by rw[h5,←hset];exact hs'⟩) l.toArray.size _ a _ (by simp[hl]) (by simp) (fun j k hj=>?_) ?_)
  ·show l=_;rw[List.map_set,h1];obtain⟨hi,e⟩:=List.getElem?_eq_some_iff.1 hlo
   have:l.set i lo=l:=by rw[←e];exact List.set_getElem_self hi
   exact this.symm
  ·rw[List.map_set];exact hc
  ·intro k o d hk L htm hhb a w hs K hK;rw[hset]at hs hK;by_cases hki:k=i
   ·subst hki;rw[List.getElem?_set_self hil]at hk
    cases hk;have hOp:=hL (dY L 0 ods st) (by
     rw[h5];exact akl (fun m o d hm' hb=>hw m (foot d) (by rw[List.getElem?_map,hm'];rfl) hb) L) (fun t ht=>by
     have:=htm t ht;rw[hset,hset]at this;rw[this,h5];refine sI _ t ods 0 st st rfl _ (fun m o d hm' hd=>?_)
     rw[Nat.zero_add];refine decide_eq_true ?_;refine Nat.lt_of_not_le fun hle=>hops m o t hle (hat m o d hm') hd ht)
    refine aci (ops:=l.toArray) (i:=k) (d:= .run [b] ⟨v,[]⟩) (st:=dY L 0 ods st) (by simpa using hlo) ⟨by unfold Guard;rw[hg],hOp⟩ (fun _ _=>rfl) (fun _ _=>rfl) hs hK
   ·rw[List.getElem?_set_ne (fun e=>hki e.symm)]at hk
    refine aci (ops:=l.toArray) (i:=k) (by simpa using hat k o d hk) (by simpa using h4 k o d hk) (fun t ht=>?_) (fun b hb=>?_) hs hK
    ·have:=htm t ht;rw[hset,hset]at this;exact this
    ·have:=hhb b hb;rw[hset,hset]at this;exact this
  ·rw[hrep]at hj;cases hj
  ·rw[jR _ _ _ _ (fun k _=>hrep k)]
   exact hs.drew
end
def tH(dd i:Nat):Nat→List Oper→Bool
 |_,[]=>true
 |k,o::l=>(!(o.dst==some dd)||k==i)&&tH dd i (k+1) l
theorem qZ{dd i:Nat}:∀(l:List Oper) (n:Nat),tH dd i n l=true→∀k o,l[k]? =some o→o.dst=some dd→n+k=i
 |[],_,_,k,o,h,_=>by simp at h
 |p::l,n,h,0,o,hk,hd=>by
  simp only[List.getElem?_cons_zero,Option.some.injEq]at hk
  subst hk;simp only[tH,Bool.and_eq_true,hd]at h;have:=h.1;simp at this
  omega
 |p::l,n,h,k+1,o,hk,hd=>by
  simp only[tH,Bool.and_eq_true]at h;have:=qZ l (n+1) h.2 k o (by simpa using hk) hd
  omega
theorem anx{l:List Oper}{dd i:Nat}(h:tH dd i 0 l=true):∀k o,l[k]? =some o→o.dst=some dd→k=i:=fun k o h1 h2=>by
 have:=qZ l 0 h k o h1 h2;omega
theorem aoZ{l:List Oper}{lo:Oper}{i:Nat}(ts:List Nat)(h0:∀t∈lo.looksAt l.toArray,t∈ts)(h:((l.drop i).all fun o=>ts.all fun t=>!(o.dst==some t))=true):
  ∀k o t,i≤k→l[k]? =some o→o.dst=some t→t∉lo.looksAt l.toArray:=fun k o t hk ho hd ht=>by
 have h1:=List.all_eq_true.1 h o (by
  rw[List.mem_iff_getElem?];exact⟨k - i,by rw[List.getElem?_drop,show i+(k - i)=k by omega];exact ho⟩)
 have h2:=List.all_eq_true.1 h1 t (h0 t ht);rw[hd]at h2;simp at h2
def acC(b j:Nat):Nat→List (List Nat×List Nat)→Bool
 |_,[]=>true
 |k,f::l=>(!f.2.contains b||k==j)&&acC b j (k+1) l
theorem yT{b j:Nat}:∀(l:List (List Nat×List Nat)) (n:Nat),acC b j n l=true→∀k f,l[k]? =some f→b∈f.2→n+k=j
 |[],_,_,k,o,h,_=>by simp at h
 |p::l,n,h,0,o,hk,hd=>by
  simp only[List.getElem?_cons_zero,Option.some.injEq]at hk
  subst hk;simp only[acC,Bool.and_eq_true]at h;have:=h.1;simp[hd]at this
  omega
 |p::l,n,h,k+1,o,hk,hd=>by
  simp only[acC,Bool.and_eq_true]at h;have:=yT l (n+1) h.2 k o (by simpa using hk) hd
  omega
theorem akR{l:List (List Nat×List Nat)}{b j:Nat}(h:acC b j 0 l=true):∀k f,l[k]? =some f→b∈f.2→k=j:=fun k f h1 h2=>by
 have:=yT l 0 h k f h1 h2;omega
end
theorem G.alE{P:Program}{C:Ctx}{st:St}{b off:Nat}{T t:TypeId}{cells:List Atom}{c:Atom}{d:Tmp}{x:Operand}[ht:gU P t]{lo:Oper}(h1:lo.dst=some d)(h2:lo.op= .load t x)(hd:ay (some d) C.nt=true)
  (hx:st.ev x=some (.ptr b off)) (hb:st.hp b= .ent (.box T cells)) (hr:cells[off]? =some c):aT P C lo st [b] ⟨.it (.one c),[]⟩:=by
 have h0:Go1 P C [] (some d) (.load t x) lo.type [] st [] (fun feet st'=>feet=[([b],[])]∧st'.tm d=some (.it (.one c))):=
  G.zO (Reg.nil ⟨rfl,by show upd st.tm d (some (.it (.one c))) d=_;simp[upd]⟩) hd hx hb hr
 obtain⟨fp,out,h,ods,st',e1,e2,e3,e4⟩:=h0;cases ods with
 |cons p l=>cases e1
 |nil=>
  have e5:st.app (some d) out=st':=e2;subst e5;obtain⟨v,hp⟩:=out;have e6:upd st.tm d (some v) d=some (.it (.one c)):=e4;have e7:v= .it (.one c):=by simpa[upd]using e6
  have e8:fp=[b]∧hp=[]:=by simpa using e3
  obtain⟨rfl,rfl⟩:=e8;subst e7;exact h lo h1 h2 rfl
end
end SX