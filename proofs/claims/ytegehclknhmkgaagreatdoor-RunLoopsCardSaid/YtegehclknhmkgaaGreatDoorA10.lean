import Derived.Test.YtegehclknhmkgaaGreatDoorA9
import Derived.Lib.SliceRun
import Derived.MapKept
set_option linter.unusedVariables false
set_option linter.unusedSimpArgs false
namespace SX
open Go Go.RowKit
section
class AsZero(zs:List Value)(cells:outParam (List CA)):Prop where
 h:∀S w,aI (CA.has S w) cells zs
section
variable{P:Program}{C:Ctx}{st:St}
variable{ops rest:List Oper}{acc:List (List Nat×List Nat)}{K:List (List Nat×List Nat)→St→Prop}{dst:Option Tmp}{d:Tmp}{op:Op}{ty t t':TypeId}{x y z:Operand}
end
end
section
section
variable{P:Program}{C:Ctx}{st:St}
variable{ops rest:List Oper}{acc:List (List Nat×List Nat)}{K:List (List Nat×List Nat)→St→Prop}{dst:Option Tmp}{d:Tmp}{op:Op}{ty t t':TypeId}{x y z:Operand}
end
structure HeldK(q:Prop):Prop where
 out:q
end
section
section
variable{P:Program}{C:Ctx}{st:St}
variable{ops rest:List Oper}{acc:List (List Nat×List Nat)}{K:List (List Nat×List Nat)→St→Prop}{dst:Option Tmp}{d:Tmp}{op:Op}{ty t t':TypeId}{x y z:Operand}
end
end
section
def lI(S:Nat→Prop)(w:World)(p:List UInt8×List CA)(e:MapEntry):Prop:=e.key=str p.1∧∃us:List Value,e.val= .agg us.toArray∧aI (CA.has S w) p.2 us
theorem lI.step{S S':Nat→Prop}{w w':World}{p:List UInt8×List CA}{e:MapEntry}(h:lI S w p e)(ho:Off S w w')(hs:∀k,S' k→S k∨w.heap.size≤k):lI S' w' p e:=by
 obtain⟨h1,us,h2,h3⟩:=h;exact⟨h1,us,h2,h3.mono fun a u _ ha=>ha.step ho hs⟩
def gI(l:List (List UInt8×List CA)):lD where
 has _ v X S w:=∃r es clock,v= .map (some r)∧(∀k,X k↔k=r)∧w.heap[r]? =some (.map es clock)∧aI (lI S w) l es.toList
 step:=fun {b v X S S' w w'} ⟨r,es,clock,h1,h2,h3,h4⟩ ho hs hX=>
  ⟨r,es,clock,h1,h2,by rw[hX r ((h2 r).2 rfl)];exact h3,h4.mono fun a u _ ha=>ha.step ho hs⟩
def dF{β:Type}:List (List UInt8×β)→List UInt8→Option β
 |[],_=>none
 |(k,c)::l,s=>if s=k then some c else dF l s
def eG{β:Type}:List (List UInt8×β)→List UInt8→β→List (List UInt8×β)
 |[],s,c=>[(s,c)]
 |(k,d)::l,s,c=>if s=k then(k,c)::l else(k,d)::eG l s c
theorem sN(s t:List UInt8):Instr.sameNow .string (str s) (str t)=some (decide (s=t)):=by
 show some ((⟨⟨s⟩⟩:ByteArray)==⟨⟨t⟩⟩)=_;have e:((⟨⟨s⟩⟩:ByteArray)==⟨⟨t⟩⟩)=((⟨s⟩:Array UInt8)==⟨t⟩):=rfl;rw[e]
 congr 1
 rw[Bool.eq_iff_iff,beq_iff_eq,decide_eq_true_iff];constructor
 ·intro h;injection h
 ·rintro rfl;rfl
theorem aar{S:Nat→Prop}{w:World}{s:List UInt8}:∀{l:List (List UInt8×List CA)} {es:List MapEntry} (i:Nat),aI (lI S w) l es→dF l s=none→Instr.findNow .string (str s) es i=some none
 |[],[],_,_,_=>rfl
 |(k,c)::l,e::es,i,h,hn=>by
  obtain⟨⟨h1,_⟩,h2⟩:=h;unfold dF at hn;by_cases hk:s=k
  ·rw[if_pos hk]at hn;cases hn
  ·rw[if_neg hk]at hn;unfold Instr.findNow;rw[h1];show (match Instr.sameNow .string (str s) (str k)with|some true=>some (some (i,e.val))|some false=>Instr.findNow .string (str s) es (i+1)|none=>none)=_
   rw[sN,decide_eq_false hk];exact aar (i+1) h2 hn
 |[],_::_,_,h,_=>h.elim
 |_::_,[],_,h,_=>h.elim
theorem aaL{S:Nat→Prop}{w:World}{s:List UInt8}{c:List CA}:∀{l:List (List UInt8×List CA)} {es:List MapEntry} (i:Nat),aI (lI S w) l es→dF l s=some c→∃j us,Instr.findNow .string (str s) es i=some (some (i+j,.agg us))∧aI (CA.has S w) c us.toList∧(∃e,es[j]? =some e∧e.key=str s)
 |[],[],_,_,hn=>by cases hn
 |(k,d)::l,e::es,i,h,hn=>by
  obtain⟨⟨h1,us,h3,h4⟩,h2⟩:=h;unfold dF at hn;by_cases hk:s=k
  ·rw[if_pos hk]at hn;cases hn;refine⟨0,us.toArray,?_,by simpa using h4,e,rfl,by rw[h1,hk]⟩
   unfold Instr.findNow;rw[h1];show (match Instr.sameNow .string (str s) (str k)with|some true=>some (some (i,e.val))|some false=>Instr.findNow .string (str s) es (i+1)|none=>none)=_
   rw[sN,decide_eq_true hk,h3];rfl
  ·rw[if_neg hk]at hn;obtain⟨j,vs,g1,g2,e',g3,g4⟩:=aaL (i+1) h2 hn;refine⟨j+1,vs,?_,g2,e',g3,g4⟩;unfold Instr.findNow;rw[h1];show (match Instr.sameNow .string (str s) (str k)with|some true=>some (some (i,e.val))|some false=>Instr.findNow .string (str s) es (i+1)|none=>none)=_
   rw[sN,decide_eq_false hk];show Instr.findNow .string (str s) es (i+1)=_;rw[g1,show i+1+j=i+(j+1)by omega]
 |[],_::_,_,h,_=>h.elim
 |_::_,[],_,h,_=>h.elim
theorem acW{S:Nat→Prop}{w:World}{s:List UInt8}{c:List CA}{e:MapEntry}(he:lI S w (s,c) e):∀{l:List (List UInt8×List CA)} {es:List MapEntry},aI (lI S w) l es→dF l s=none→aI (lI S w) (eG l s c) (es++[e])
 |[],[],_,_=>⟨he,trivial⟩
 |(k,d)::l,f::es,h,hn=>by
  unfold dF at hn;by_cases hk:s=k
  ·rw[if_pos hk]at hn;cases hn
  ·rw[if_neg hk]at hn;unfold eG;rw[if_neg hk];exact⟨h.1,acW he h.2 hn⟩
 |[],_::_,h,_=>h.elim
 |_::_,[],h,_=>h.elim
theorem adr{S:Nat→Prop}{w:World}{s:List UInt8}{c d:List CA}:∀{l:List (List UInt8×List CA)} {es:List MapEntry} (i:Nat),aI (lI S w) l es→dF l s=some d→
  ∃j v,Instr.findNow .string (str s) es i=some (some (i+j,v))∧(∃e,es[j]? =some e∧e.key=str s)∧∀e,lI S w (s,c) e→aI (lI S w) (eG l s c) (es.set j e)
 |[],[],_,_,hn=>by cases hn
 |(k,d)::l,e::es,i,h,hn=>by
  obtain⟨⟨h1,us,h3,h4⟩,h2⟩:=h;unfold dF at hn;by_cases hk:s=k
  ·rw[if_pos hk]at hn;refine⟨0,e.val,?_,⟨e,rfl,by rw[h1,hk]⟩,fun f hf=>?_⟩
   ·unfold Instr.findNow;rw[h1];show (match Instr.sameNow .string (str s) (str k)with|some true=>some (some (i,e.val))|some false=>Instr.findNow .string (str s) es (i+1)|none=>none)=_
    rw[sN,decide_eq_true hk];rfl
   ·unfold eG;rw[if_pos hk];subst hk;exact⟨hf,h2⟩
  ·rw[if_neg hk]at hn;obtain⟨j,v,g1,⟨e',g3,g4⟩,g5⟩:=adr (c:=c) (i+1) h2 hn;refine⟨j+1,v,?_,⟨e',g3,g4⟩,fun f hf=>?_⟩
   ·unfold Instr.findNow;rw[h1];show (match Instr.sameNow .string (str s) (str k)with|some true=>some (some (i,e.val))|some false=>Instr.findNow .string (str s) es (i+1)|none=>none)=_
    rw[sN,decide_eq_false hk];show Instr.findNow .string (str s) es (i+1)=_;rw[g1,show i+1+j=i+(j+1)by omega]
   ·unfold eG;rw[if_neg hk];exact⟨⟨h1,us,h3,h4⟩,g5 f hf⟩
 |[],_::_,_,h,_=>h.elim
 |_::_,[],_,h,_=>h.elim
class ai0(P:Program)(t:TypeId)(zs:outParam (List Value)):Prop where
 h:∃k e,P.underlying t=some (.map k e)∧P.underlying k=some .string∧(P.info? e).map (·.zero)=some (some (.agg zs.toArray))
theorem pz(s:List UInt8):Go.MapKept.IsKey .string (str s):=by
 first|exact trivial|simp[Go.MapKept.IsKey,str]
section
variable{P:Program}{t:TypeId}{zs:List Value}[ht:ai0 P t zs]{w:World}{r:Nat}{es:Array MapEntry}{clock:Nat}{S:Nat→Prop}{l:List (List UInt8×List CA)}{s:List UInt8}
include ht
theorem abp{c:List CA}(hb:w.heap[r]? =some (.map es clock))(ha:aI (lI S w) l es.toList)(hl:dF l s=some c):
  ∃us:List Value,(Instr.lookup t (.map (some r)) (str s) true).run P w= .ok (.tuple #[.agg us.toArray,.bool true]) w∧aI (CA.has S w) c us:=by
 obtain⟨k,e,hm,hk,hz⟩:=ht.h;obtain⟨j,us,h1,h2,_⟩:=aaL 0 ha hl;refine⟨us.toList,?_,h2⟩;unfold Instr.lookup;simp[run_underlying hm,Go.MapKept.run_getObj_map hb,Go.MapKept.run_checkKey hk (pz s),Go.MapKept.run_findKey hk h1]
theorem al8{c:List CA}{us:List Value}(hb:w.heap[r]? =some (.map es clock))(ha:aI (lI S w) l es.toList)(hu:aI (CA.has S w) c us):
  ∃es' clock',(Instr.mapUpdate t (.map (some r)) (str s) (.agg us.toArray)).run P w= .ok () {w with heap:=w.heap.setIfInBounds r (.map es' clock')}∧aI (lI S w) (eG l s c) es'.toList:=by
 obtain⟨k,e,hm,hk,hz⟩:=ht.h;cases hl:dF l s with
 |none=>
  have h1:=aar (s:=s) 0 ha hl;refine⟨es.push {key:=str s,val:= .agg us.toArray,born:=clock},clock+1,?_,?_⟩
  ·unfold Instr.mapUpdate;simp[run_underlying hm,Go.MapKept.run_getObj_map hb,Go.MapKept.run_checkKey hk (pz s),Go.MapKept.run_findKey hk h1,Go.MapKept.run_setObj_map _ hb]
  ·rw[Array.toList_push];exact acW ⟨rfl,us,rfl,hu⟩ ha hl
 |some d=>
  obtain⟨j,v,h1,⟨f,h3,h4⟩,h5⟩:=adr (c:=c) 0 ha hl;rw[Nat.zero_add]at h1;have h3':es[j]? =some f:=by rw[←h3,Array.getElem?_toList]
  refine⟨es.modify j fun e=>{e with key:=str s,val:= .agg us.toArray},clock,?_,?_⟩
  ·unfold Instr.mapUpdate;simp[run_underlying hm,Go.MapKept.run_getObj_map hb,Go.MapKept.run_checkKey hk (pz s),Go.MapKept.run_findKey hk h1,Go.MapKept.run_setObj_map _ hb,h3',h4,Go.MapKept.run_keyThatStays (pz s)]
  ·have e9:(es.modify j fun e=>{e with key:=str s,val:= .agg us.toArray}).toList=es.toList.set j {f with key:=str s,val:= .agg us.toArray}:=by
    apply List.ext_getElem?;intro i
    rw[List.getElem?_set]
    simp only[Array.toList_modify,List.getElem?_modify]
    by_cases hi:j=i
    ·subst hi;obtain⟨hlt,_⟩:=List.getElem?_eq_some_iff.1 h3
     rw[if_pos rfl,if_pos hlt,h3];simp
    ·rw[if_neg hi];simp[hi]
   rw[e9];exact h5 _ ⟨rfl,us,rfl,hu⟩
end
theorem Eff.aoT{E:Env}{S X:Nat→Prop}{w w':World}{b:Nat}{A:lD}{v:Value}
  (hl:∀k,S k→k < w.heap.size) (ho:Off none' w w') (hA:A.has (E.blk b) v X (fun k=>S k∨X k) w')
  (hX:∀k,X k→w.heap.size≤k) (hXl:∀k,X k→k < w'.heap.size) (hone:v.oneCell'=true):
  Eff E S w [] ⟨.own b,[(b,.ent (.abs A))]⟩ v w' ⟨E.blk,upd E.sl b v,upd E.fp b X⟩ (fun k=>S k∨X k):=by
 have hent:∀i e,(i,Slot.ent e)∈[(b,Slot.ent (Ent.abs A))]→i=b∧e= .abs A:=by
  intro i e hi;simp at hi;exact hi
 refine
  {env:=fun i hi=>?_,fpe:=fun i hi=>?_,sub:=fun k hk=> .inl hk,new:=fun k hk=>hk.imp id (hX k),lt:=fun k hk=>?_,off:=ho.mono fun k hk=>hk.elim,res:=⟨by show v=upd E.sl b v b;rw[upd_same],hone⟩,
   ents:=fun i e hi=>?_,blk:=fun i e k hi hk=>?_,sep:=fun i i' e e' k hne h1 h2=>?_}
 ·by_cases e:i=b
  ·subst e;obtain⟨e,he⟩:=hi ⟨_,by simp;rfl⟩
   cases he
  ·exact⟨rfl,upd_ne _ _ e⟩
 ·exact upd_ne _ _ fun e=>hi (.ent (.abs A)) (by simp[e])
 ·rcases hk with hk|hk
  ·exact Nat.lt_of_lt_of_le (hl k hk) ho.size
  ·exact hXl k hk
 ·obtain⟨rfl,rfl⟩:=hent i e hi;show A.has (E.blk i) (upd E.sl i v i) (upd E.fp i X i) _ w';rw[upd_same,upd_same];exact hA
 ·obtain⟨rfl,rfl⟩:=hent i e hi;have hk':upd E.fp i X i k:=hk;rw[upd_same]at hk';exact⟨.inr hk',.inr (hX k hk')⟩
 ·obtain⟨rfl,_⟩:=hent _ _ h1;obtain⟨rfl,_⟩:=hent _ _ h2;exact absurd rfl hne
section
variable{P:Program}{C:Ctx}{st:St}
variable{ops rest:List Oper}{acc:List (List Nat×List Nat)}{K:List (List Nat×List Nat)→St→Prop}{dst:Option Tmp}{d:Tmp}{ty t:TypeId}{x y z:Operand}{zs:List Value}
theorem Go1.makeMap(hd:ay (some d) C.nt=true)(hf:st.hp d= .free)(next:Reg P C ops rest (st.app (some d) ⟨.own d,[(d,.ent (.abs (gI [])))]⟩) (([d],[d])::acc) K):Go1 P C ops (some d) (.makeMap t none) ty rest st acc K:=
 ⟨[d],⟨.own d,[(d,.ent (.abs (gI [])))]⟩,fun o h2 h3 h4=>by
  refine aT.eff [] [] (fun b hb=>?_) (h2▸dD hd) (fun b e hb=>by cases hb) (fun b e hb=>by cases hb) (fun b s hb=>?_) (fun b s hb=>?_) (fun st' E S a w hev hhp hs _ _=>?_)
  ·rcases hb with⟨e,hb⟩|⟨e,hb⟩|⟨s,hb⟩
   ·cases hb
   ·cases hb
   ·simp at hb;simp[hb.1]
  ·simp at hb;rw[hb.1];exact .inr hf
  ·simp at hb;rw[hb.2];rfl
  ·refine⟨⟨fun i hi=>?_,fun b e hb i hi=>?_⟩,fun K Q hK=>?_⟩
   ·simp[AV.ids,AV0.ids,Atom.ids]at hi;subst hi;simp[eX,Slot.used]
   ·simp at hb
    obtain⟨rfl,rfl⟩:=hb;cases hi
   ·unfold Oper.wp execOp;rw[h3];have hr:(Instr.makeMap t none).run P w= .ok (.map (some w.heap.size)) (w.alloc (.map #[] 0)):=by simp[Instr.makeMap]
    simp only[hr,Option.map_none,Sem.run_bind,Sem.run_pure,Result.andThen_ok];refine hK _ _ _ _ (Eff.aoT (X:=fun k=>k=w.heap.size) hs.lt (Off.alloc _ _ _) ⟨w.heap.size,#[],0,rfl,fun k=>Iff.rfl,heap_alloc_new w _,trivial⟩ (fun k hk=>by rw[hk];exact Nat.le_refl _) (fun k hk=>?_) rfl)
    rw[hk];show w.heap.size < (w.heap.push _).size;simp,next⟩
theorem Go1.ahg{b:Nat}{l:List (List UInt8×List CA)}{s:List UInt8}{c:List CA}[ht:ai0 P t zs](hd:ay dst C.nt=true)(hx:st.ev x=some (.own b))(hb:st.hp b= .ent (.abs (gI l)))(hy:st.ev y=some (.v (str s)))(hl:dF l s=some c)
  (next:Reg P C ops rest (st.app dst ⟨.tup [.agg (c.map Atom.c),.one (.c (.val (.bool true)))],[]⟩) (([b],[])::acc) K):Go1 P C ops dst (.lookup t x y true) ty rest st acc K:=
 Go1.cK [(b,.abs (gI l))] [b] (by simp) hd (by simpa using hb) (fun o ho _ st' E S a w hev hs hrd=>by
  obtain⟨⟨hv,_⟩,_⟩:=hs.ev ((hev x (by simp[ho,Op.operands])).trans hx)
  have hyv:a.eval y=str s:=(hs.ev ((hev y (by simp[ho,Op.operands])).trans hy)).1
  have h0:(gI l).has (E.blk b) (E.sl b) (E.fp b) S w:=hs.hp b (.abs (gI l)) (hrd b (.abs (gI l)) (by simp))
  obtain⟨r,es,clock,h1,h2,h3,h4⟩:=h0;obtain⟨us,hrun,hall⟩:=abp (P:=P) (t:=t) h3 h4 hl;refine⟨fun i hi=>?_,.tuple #[.agg us.toArray,.bool true],?_,?_⟩
  ·exfalso
   simp only[AV.ids,List.flatMap_cons,AV0.ids,List.flatMap_nil,List.append_nil,List.mem_append,List.mem_flatMap,List.mem_map]at hi;rcases hi with⟨_,⟨_,_,rfl⟩,h⟩|h <;> cases h
  ·unfold execOp;rw[ho];simp[show a.eval x=_ from hv,h1,hyv,hrun]
  ·exact⟨[.agg us.toArray,.bool true],rfl,⟨us,rfl,yx hall⟩,rfl,trivial⟩) next
theorem ac0{E:Env}{S:Nat→Prop}{w:World}:∀{m:List CA} {us:List Value},aI (Atom.has E S w) (m.map Atom.c) us→aI (CA.has S w) m us
 |[],[],_=>trivial
 |_::_,_::_,h=>⟨h.1,ac0 h.2⟩
 |[],_::_,h=>h.elim
 |_::_,[],h=>h.elim
theorem Eff.amQ{E:Env}{S:Nat→Prop}{w w':World}{b:Nat}{A A':lD}(hl:∀k,S k→k < w.heap.size)(hS:∀k,E.fp b k→S k)(ho:Off (E.fp b) w w')(hA:A'.has (E.blk b) (E.sl b) (E.fp b) S w'):
  Eff E S w [(b,.abs A)] ⟨.v undef,[(b,.ent (.abs A'))]⟩ undef w' E S:=by
 refine
  {env:=fun i hi=>⟨rfl,rfl⟩,fpe:=fun _ _=>rfl,sub:=fun k hk=>hk,new:=fun k hk=> .inl hk,lt:=fun k hk=>Nat.lt_of_lt_of_le (hl k hk) ho.size,off:=ho.mono fun k hk=>⟨b,_,List.mem_cons_self,hk⟩,
   res:=rfl,ents:=fun i e' hi=>?_,blk:=fun i e' k hi hk=>?_,sep:=fun i i' e' e2 k hne h1 h2=>?_}
 ·simp at hi;obtain⟨rfl,rfl⟩:=hi
  exact hA
 ·simp at hi;obtain⟨rfl,rfl⟩:=hi
  exact⟨hS k hk,.inl ⟨i,_,List.mem_cons_self,hk⟩⟩
 ·simp at h1 h2;exact absurd (h1.1.trans h2.1.symm) hne
theorem Off.setObj{S:Nat→Prop}(w:World)(r:Nat)(o:Obj)(h:S r):Off S w {w with heap:=w.heap.setIfInBounds r o}:=
 ⟨rfl,rfl,rfl,by simp,fun k hk hn=>by
  have hne:k≠r:=fun e=>hn (e▸h)
  show (w.heap.setIfInBounds r o)[k]? =_;rw[Array.getElem?_setIfInBounds,if_neg (fun e=>hne e.symm)]⟩
theorem Go1.putM{b:Nat}{l:List (List UInt8×List CA)}{s:List UInt8}{la:List Atom}{c:List CA}[ht:ai0 P t zs](hx:st.ev x=some (.own b))(hb:st.hp b= .ent (.abs (gI l)))(hy:st.ev y=some (.v (str s)))(hz:st.ev z=some (.agg la))(hc:aP la=some c)
  (next:Reg P C ops rest (st.app none ⟨.v undef,[(b,.ent (.abs (gI (eG l s c))))]⟩) (([b],[b])::acc) K):Go1 P C ops none (.mapUpdate t x y z) ty rest st acc K:=by
 refine⟨[b],⟨.v undef,[(b,.ent (.abs (gI (eG l s c))))]⟩,fun o h2 h3 h4=>aT.eff [] [(b,.abs (gI l))] (fun i hi=>?_) (h2▸(fun x hx=>by cases hx)) (fun b e hb=>by cases hb) (fun i e hi=>?_) (fun i s hi=>?_) (fun i s hi=>?_) (fun st' E S a w hev hhp hse _ hpre=>?_),next⟩
 ·rcases hi with⟨e,hi⟩|⟨e,hi⟩|⟨s,hi⟩
  ·cases hi
  ·simp at hi;simp[hi.1]
  ·simp at hi;simp[hi.1]
 ·simp at hi
  obtain⟨rfl,rfl⟩:=hi;exact⟨hb,_,by simp;rfl⟩
 ·simp at hi;obtain⟨rfl,_⟩:=hi;exact .inl ⟨_,by simp;rfl⟩
 ·simp at hi;rw[hi.2];rfl
 ·obtain⟨⟨hv,_⟩,_⟩:=hse.ev ((hev x (by simp[h3,Op.operands])).trans hx)
  have hyv:a.eval y=str s:=(hse.ev ((hev y (by simp[h3,Op.operands])).trans hy)).1
  obtain⟨⟨us,hzv,hall⟩,_⟩:=hse.ev ((hev z (by simp[h3,Op.operands])).trans hz)
  have hb':=hpre b (.abs (gI l)) (by simp)
  have h0:(gI l).has (E.blk b) (E.sl b) (E.fp b) S w:=hse.hp b _ hb';have hX:∀k,E.fp b k→S k:=fun k hk=>(hse.blk b _ k hb' hk).1
  obtain⟨r,es,clock,h1,h5,h6,h7⟩:=h0;have hcl:aI (CA.has S w) c us:=by
   rw[dH hc]at hall;exact ac0 hall
  obtain⟨es',clock',hrun,h8⟩:=al8 (P:=P) (t:=t) (s:=s) h6 h7 hcl;have hor:Off (E.fp b) w {w with heap:=w.heap.setIfInBounds r (.map es' clock')}:=Off.setObj w r _ ((h5 r).2 rfl);refine⟨⟨fun i hi=>(by cases hi),fun i e hi j hj=>?_⟩,fun K Q hK=>?_⟩
  ·simp at hi
   obtain⟨rfl,rfl⟩:=hi;cases hj
  ·unfold Oper.wp execOp;rw[h3];simp only[show a.eval x=_ from hv,h1,hyv,show a.eval z=_ from hzv,hrun,Sem.run_bind,Sem.run_pure,Result.andThen_ok]
   refine hK undef _ _ _ (Eff.amQ hse.lt hX hor ⟨r,es',clock',h1,h5,(Go.MapKept.heap_set h6).1,h8.mono fun p e _ he=>he.step (hor.mono hX) fun k hk=> .inl hk⟩)
end
section
variable{P:Program}{C:Ctx}{st:St}
variable{ops rest:List Oper}{acc:List (List Nat×List Nat)}{K:List (List Nat×List Nat)→St→Prop}{dst:Option Tmp}{d:Tmp}{ty t:TypeId}{x y z:Operand}{zs:List Value}
theorem G.makeMap(next:Reg P C ops rest (st.app (some d) ⟨.own d,[(d,.ent (.abs (gI [])))]⟩) (([d],[d])::acc) K)(hd:ay (some d) C.nt=true:=by rfl)(hf:st.hp d= .free:=by rfl):Go1 P C ops (some d) (.makeMap t none) ty rest st acc K:=Go1.makeMap hd hf next
theorem G.ahg{b:Nat}{l:List (List UInt8×List CA)}{s:List UInt8}{c:List CA}[ht:ai0 P t zs](next:Reg P C ops rest (st.app dst ⟨.tup [.agg (c.map Atom.c),.one (.c (.val (.bool true)))],[]⟩) (([b],[])::acc) K)(hd:ay dst C.nt=true:=by rfl)(hx:st.ev x=some (.own b):=by rfl)(hb:st.hp b= .ent (.abs (gI l)):=by rfl)(hy:st.ev y=some (.v (str s)):=by rfl)(hl:dF l s=some c:=by first|(with_reducible assumption)|assumption):Go1 P C ops dst (.lookup t x y true) ty rest st acc K:=Go1.ahg hd hx hb hy hl next
theorem G.putM{b:Nat}{l:List (List UInt8×List CA)}{s:List UInt8}{la:List Atom}{c:List CA}[ht:ai0 P t zs](next:Reg P C ops rest (st.app none ⟨.v undef,[(b,.ent (.abs (gI (eG l s c))))]⟩) (([b],[b])::acc) K)(hx:st.ev x=some (.own b):=by rfl)(hb:st.hp b= .ent (.abs (gI l)):=by rfl)(hy:st.ev y=some (.v (str s)):=by rfl)(hz:st.ev z=some (.agg la):=by rfl)(hc:aP la=some c:=by rfl):Go1 P C ops none (.mapUpdate t x y z) ty rest st acc K:=Go1.putM hx hb hy hz hc next
end
section
variable{P:Program}{C:Ctx}{st:St}
variable{ops rest:List Oper}{acc:List (List Nat×List Nat)}{K:List (List Nat×List Nat)→St→Prop}{d:Tmp}{ty t:TypeId}{x:Operand}
theorem G.aoh{ι:Type}{b bb off:Nat}{φ:ι→Prop}{T:TypeId}{cells:ι→List Atom}{R:ι→List (Nat×Ent)}{u:Value}[ht:gU P t](next:Reg P C ops rest (st.app (some d) ⟨.v u,[]⟩) (([b],[])::acc) K)(hd:ay (some d) C.nt=true:=by rfl)(hx:st.ev x=some (.ptr b off):=by rfl)
  (hb:st.hp b= .ent (.abs (lM bb φ T cells R)):=by rfl) (hr:∀p,(cells p)[off]? =some (.c (.val u)):=by intro p;rfl):Go1 P C ops (some d) (.load t x) ty rest st acc K:=
 Go1.cK [(b,.abs (lM bb φ T cells R))] [b] (by simp) hd (by simpa using hb) (fun o ho _ st' E S a w hev hs hrd=>by
  obtain⟨hv,_⟩:=hs.ev ((hev x (by simp[ho,Op.operands])).trans hx)
  have hb':=hrd b (.abs (lM bb φ T cells R)) (by simp)
  obtain⟨p,E2,_,hB⟩:=hs.hp b _ hb';obtain⟨cs,hg,hall⟩:=hB.box;obtain⟨u',hu,hcu⟩:=hall.get (hr p);have e:u'=u:=hcu;subst e;refine⟨fun i hi=>(by cases hi),u',?_,rfl⟩
  unfold execOp;rw[ho];simp[show a.eval x=_ from hv,Instr.loadAt,Instr.sureAddr,uh ht w hg hu]) next
end
section
variable{P:Program}{C:Ctx}{st:St}
variable{ops rest:List Oper}{acc:List (List Nat×List Nat)}{K:List (List Nat×List Nat)→St→Prop}{d:Tmp}{ty t:TypeId}
theorem G.agz{pl:List (Nat×Nat)}{zs:List Value}{parts:Array (Nat×Operand)}{ps:List (Nat×AV0)}{a1 a2 a3 a4 a5 a6 a7 a8 a9 a10 a11 a12 a13 a14 a15 a16 a17:Atom}[ht:dI P t pl][hz:fE P t zs](next:Reg P C ops rest (st.app (some d) ⟨.agg [a1,a2,a3,a4,a5,a6,a7,a8,a9,a10,a11,a12,a13,a14,a15,a16,a17],[]⟩) (([],[])::acc) K)(hd:ay (some d) C.nt=true:=by rfl)(hp:evp st parts.toList=some ps:=by rfl)(h1:(ps.all fun p=>p.2.cells.all Atom.dS)=true:=by rfl)(hf:eT pl (zs.map fun v=>Atom.c (.val v)) ps=some [a1,a2,a3,a4,a5,a6,a7,a8,a9,a10,a11,a12,a13,a14,a15,a16,a17]:=by rfl):Go1 P C ops (some d) (.build t parts) ty rest st acc K:=
 Go1.build hd hp h1 hf next
theorem aj.sK{u:Tmp}{T T':TypeId}{b off:Nat}{cells:List Atom}{a1 a2 a3 a4 a5 a6 a7 a8 a9 a10 a11 a12 a13 a14 a15 a16 a17:Atom}[ht:gF P T 17](h:st.tm u=some (.ptr b off))(hb:st.hp b= .ent (.box T' cells))(hr:(cells.drop off).take 17=[a1,a2,a3,a4,a5,a6,a7,a8,a9,a10,a11,a12,a13,a14,a15,a16,a17]):aj P st (.cell u T) (.agg [a1,a2,a3,a4,a5,a6,a7,a8,a9,a10,a11,a12,a13,a14,a15,a16,a17]):=
 aj.agg h hb (by have:=congrArg List.length hr;simp at this;rw[Nat.ble_eq];omega) hr
theorem G.aha{pl:List (Nat×Nat)}{zs:List Value}{parts:Array (Nat×Operand)}{ps:List (Nat×AV0)}{a1 a2 a3 a4 a5 a6 a7 a8 a9 a10 a11 a12 a13 a14 a15 a16 a17 a18 a19 a20 a21:Atom}[ht:dI P t pl][hz:fE P t zs](next:Reg P C ops rest (st.app (some d) ⟨.agg [a1,a2,a3,a4,a5,a6,a7,a8,a9,a10,a11,a12,a13,a14,a15,a16,a17,a18,a19,a20,a21],[]⟩) (([],[])::acc) K)(hd:ay (some d) C.nt=true:=by rfl)(hp:evp st parts.toList=some ps:=by rfl)(h1:(ps.all fun p=>p.2.cells.all Atom.dS)=true:=by rfl)(hf:eT pl (zs.map fun v=>Atom.c (.val v)) ps=some [a1,a2,a3,a4,a5,a6,a7,a8,a9,a10,a11,a12,a13,a14,a15,a16,a17,a18,a19,a20,a21]:=by rfl):Go1 P C ops (some d) (.build t parts) ty rest st acc K:=
 Go1.build hd hp h1 hf next
end
section
variable{P:Program}{C:Ctx}{st:St}{ops rest:List Oper}{acc:List (List Nat×List Nat)}{K:List (List Nat×List Nat)→St→Prop}{dst:Option Tmp}{ty t:TypeId}{x:Operand}{α:Type}
theorem G.agY{tO tI:TypeId}{b size i j:Nat}{enc:α→List CA}{js:List Nat}{c:List (List α)}{r:List α}{a:α}{c1 c2:CA}[ht:gF P t 2][he:eB enc 2](next:Reg P C ops rest (st.app dst ⟨.agg [.c c1,.c c2],[]⟩) (([b],[])::acc) K)(hd:ay dst C.nt=true:=by rfl)(hx:st.ev x=some (.it (.one (.rel b (oq (j+1) (i*2))))):=by rfl)(hb:st.hp b= .ent (.abs (gq tO tI size enc js c)):=by rfl)(hj:c[j]? =some r:=by assumption)(ha:r[i]? =some a:=by assumption)(h4:enc a=[c1,c2]:=by rfl):Go1 P C ops dst (.load t x) ty rest st acc K:=
 Go1.afk (l:=[c1,c2]) hd hx hb hj ((wY (enc:=enc) (size:=2) ha).trans h4) rfl next
theorem Go1.alR{n:Nat}{cells l:List CA}[ht:gF P t n](hd:ay dst C.nt=true)(hx:st.ev x=some (.r (bR cells)))(hl:cells.take n=l)(hn:l.length=n)
  (next:Reg P C ops rest (st.app dst ⟨.agg (l.map Atom.c),[]⟩) (([],[])::acc) K):Go1 P C ops dst (.load t x) ty rest st acc K:=
 Go1.cK [] [] (by simp) hd (by simp) (fun o ho _ st' E S a w hev hs _=>by
  obtain⟨h0,_⟩:=hs.ev ((hev x (by simp[ho,Op.operands])).trans hx)
  obtain⟨b,o',hv,h6⟩:=yj.1 h0;have h7:∀i c,l[i]? =some c→∃u,¬S b∧w.cell? ⟨b,o'+i,none⟩=some u∧c.has S w u:=fun i c hi=>by
   rw[←hl,List.getElem?_take]at hi
   split at hi
   ·exact h6 i c hi
   ·cases hi
  have hex:=uo (E:=E) l o' h7;obtain⟨us,hall,hus⟩:=hex;have hlen:=hall.length;have hrun:=run_loadCells_list (P:=P) w ⟨b,o',none⟩ us hus;have hsz:(P.info? t).map (·.size)=some us.length:=by rw[ht.s,←hn];simp at hlen;rw[hlen]
  refine⟨fun j hj=>?_,.agg us.toArray,?_,us,rfl,hall⟩
  ·simp only[AV.ids,AV0.ids,List.mem_flatMap]at hj;obtain⟨c,hc,hj⟩:=hj;obtain⟨c',_,rfl⟩:=List.mem_map.1 hc;cases hj
  ·unfold execOp;rw[ho];simp[hv,Instr.loadAt,Instr.sureAddr,loadVar,iC ht.h,run_sizeOf hsz,hrun]) next
theorem G.af3{c1 c2 c3:CA}{cells:List CA}[ht:gF P t 3](next:Reg P C ops rest (st.app dst ⟨.agg [.c c1,.c c2,.c c3],[]⟩) (([],[])::acc) K)(hd:ay dst C.nt=true:=by rfl)(hx:st.ev x=some (.r (bR cells)):=by rfl)(hl:cells.take 3=[c1,c2,c3]:=by rfl):Go1 P C ops dst (.load t x) ty rest st acc K:=
 Go1.alR hd hx hl rfl next
theorem G.afW{c1 c2 c3 c4:CA}{cells:List CA}[ht:gF P t 4](next:Reg P C ops rest (st.app dst ⟨.agg [.c c1,.c c2,.c c3,.c c4],[]⟩) (([],[])::acc) K)(hd:ay dst C.nt=true:=by rfl)(hx:st.ev x=some (.r (bR cells)):=by rfl)(hl:cells.take 4=[c1,c2,c3,c4]:=by rfl):Go1 P C ops dst (.load t x) ty rest st acc K:=
 Go1.alR hd hx hl rfl next
end
structure HeldM(q:Prop):Prop where
 out:q
theorem goM{p q:Prop}(h:q)(k:HeldM q→p:=by
  intro h
  (first
   |(refine SX.Go1.is ?_;first
     |(refine SX.Go1.isLoad ?_;first|refine SX.G.aa0 ?_|refine SX.G.zO ?_|refine SX.G.vg ?_|refine SX.G.vo ?_|refine SX.G.aaB ?_|refine SX.G.vC ?_|refine SX.G.load5 ?_|refine SX.G.akF ?_|refine SX.G.loadA1 ?_|refine SX.G.loadRA1 ?_|refine SX.G.agR ?_|refine SX.G.afR ?_|refine SX.G.agY ?_|refine SX.G.afk ?_|refine SX.G.loadOWA ?_|refine SX.G.loadOW2 ?_|refine SX.G.aao ?_|refine SX.G.uM ?_|refine SX.G.abQ ?_|refine SX.G.yD ?_)
     |(refine SX.Go1.ag2 ?_;first|refine SX.G.lss ?_|refine SX.G.eql ?_|refine SX.G.eqlNilT ?_|refine SX.G.eqlNilF ?_|refine SX.G.neq ?_|refine SX.G.gtr ?_|refine SX.G.geq ?_|refine SX.G.leq ?_|refine SX.G.addN ?_|refine SX.G.af8 ?_|refine SX.G.subN ?_|refine SX.G.subNu ?_|refine SX.G.add ?_|refine SX.G.sub ?_|refine SX.G.mulN ?_|refine SX.G.agi ?_|refine SX.G.mul ?_|refine SX.G.quoN ?_|refine SX.G.ahk ?_|refine SX.G.quo ?_|refine SX.G.remN ?_|refine SX.G.agK ?_|refine SX.G.rem ?_|refine SX.G.eqlT ?_|refine SX.G.aod ?_|refine SX.G.aon ?_|refine SX.G.anK ?_|refine SX.G.neqT ?_|refine SX.G.ah1 ?_|refine SX.G.ahE ?_|refine SX.G.shr ?_|refine SX.G.shl ?_|refine SX.G.and ?_|refine SX.G.ahn ?_)
     |(refine SX.Go1.isUn ?_;first|refine SX.G.not ?_|refine SX.G.neg ?_)
     |(refine SX.Go1.isField ?_;first|refine SX.G.fieldAddr ?_|refine SX.G.jG ?_)
     |(refine SX.Go1.wZ ?_;first|refine SX.G.alu ?_|refine SX.G.build1 ?_|refine SX.G.u6 ?_|refine SX.G.uW ?_|refine SX.G.uQ ?_|refine SX.G.build5 ?_|refine SX.G.agN ?_|refine SX.G.agz ?_|refine SX.G.aha ?_|refine SX.G.build ?_)
     |(refine SX.Go1.wL ?_;first|refine SX.G.store ?_|refine SX.G.abh ?_|refine SX.G.abY ?_|refine SX.G.wP ?_|refine SX.G.storeOWA ?_|refine SX.G.xP ?_)
     |(refine SX.Go1.isIx ?_;first|refine SX.G.nL ?_|refine SX.G.nM ?_|refine SX.G.jy ?_|refine SX.G.ni ?_|refine SX.G.jH ?_|refine SX.G.indexAddrA ?_|refine SX.G.indexAddrG ?_)
     |(refine SX.Go1.tN ?_;first|refine SX.G.lit0Own ?_|refine SX.G.litH ?_|refine SX.G.abb ?_|refine SX.G.afP ?_|refine SX.G.lit2 ?_|refine SX.G.lit3 ?_|refine SX.G.ahZ ?_)
     |(refine SX.Go1.dX ?_;first|refine SX.G.minN ?_|refine SX.G.maxN ?_|refine SX.G.maxL ?_|refine SX.G.maxR ?_|refine SX.G.ah3 ?_|refine SX.G.lenN ?_|refine SX.G.lenT ?_|refine SX.G.aiF ?_|refine SX.G.aik ?_|refine SX.G.xB ?_|refine SX.G.appendNilW ?_|refine SX.G.agl ?_|refine SX.G.sliceDataN ?_|refine SX.G.yI ?_|refine SX.G.unsafeStrN ?_|refine SX.G.yN ?_|refine SX.G.lenH ?_|refine SX.G.wW ?_|refine SX.G.anQ ?_|refine SX.G.anT ?_|refine SX.G.agc ?_|refine SX.G.wI ?_|refine SX.G.call ?_)
     |refine SX.G.move ?_|refine SX.G.assign ?_|refine SX.G.extract ?_|refine SX.G.boxN ?_|refine SX.G.box ?_|refine SX.G.y7 ?_|refine SX.G.alloc ?_|refine SX.G.aa6 ?_|refine SX.G.nilCheckR ?_|refine SX.G.mkfn ?_|refine SX.G.anJ ?_|refine SX.G.anP ?_|refine SX.G.anL ?_|refine SX.G.pick ?_|refine SX.R.ag3 ?_|refine SX.R.agD ?_|refine SX.G.pickB ?_|refine SX.G.pickV ?_|refine SX.G.aga ?_|refine SX.G.makeG ?_|refine SX.G.makeC ?_|refine SX.G.agV ?_|refine SX.G.conv ?_|refine SX.G.abI ?_|refine SX.G.alC ?_|refine SX.G.sliceH ?_|refine SX.G.tQ ?_|refine SX.G.sliceLoW ?_|refine SX.G.jX ?_|refine SX.G.sliceLoR ?_|refine SX.G.sliceHiO ?_|refine SX.G.tJ ?_|refine SX.G.tF ?_|refine SX.G.sliceLHT ?_|refine SX.G.aoh ?_|refine SX.G.loadB15 ?_|refine SX.G.ahg ?_|refine SX.G.lookM0 ?_|refine SX.G.putM ?_|refine SX.G.makeMap ?_|refine SX.G.af3 ?_|refine SX.G.afW ?_|refine SX.G.loadRT2 ?_|refine SX.G.ak6 ?_|refine SX.G.abO ?_|refine SX.G.oC ?_|refine SX.G.oP ?_|refine SX.G.sliceLHS ?_|refine SX.G.yC ?_)
   |(refine SX.Reg.is ?_;first|refine SX.Reg.go ?_|refine SX.R.runT ?_|refine SX.R.runF ?_|refine SX.R.agk ?_|refine SX.R.afC ?_|refine SX.R.aaI ?_|refine SX.Reg.nil ⟨by kernel_rfl,?_⟩|refine SX.Reg.nil ?_)
   |(refine SX.WP.is ?_;first|refine SX.WP.seq ?_|refine SX.WP.af7 (by rfl) ?_|refine SX.WP.adN (by rfl) (by kernel_rfl) ?_|refine SX.WP.block ?_|refine SX.WP.skip ?_|refine SX.WP.exit ?_|refine SX.WP.ret ?_|refine SX.WP.label ?_|refine SX.W.afA ?_|refine SX.W.zA ?_)
   |refine SX.adG ?_|refine SX.ale ?_|refine SX.anW ?_|refine SX.ajT ?_|refine SX.aky ?_|refine SX.afb ?_|refine SX.alh rfl ?_|refine SX.retR ?_|refine SX.retN ?_|refine SX.anI ?_|refine SX.aob ?_)
  repeat(first
   |(refine SX.Go1.is ?_;first
     |(refine SX.Go1.isLoad ?_;first|refine SX.G.aa0 ?_|refine SX.G.zO ?_|refine SX.G.vg ?_|refine SX.G.vo ?_|refine SX.G.aaB ?_|refine SX.G.vC ?_|refine SX.G.load5 ?_|refine SX.G.akF ?_|refine SX.G.loadA1 ?_|refine SX.G.loadRA1 ?_|refine SX.G.agR ?_|refine SX.G.afR ?_|refine SX.G.agY ?_|refine SX.G.afk ?_|refine SX.G.loadOWA ?_|refine SX.G.loadOW2 ?_|refine SX.G.aao ?_|refine SX.G.uM ?_|refine SX.G.abQ ?_|refine SX.G.yD ?_)
     |(refine SX.Go1.ag2 ?_;first|refine SX.G.lss ?_|refine SX.G.eql ?_|refine SX.G.eqlNilT ?_|refine SX.G.eqlNilF ?_|refine SX.G.neq ?_|refine SX.G.gtr ?_|refine SX.G.geq ?_|refine SX.G.leq ?_|refine SX.G.addN ?_|refine SX.G.af8 ?_|refine SX.G.subN ?_|refine SX.G.subNu ?_|refine SX.G.add ?_|refine SX.G.sub ?_|refine SX.G.mulN ?_|refine SX.G.agi ?_|refine SX.G.mul ?_|refine SX.G.quoN ?_|refine SX.G.ahk ?_|refine SX.G.quo ?_|refine SX.G.remN ?_|refine SX.G.agK ?_|refine SX.G.rem ?_|refine SX.G.eqlT ?_|refine SX.G.aod ?_|refine SX.G.aon ?_|refine SX.G.anK ?_|refine SX.G.neqT ?_|refine SX.G.ah1 ?_|refine SX.G.ahE ?_|refine SX.G.shr ?_|refine SX.G.shl ?_|refine SX.G.and ?_|refine SX.G.ahn ?_)
     |(refine SX.Go1.isUn ?_;first|refine SX.G.not ?_|refine SX.G.neg ?_)
     |(refine SX.Go1.isField ?_;first|refine SX.G.fieldAddr ?_|refine SX.G.jG ?_)
     |(refine SX.Go1.wZ ?_;first|refine SX.G.alu ?_|refine SX.G.build1 ?_|refine SX.G.u6 ?_|refine SX.G.uW ?_|refine SX.G.uQ ?_|refine SX.G.build5 ?_|refine SX.G.agN ?_|refine SX.G.agz ?_|refine SX.G.aha ?_|refine SX.G.build ?_)
     |(refine SX.Go1.wL ?_;first|refine SX.G.store ?_|refine SX.G.abh ?_|refine SX.G.abY ?_|refine SX.G.wP ?_|refine SX.G.storeOWA ?_|refine SX.G.xP ?_)
     |(refine SX.Go1.isIx ?_;first|refine SX.G.nL ?_|refine SX.G.nM ?_|refine SX.G.jy ?_|refine SX.G.ni ?_|refine SX.G.jH ?_|refine SX.G.indexAddrA ?_|refine SX.G.indexAddrG ?_)
     |(refine SX.Go1.tN ?_;first|refine SX.G.lit0Own ?_|refine SX.G.litH ?_|refine SX.G.abb ?_|refine SX.G.afP ?_|refine SX.G.lit2 ?_|refine SX.G.lit3 ?_|refine SX.G.ahZ ?_)
     |(refine SX.Go1.dX ?_;first|refine SX.G.minN ?_|refine SX.G.maxN ?_|refine SX.G.maxL ?_|refine SX.G.maxR ?_|refine SX.G.ah3 ?_|refine SX.G.lenN ?_|refine SX.G.lenT ?_|refine SX.G.aiF ?_|refine SX.G.aik ?_|refine SX.G.xB ?_|refine SX.G.appendNilW ?_|refine SX.G.agl ?_|refine SX.G.sliceDataN ?_|refine SX.G.yI ?_|refine SX.G.unsafeStrN ?_|refine SX.G.yN ?_|refine SX.G.lenH ?_|refine SX.G.wW ?_|refine SX.G.anQ ?_|refine SX.G.anT ?_|refine SX.G.agc ?_|refine SX.G.wI ?_|refine SX.G.call ?_)
     |refine SX.G.move ?_|refine SX.G.assign ?_|refine SX.G.extract ?_|refine SX.G.boxN ?_|refine SX.G.box ?_|refine SX.G.y7 ?_|refine SX.G.alloc ?_|refine SX.G.aa6 ?_|refine SX.G.nilCheckR ?_|refine SX.G.mkfn ?_|refine SX.G.anJ ?_|refine SX.G.anP ?_|refine SX.G.anL ?_|refine SX.G.pick ?_|refine SX.R.ag3 ?_|refine SX.R.agD ?_|refine SX.G.pickB ?_|refine SX.G.pickV ?_|refine SX.G.aga ?_|refine SX.G.makeG ?_|refine SX.G.makeC ?_|refine SX.G.agV ?_|refine SX.G.conv ?_|refine SX.G.abI ?_|refine SX.G.alC ?_|refine SX.G.sliceH ?_|refine SX.G.tQ ?_|refine SX.G.sliceLoW ?_|refine SX.G.jX ?_|refine SX.G.sliceLoR ?_|refine SX.G.sliceHiO ?_|refine SX.G.tJ ?_|refine SX.G.tF ?_|refine SX.G.sliceLHT ?_|refine SX.G.aoh ?_|refine SX.G.loadB15 ?_|refine SX.G.ahg ?_|refine SX.G.lookM0 ?_|refine SX.G.putM ?_|refine SX.G.makeMap ?_|refine SX.G.af3 ?_|refine SX.G.afW ?_|refine SX.G.loadRT2 ?_|refine SX.G.ak6 ?_|refine SX.G.abO ?_|refine SX.G.oC ?_|refine SX.G.oP ?_|refine SX.G.sliceLHS ?_|refine SX.G.yC ?_)
   |(refine SX.Reg.is ?_;first|refine SX.Reg.go ?_|refine SX.R.runT ?_|refine SX.R.runF ?_|refine SX.R.agk ?_|refine SX.R.afC ?_|refine SX.R.aaI ?_|refine SX.Reg.nil ⟨by kernel_rfl,?_⟩|refine SX.Reg.nil ?_)
   |(refine SX.WP.is ?_;first|refine SX.WP.seq ?_|refine SX.WP.af7 (by rfl) ?_|refine SX.WP.adN (by rfl) (by kernel_rfl) ?_|refine SX.WP.block ?_|refine SX.WP.skip ?_|refine SX.WP.exit ?_|refine SX.WP.ret ?_|refine SX.WP.label ?_|refine SX.W.afA ?_|refine SX.W.zA ?_)
   |refine SX.adG ?_|refine SX.ale ?_|refine SX.anW ?_|refine SX.ajT ?_|refine SX.aky ?_|refine SX.afb ?_|refine SX.alh rfl ?_|refine SX.retR ?_|refine SX.retN ?_|refine SX.anI ?_|refine SX.aob ?_)
  exact h.out):p:=k ⟨h⟩
end
end SX