import Derived.Test.YtmgfiodmdfaclaaGreatDoorA9
import Derived.MapKept
import Derived.Test.YtmgfiodmdfaclaaGreatDoorA35
set_option linter.unusedVariables false
set_option linter.unusedSimpArgs false
namespace SX
section
open Go Go.RowKit
def ni(S:Nat→Prop)(w:World)(p:List UInt8×List CA)(e:MapEntry):Prop:=e.key=str p.1∧∃us:List Value,e.val= .agg us.toArray∧aJ (CA.has S w) p.2 us
theorem ni.step{S S':Nat→Prop}{w w':World}{p:List UInt8×List CA}{e:MapEntry}(h:ni S w p e)(ho:Off S w w')(hs:∀k,S' k→S k∨w.heap.size≤k):ni S' w' p e:=by
 obtain⟨h1,us,h2,h3⟩:=h;exact⟨h1,us,h2,h3.mono fun a u _ ha=>ha.step ho hs⟩
def gZ(l:List (List UInt8×List CA)):adn where
 has _ v X S w:=∃r es clock,v= .map (some r)∧(∀k,X k↔k=r)∧w.heap[r]? =some (.map es clock)∧aJ (ni S w) l es.toList
 step:=fun {b v X S S' w w'} ⟨r,es,clock,h1,h2,h3,h4⟩ ho hs hX=>
  ⟨r,es,clock,h1,h2,by rw[hX r ((h2 r).2 rfl)];exact h3,h4.mono fun a u _ ha=>ha.step ho hs⟩
def eU{β:Type}:List (List UInt8×β)→List UInt8→Option β
 |[],_=>none
 |(k,c)::l,s=>if s=k then some c else eU l s
def iR{β:Type}:List (List UInt8×β)→List UInt8→β→List (List UInt8×β)
 |[],s,c=>[(s,c)]
 |(k,d)::l,s,c=>if s=k then(k,c)::l else(k,d)::iR l s c
theorem vk(s t:List UInt8):Instr.sameNow .string (str s) (str t)=some (decide (s=t)):=by
 show some ((⟨⟨s⟩⟩:ByteArray)==⟨⟨t⟩⟩)=_;have e:((⟨⟨s⟩⟩:ByteArray)==⟨⟨t⟩⟩)=((⟨s⟩:Array UInt8)==⟨t⟩):=rfl;rw[e]
 congr 1
 rw[Bool.eq_iff_iff,beq_iff_eq,decide_eq_true_iff];constructor
 ·intro h;injection h
 ·rintro rfl;rfl
theorem abU{S:Nat→Prop}{w:World}{s:List UInt8}:∀{l:List (List UInt8×List CA)} {es:List MapEntry} (i:Nat),aJ (ni S w) l es→eU l s=none→Instr.findNow .string (str s) es i=some none
 |[],[],_,_,_=>rfl
 |(k,c)::l,e::es,i,h,hn=>by
  obtain⟨⟨h1,_⟩,h2⟩:=h;unfold eU at hn;by_cases hk:s=k
  ·rw[if_pos hk]at hn;cases hn
  ·rw[if_neg hk]at hn;unfold Instr.findNow;rw[h1];show (match Instr.sameNow .string (str s) (str k)with|some true=>some (some (i,e.val))|some false=>Instr.findNow .string (str s) es (i+1)|none=>none)=_
   rw[vk,decide_eq_false hk];exact abU (i+1) h2 hn
 |[],_::_,_,h,_=>h.elim
 |_::_,[],_,h,_=>h.elim
theorem acd{S:Nat→Prop}{w:World}{s:List UInt8}{c:List CA}:∀{l:List (List UInt8×List CA)} {es:List MapEntry} (i:Nat),aJ (ni S w) l es→eU l s=some c→∃j us,Instr.findNow .string (str s) es i=some (some (i+j,.agg us))∧aJ (CA.has S w) c us.toList∧(∃e,es[j]? =some e∧e.key=str s)
 |[],[],_,_,hn=>by cases hn
 |(k,d)::l,e::es,i,h,hn=>by
  obtain⟨⟨h1,us,h3,h4⟩,h2⟩:=h;unfold eU at hn;by_cases hk:s=k
  ·rw[if_pos hk]at hn;cases hn;refine⟨0,us.toArray,?_,by simpa using h4,e,rfl,by rw[h1,hk]⟩
   unfold Instr.findNow;rw[h1];show (match Instr.sameNow .string (str s) (str k)with|some true=>some (some (i,e.val))|some false=>Instr.findNow .string (str s) es (i+1)|none=>none)=_
   rw[vk,decide_eq_true hk,h3];rfl
  ·rw[if_neg hk]at hn;obtain⟨j,vs,g1,g2,e',g3,g4⟩:=acd (i+1) h2 hn;refine⟨j+1,vs,?_,g2,e',g3,g4⟩;unfold Instr.findNow;rw[h1];show (match Instr.sameNow .string (str s) (str k)with|some true=>some (some (i,e.val))|some false=>Instr.findNow .string (str s) es (i+1)|none=>none)=_
   rw[vk,decide_eq_false hk];show Instr.findNow .string (str s) es (i+1)=_;rw[g1,show i+1+j=i+(j+1)by omega]
 |[],_::_,_,h,_=>h.elim
 |_::_,[],_,h,_=>h.elim
theorem afm{S:Nat→Prop}{w:World}{s:List UInt8}{c:List CA}{e:MapEntry}(he:ni S w (s,c) e):∀{l:List (List UInt8×List CA)} {es:List MapEntry},aJ (ni S w) l es→eU l s=none→aJ (ni S w) (iR l s c) (es++[e])
 |[],[],_,_=>⟨he,trivial⟩
 |(k,d)::l,f::es,h,hn=>by
  unfold eU at hn;by_cases hk:s=k
  ·rw[if_pos hk]at hn;cases hn
  ·rw[if_neg hk]at hn;unfold iR;rw[if_neg hk];exact⟨h.1,afm he h.2 hn⟩
 |[],_::_,h,_=>h.elim
 |_::_,[],h,_=>h.elim
theorem afs{S:Nat→Prop}{w:World}{s:List UInt8}{c d:List CA}:∀{l:List (List UInt8×List CA)} {es:List MapEntry} (i:Nat),aJ (ni S w) l es→eU l s=some d→
  ∃j v,Instr.findNow .string (str s) es i=some (some (i+j,v))∧(∃e,es[j]? =some e∧e.key=str s)∧∀e,ni S w (s,c) e→aJ (ni S w) (iR l s c) (es.set j e)
 |[],[],_,_,hn=>by cases hn
 |(k,d)::l,e::es,i,h,hn=>by
  obtain⟨⟨h1,us,h3,h4⟩,h2⟩:=h;unfold eU at hn;by_cases hk:s=k
  ·rw[if_pos hk]at hn;refine⟨0,e.val,?_,⟨e,rfl,by rw[h1,hk]⟩,fun f hf=>?_⟩
   ·unfold Instr.findNow;rw[h1];show (match Instr.sameNow .string (str s) (str k)with|some true=>some (some (i,e.val))|some false=>Instr.findNow .string (str s) es (i+1)|none=>none)=_
    rw[vk,decide_eq_true hk];rfl
   ·unfold iR;rw[if_pos hk];subst hk;exact⟨hf,h2⟩
  ·rw[if_neg hk]at hn;obtain⟨j,v,g1,⟨e',g3,g4⟩,g5⟩:=afs (c:=c) (i+1) h2 hn;refine⟨j+1,v,?_,⟨e',g3,g4⟩,fun f hf=>?_⟩
   ·unfold Instr.findNow;rw[h1];show (match Instr.sameNow .string (str s) (str k)with|some true=>some (some (i,e.val))|some false=>Instr.findNow .string (str s) es (i+1)|none=>none)=_
    rw[vk,decide_eq_false hk];show Instr.findNow .string (str s) es (i+1)=_;rw[g1,show i+1+j=i+(j+1)by omega]
   ·unfold iR;rw[if_neg hk];exact⟨⟨h1,us,h3,h4⟩,g5 f hf⟩
 |[],_::_,_,h,_=>h.elim
 |_::_,[],_,h,_=>h.elim
class akO(P:Program)(t:TypeId)(zs:outParam (List Value)):Prop where
 h:∃k e,P.underlying t=some (.map k e)∧P.underlying k=some .string∧(P.info? e).map (·.zero)=some (some (.agg zs.toArray))
theorem sW(s:List UInt8):Go.MapKept.IsKey .string (str s):=by
 first|exact trivial|simp[Go.MapKept.IsKey,str]
section
variable{P:Program}{t:TypeId}{zs:List Value}[ht:akO P t zs]{w:World}{r:Nat}{es:Array MapEntry}{clock:Nat}{S:Nat→Prop}{l:List (List UInt8×List CA)}{s:List UInt8}
include ht
theorem acU{c:List CA}(hb:w.heap[r]? =some (.map es clock))(ha:aJ (ni S w) l es.toList)(hl:eU l s=some c):
  ∃us:List Value,(Instr.lookup t (.map (some r)) (str s) true).run P w= .ok (.tuple #[.agg us.toArray,.bool true]) w∧aJ (CA.has S w) c us:=by
 obtain⟨k,e,hm,hk,hz⟩:=ht.h;obtain⟨j,us,h1,h2,_⟩:=acd 0 ha hl;refine⟨us.toList,?_,h2⟩;unfold Instr.lookup;simp[run_underlying hm,Go.MapKept.run_getObj_map hb,Go.MapKept.run_checkKey hk (sW s),Go.MapKept.run_findKey hk h1]
theorem amK{c:List CA}{us:List Value}(hb:w.heap[r]? =some (.map es clock))(ha:aJ (ni S w) l es.toList)(hu:aJ (CA.has S w) c us):
  ∃es' clock',(Instr.mapUpdate t (.map (some r)) (str s) (.agg us.toArray)).run P w= .ok () {w with heap:=w.heap.setIfInBounds r (.map es' clock')}∧aJ (ni S w) (iR l s c) es'.toList:=by
 obtain⟨k,e,hm,hk,hz⟩:=ht.h;cases hl:eU l s with
 |none=>
  have h1:=abU (s:=s) 0 ha hl;refine⟨es.push {key:=str s,val:= .agg us.toArray,born:=clock},clock+1,?_,?_⟩
  ·unfold Instr.mapUpdate;simp[run_underlying hm,Go.MapKept.run_getObj_map hb,Go.MapKept.run_checkKey hk (sW s),Go.MapKept.run_findKey hk h1,Go.MapKept.run_setObj_map _ hb]
  ·rw[Array.toList_push];exact afm ⟨rfl,us,rfl,hu⟩ ha hl
 |some d=>
  obtain⟨j,v,h1,⟨f,h3,h4⟩,h5⟩:=afs (c:=c) 0 ha hl;rw[Nat.zero_add]at h1;have h3':es[j]? =some f:=by rw[←h3,Array.getElem?_toList]
  refine⟨es.modify j fun e=>{e with key:=str s,val:= .agg us.toArray},clock,?_,?_⟩
  ·unfold Instr.mapUpdate;simp[run_underlying hm,Go.MapKept.run_getObj_map hb,Go.MapKept.run_checkKey hk (sW s),Go.MapKept.run_findKey hk h1,Go.MapKept.run_setObj_map _ hb,h3',h4,Go.MapKept.run_keyThatStays (sW s)]
  ·have e9:(es.modify j fun e=>{e with key:=str s,val:= .agg us.toArray}).toList=es.toList.set j {f with key:=str s,val:= .agg us.toArray}:=by
    apply List.ext_getElem?;intro i
    rw[List.getElem?_set]
    simp only[Array.toList_modify,List.getElem?_modify]
    by_cases hi:j=i
    ·subst hi;obtain⟨hlt,_⟩:=List.getElem?_eq_some_iff.1 h3
     rw[if_pos rfl,if_pos hlt,h3];simp
    ·rw[if_neg hi];simp[hi]
   rw[e9];exact h5 _ ⟨rfl,us,rfl,hu⟩
end
theorem Eff.asP{E:Env}{S X:Nat→Prop}{w w':World}{b:Nat}{A:adn}{v:Value}
  (hl:∀k,S k→k < w.heap.size) (ho:Off none' w w') (hA:A.has (E.blk b) v X (fun k=>S k∨X k) w')
  (hX:∀k,X k→w.heap.size≤k) (hXl:∀k,X k→k < w'.heap.size) (hone:v.oneCell'=true):
  Eff E S w [] ⟨.own b,[(b,.ent (.abs A))]⟩ v w' ⟨E.blk,upd E.sl b v,upd E.fp b X⟩ (fun k=>S k∨X k):=by
 have hent:∀i e,(i,Slot.ent e)∈[(b,Slot.ent (Ent.abs A))]→i=b∧e= .abs A:=by
  intro i e hi;simp at hi;exact hi
 refine
  {env:=fun i hi=>?_,fpe:=fun i hi=>?_,sub:=fun k hk=> .inl hk,new:=fun k hk=>hk.imp id (hX k),lt:=fun k hk=>?_,off:=ho.mono fun k hk=>hk.elim,res:=⟨by show v=upd E.sl b v b;rw[upd_same],hone⟩,
   ents:=fun i e hi=>?_,blk:=fun i e k hi hk=>?_,sep:=fun i i' e e' k hne h1 h2=>?_}
 ·by_cases e:i=b
  ·subst e;obtain⟨e,he⟩:=hi ⟨_,by simp;rfl⟩
   cases he
  ·exact⟨rfl,upd_ne _ _ e⟩
 ·exact upd_ne _ _ fun e=>hi (.ent (.abs A)) (by simp[e])
 ·rcases hk with hk|hk
  ·exact Nat.lt_of_lt_of_le (hl k hk) ho.size
  ·exact hXl k hk
 ·obtain⟨rfl,rfl⟩:=hent i e hi;show A.has (E.blk i) (upd E.sl i v i) (upd E.fp i X i) _ w';rw[upd_same,upd_same];exact hA
 ·obtain⟨rfl,rfl⟩:=hent i e hi;have hk':upd E.fp i X i k:=hk;rw[upd_same]at hk';exact⟨.inr hk',.inr (hX k hk')⟩
 ·obtain⟨rfl,_⟩:=hent _ _ h1;obtain⟨rfl,_⟩:=hent _ _ h2;exact absurd rfl hne
section
variable{P:Program}{C:Ctx}{st:St}
variable{ops rest:List Oper}{acc:List (List Nat×List Nat)}{K:List (List Nat×List Nat)→St→Prop}{dst:Option Tmp}{d:Tmp}{ty t:TypeId}{x y z:Operand}{zs:List Value}
theorem Go1.makeMap(hd:aA (some d) C.nt=true)(hf:st.hp d= .free)(next:Reg P C ops rest (st.app (some d) ⟨.own d,[(d,.ent (.abs (gZ [])))]⟩) (([d],[d])::acc) K):Go1 P C ops (some d) (.makeMap t none) ty rest st acc K:=
 ⟨[d],⟨.own d,[(d,.ent (.abs (gZ [])))]⟩,fun o h2 h3 h4=>by
  refine aV.eff [] [] (fun b hb=>?_) (h2▸dR hd) (fun b e hb=>by cases hb) (fun b e hb=>by cases hb) (fun b s hb=>?_) (fun b s hb=>?_) (fun st' E S a w hev hhp hs _ _=>?_)
  ·rcases hb with⟨e,hb⟩|⟨e,hb⟩|⟨s,hb⟩
   ·cases hb
   ·cases hb
   ·simp at hb;simp[hb.1]
  ·simp at hb;rw[hb.1];exact .inr hf
  ·simp at hb;rw[hb.2];rfl
  ·refine⟨⟨fun i hi=>?_,fun b e hb i hi=>?_⟩,fun K Q hK=>?_⟩
   ·simp[AV.ids,AV0.ids,Atom.ids]at hi;subst hi;simp[fJ,Slot.used]
   ·simp at hb
    obtain⟨rfl,rfl⟩:=hb;cases hi
   ·unfold Oper.wp execOp;rw[h3];have hr:(Instr.makeMap t none).run P w= .ok (.map (some w.heap.size)) (w.alloc (.map #[] 0)):=by simp[Instr.makeMap]
    simp only[hr,Option.map_none,Sem.run_bind,Sem.run_pure,Result.andThen_ok];refine hK _ _ _ _ (Eff.asP (X:=fun k=>k=w.heap.size) hs.lt (Off.alloc _ _ _) ⟨w.heap.size,#[],0,rfl,fun k=>Iff.rfl,heap_alloc_new w _,trivial⟩ (fun k hk=>by rw[hk];exact Nat.le_refl _) (fun k hk=>?_) rfl)
    rw[hk];show w.heap.size < (w.heap.push _).size;simp,next⟩
theorem Go1.ai0{b:Nat}{l:List (List UInt8×List CA)}{s:List UInt8}{c:List CA}[ht:akO P t zs](hd:aA dst C.nt=true)(hx:st.ev x=some (.own b))(hb:st.hp b= .ent (.abs (gZ l)))(hy:st.ev y=some (.v (str s)))(hl:eU l s=some c)
  (next:Reg P C ops rest (st.app dst ⟨.tup [.agg (c.map Atom.c),.one (.c (.val (.bool true)))],[]⟩) (([b],[])::acc) K):Go1 P C ops dst (.lookup t x y true) ty rest st acc K:=
 Go1.dG [(b,.abs (gZ l))] [b] (by simp) hd (by simpa using hb) (fun o ho _ st' E S a w hev hs hrd=>by
  obtain⟨⟨hv,_⟩,_⟩:=hs.ev ((hev x (by simp[ho,Op.operands])).trans hx)
  have hyv:a.eval y=str s:=(hs.ev ((hev y (by simp[ho,Op.operands])).trans hy)).1
  have h0:(gZ l).has (E.blk b) (E.sl b) (E.fp b) S w:=hs.hp b (.abs (gZ l)) (hrd b (.abs (gZ l)) (by simp))
  obtain⟨r,es,clock,h1,h2,h3,h4⟩:=h0;obtain⟨us,hrun,hall⟩:=acU (P:=P) (t:=t) h3 h4 hl;refine⟨fun i hi=>?_,.tuple #[.agg us.toArray,.bool true],?_,?_⟩
  ·exfalso
   simp only[AV.ids,List.flatMap_cons,AV0.ids,List.flatMap_nil,List.append_nil,List.mem_append,List.mem_flatMap,List.mem_map]at hi;rcases hi with⟨_,⟨_,_,rfl⟩,h⟩|h <;> cases h
  ·unfold execOp;rw[ho];simp[show a.eval x=_ from hv,h1,hyv,hrun]
  ·exact⟨[.agg us.toArray,.bool true],rfl,⟨us,rfl,wG hall⟩,rfl,trivial⟩) next
theorem aaO{E:Env}{S:Nat→Prop}{w:World}:∀{m:List CA} {us:List Value},aJ (Atom.has E S w) (m.map Atom.c) us→aJ (CA.has S w) m us
 |[],[],_=>trivial
 |_::_,_::_,h=>⟨h.1,aaO h.2⟩
 |[],_::_,h=>h.elim
 |_::_,[],h=>h.elim
theorem Eff.apY{E:Env}{S:Nat→Prop}{w w':World}{b:Nat}{A A':adn}(hl:∀k,S k→k < w.heap.size)(hS:∀k,E.fp b k→S k)(ho:Off (E.fp b) w w')(hA:A'.has (E.blk b) (E.sl b) (E.fp b) S w'):
  Eff E S w [(b,.abs A)] ⟨.v undef,[(b,.ent (.abs A'))]⟩ undef w' E S:=by
 refine
  {env:=fun i hi=>⟨rfl,rfl⟩,fpe:=fun _ _=>rfl,sub:=fun k hk=>hk,new:=fun k hk=> .inl hk,lt:=fun k hk=>Nat.lt_of_lt_of_le (hl k hk) ho.size,off:=ho.mono fun k hk=>⟨b,_,List.mem_cons_self,hk⟩,
   res:=rfl,ents:=fun i e' hi=>?_,blk:=fun i e' k hi hk=>?_,sep:=fun i i' e' e2 k hne h1 h2=>?_}
 ·simp at hi;obtain⟨rfl,rfl⟩:=hi
  exact hA
 ·simp at hi;obtain⟨rfl,rfl⟩:=hi
  exact⟨hS k hk,.inl ⟨i,_,List.mem_cons_self,hk⟩⟩
 ·simp at h1 h2;exact absurd (h1.1.trans h2.1.symm) hne
theorem Off.setObj{S:Nat→Prop}(w:World)(r:Nat)(o:Obj)(h:S r):Off S w {w with heap:=w.heap.setIfInBounds r o}:=
 ⟨rfl,rfl,rfl,by simp,fun k hk hn=>by
  have hne:k≠r:=fun e=>hn (e▸h)
  show (w.heap.setIfInBounds r o)[k]? =_;rw[Array.getElem?_setIfInBounds,if_neg (fun e=>hne e.symm)]⟩
theorem Go1.putM{b:Nat}{l:List (List UInt8×List CA)}{s:List UInt8}{la:List Atom}{c:List CA}[ht:akO P t zs](hx:st.ev x=some (.own b))(hb:st.hp b= .ent (.abs (gZ l)))(hy:st.ev y=some (.v (str s)))(hz:st.ev z=some (.agg la))(hc:aP la=some c)
  (next:Reg P C ops rest (st.app none ⟨.v undef,[(b,.ent (.abs (gZ (iR l s c))))]⟩) (([b],[b])::acc) K):Go1 P C ops none (.mapUpdate t x y z) ty rest st acc K:=by
 refine⟨[b],⟨.v undef,[(b,.ent (.abs (gZ (iR l s c))))]⟩,fun o h2 h3 h4=>aV.eff [] [(b,.abs (gZ l))] (fun i hi=>?_) (h2▸(fun x hx=>by cases hx)) (fun b e hb=>by cases hb) (fun i e hi=>?_) (fun i s hi=>?_) (fun i s hi=>?_) (fun st' E S a w hev hhp hse _ hpre=>?_),next⟩
 ·rcases hi with⟨e,hi⟩|⟨e,hi⟩|⟨s,hi⟩
  ·cases hi
  ·simp at hi;simp[hi.1]
  ·simp at hi;simp[hi.1]
 ·simp at hi
  obtain⟨rfl,rfl⟩:=hi;exact⟨hb,_,by simp;rfl⟩
 ·simp at hi;obtain⟨rfl,_⟩:=hi;exact .inl ⟨_,by simp;rfl⟩
 ·simp at hi;rw[hi.2];rfl
 ·obtain⟨⟨hv,_⟩,_⟩:=hse.ev ((hev x (by simp[h3,Op.operands])).trans hx)
  have hyv:a.eval y=str s:=(hse.ev ((hev y (by simp[h3,Op.operands])).trans hy)).1
  obtain⟨⟨us,hzv,hall⟩,_⟩:=hse.ev ((hev z (by simp[h3,Op.operands])).trans hz)
  have hb':=hpre b (.abs (gZ l)) (by simp)
  have h0:(gZ l).has (E.blk b) (E.sl b) (E.fp b) S w:=hse.hp b _ hb';have hX:∀k,E.fp b k→S k:=fun k hk=>(hse.blk b _ k hb' hk).1
  obtain⟨r,es,clock,h1,h5,h6,h7⟩:=h0;have hcl:aJ (CA.has S w) c us:=by
   rw[dK hc]at hall;exact aaO hall
  obtain⟨es',clock',hrun,h8⟩:=amK (P:=P) (t:=t) (s:=s) h6 h7 hcl;have hor:Off (E.fp b) w {w with heap:=w.heap.setIfInBounds r (.map es' clock')}:=Off.setObj w r _ ((h5 r).2 rfl);refine⟨⟨fun i hi=>(by cases hi),fun i e hi j hj=>?_⟩,fun K Q hK=>?_⟩
  ·simp at hi
   obtain⟨rfl,rfl⟩:=hi;cases hj
  ·unfold Oper.wp execOp;rw[h3];simp only[show a.eval x=_ from hv,h1,hyv,show a.eval z=_ from hzv,hrun,Sem.run_bind,Sem.run_pure,Result.andThen_ok]
   refine hK undef _ _ _ (Eff.apY hse.lt hX hor ⟨r,es',clock',h1,h5,(Go.MapKept.heap_set h6).1,h8.mono fun p e _ he=>he.step (hor.mono hX) fun k hk=> .inl hk⟩)
end
section
variable{P:Program}{C:Ctx}{st:St}
variable{ops rest:List Oper}{acc:List (List Nat×List Nat)}{K:List (List Nat×List Nat)→St→Prop}{dst:Option Tmp}{d:Tmp}{ty t:TypeId}{x y z:Operand}{zs:List Value}
theorem G.makeMap(next:Reg P C ops rest (st.app (some d) ⟨.own d,[(d,.ent (.abs (gZ [])))]⟩) (([d],[d])::acc) K)(hd:aA (some d) C.nt=true:=by rfl)(hf:st.hp d= .free:=by rfl):Go1 P C ops (some d) (.makeMap t none) ty rest st acc K:=Go1.makeMap hd hf next
theorem G.ai0{b:Nat}{l:List (List UInt8×List CA)}{s:List UInt8}{c:List CA}[ht:akO P t zs](next:Reg P C ops rest (st.app dst ⟨.tup [.agg (c.map Atom.c),.one (.c (.val (.bool true)))],[]⟩) (([b],[])::acc) K)(hd:aA dst C.nt=true:=by rfl)(hx:st.ev x=some (.own b):=by rfl)(hb:st.hp b= .ent (.abs (gZ l)):=by rfl)(hy:st.ev y=some (.v (str s)):=by rfl)(hl:eU l s=some c:=by first|(with_reducible assumption)|assumption):Go1 P C ops dst (.lookup t x y true) ty rest st acc K:=Go1.ai0 hd hx hb hy hl next
theorem G.putM{b:Nat}{l:List (List UInt8×List CA)}{s:List UInt8}{la:List Atom}{c:List CA}[ht:akO P t zs](next:Reg P C ops rest (st.app none ⟨.v undef,[(b,.ent (.abs (gZ (iR l s c))))]⟩) (([b],[b])::acc) K)(hx:st.ev x=some (.own b):=by rfl)(hb:st.hp b= .ent (.abs (gZ l)):=by rfl)(hy:st.ev y=some (.v (str s)):=by rfl)(hz:st.ev z=some (.agg la):=by rfl)(hc:aP la=some c:=by rfl):Go1 P C ops none (.mapUpdate t x y z) ty rest st acc K:=Go1.putM hx hb hy hz hc next
end
section
variable{P:Program}{C:Ctx}{st:St}
variable{ops rest:List Oper}{acc:List (List Nat×List Nat)}{K:List (List Nat×List Nat)→St→Prop}{d:Tmp}{ty t:TypeId}{x:Operand}
theorem G.ari{ι:Type}{b bb off:Nat}{φ:ι→Prop}{T:TypeId}{cells:ι→List Atom}{R:ι→List (Nat×Ent)}{u:Value}[ht:je P t](next:Reg P C ops rest (st.app (some d) ⟨.v u,[]⟩) (([b],[])::acc) K)(hd:aA (some d) C.nt=true:=by rfl)(hx:st.ev x=some (.ptr b off):=by rfl)
  (hb:st.hp b= .ent (.abs (mH bb φ T cells R)):=by rfl) (hr:∀p,(cells p)[off]? =some (.c (.val u)):=by intro p;rfl):Go1 P C ops (some d) (.load t x) ty rest st acc K:=
 Go1.dG [(b,.abs (mH bb φ T cells R))] [b] (by simp) hd (by simpa using hb) (fun o ho _ st' E S a w hev hs hrd=>by
  obtain⟨hv,_⟩:=hs.ev ((hev x (by simp[ho,Op.operands])).trans hx)
  have hb':=hrd b (.abs (mH bb φ T cells R)) (by simp)
  obtain⟨p,E2,_,hB⟩:=hs.hp b _ hb';obtain⟨cs,hg,hall⟩:=hB.box;obtain⟨u',hu,hcu⟩:=hall.get (hr p);have e:u'=u:=hcu;subst e;refine⟨fun i hi=>(by cases hi),u',?_,rfl⟩
  unfold execOp;rw[ho];simp[show a.eval x=_ from hv,Instr.loadAt,Instr.sureAddr,vw ht w hg hu]) next
theorem G.aje{ι:Type}{b bb off:Nat}{φ:ι→Prop}{T:TypeId}{cells:ι→List Atom}{R:ι→List (Nat×Ent)}{m:List CA}[ht:gU P t 15](next:Reg P C ops rest (st.app (some d) ⟨.agg (m.map Atom.c),[]⟩) (([b],[])::acc) K)(hd:aA (some d) C.nt=true:=by rfl)(hx:st.ev x=some (.ptr b off):=by rfl)
  (hb:st.hp b= .ent (.abs (mH bb φ T cells R)):=by rfl) (hr:∀p,aP (((cells p).drop off).take 15)=some m:=by intro p;rfl) (hl:∀p,Nat.ble (off+15) (cells p).length=true:=by intro p;rfl):Go1 P C ops (some d) (.load t x) ty rest st acc K:=
 Go1.dG [(b,.abs (mH bb φ T cells R))] [b] (by simp) hd (by simpa using hb) (fun o ho _ st' E S a w hev hs hrd=>by
  obtain⟨hv,_⟩:=hs.ev ((hev x (by simp[ho,Op.operands])).trans hx)
  have hb':=hrd b (.abs (mH bb φ T cells R)) (by simp)
  obtain⟨p,E2,_,hB⟩:=hs.hp b _ hb';obtain⟨cs,hg,hall⟩:=hB.box;have hlen:=hall.length;have hl:=hl p;rw[Nat.ble_eq]at hl;have hrun:=pq (P:=P) (n:=15) (off:=off) ht w hg (by omega)
  have hcl:=(hall.drop off).take 15;rw[dK (hr p)]at hcl;refine⟨fun i hi=>?_,.agg ((cs.drop off).take 15).toArray,?_,?_⟩
  ·exfalso
   simp only[AV.ids,AV0.ids,List.mem_flatMap,List.mem_map]at hi;obtain⟨_,⟨_,_,rfl⟩,h⟩:=hi;cases h
  ·unfold execOp;rw[ho];simp[show a.eval x=_ from hv,Instr.loadAt,Instr.sureAddr,hrun]
  ·exact⟨_,rfl,wG (aaO hcl)⟩) next
end
section
variable{P:Program}{C:Ctx}{st:St}
variable{ops rest:List Oper}{acc:List (List Nat×List Nat)}{K:List (List Nat×List Nat)→St→Prop}{d:Tmp}{ty t:TypeId}
theorem G.ai2{pl:List (Nat×Nat)}{zs:List Value}{parts:Array (Nat×Operand)}{ps:List (Nat×AV0)}{a1 a2 a3 a4 a5 a6 a7 a8 a9 a10 a11 a12 a13 a14 a15 a16 a17:Atom}[ht:dA P t pl][hz:fH P t zs](next:Reg P C ops rest (st.app (some d) ⟨.agg [a1,a2,a3,a4,a5,a6,a7,a8,a9,a10,a11,a12,a13,a14,a15,a16,a17],[]⟩) (([],[])::acc) K)(hd:aA (some d) C.nt=true:=by rfl)(hp:evp st parts.toList=some ps:=by rfl)(h1:(ps.all fun p=>p.2.cells.all Atom.dO)=true:=by rfl)(hf:fq pl (zs.map fun v=>Atom.c (.val v)) ps=some [a1,a2,a3,a4,a5,a6,a7,a8,a9,a10,a11,a12,a13,a14,a15,a16,a17]:=by rfl):Go1 P C ops (some d) (.build t parts) ty rest st acc K:=
 Go1.build hd hp h1 hf next
theorem aj.lC{u:Tmp}{T T':TypeId}{b off:Nat}{cells:List Atom}{a1 a2 a3 a4 a5 a6 a7 a8 a9 a10 a11 a12 a13 a14 a15 a16 a17:Atom}[ht:gU P T 17](h:st.tm u=some (.ptr b off))(hb:st.hp b= .ent (.box T' cells))(hr:(cells.drop off).take 17=[a1,a2,a3,a4,a5,a6,a7,a8,a9,a10,a11,a12,a13,a14,a15,a16,a17]):aj P st (.cell u T) (.agg [a1,a2,a3,a4,a5,a6,a7,a8,a9,a10,a11,a12,a13,a14,a15,a16,a17]):=
 aj.agg h hb (by have:=congrArg List.length hr;simp at this;rw[Nat.ble_eq];omega) hr
theorem G.aiR{pl:List (Nat×Nat)}{zs:List Value}{parts:Array (Nat×Operand)}{ps:List (Nat×AV0)}{a1 a2 a3 a4 a5 a6 a7 a8 a9 a10 a11 a12 a13 a14 a15 a16 a17 a18 a19 a20 a21:Atom}[ht:dA P t pl][hz:fH P t zs](next:Reg P C ops rest (st.app (some d) ⟨.agg [a1,a2,a3,a4,a5,a6,a7,a8,a9,a10,a11,a12,a13,a14,a15,a16,a17,a18,a19,a20,a21],[]⟩) (([],[])::acc) K)(hd:aA (some d) C.nt=true:=by rfl)(hp:evp st parts.toList=some ps:=by rfl)(h1:(ps.all fun p=>p.2.cells.all Atom.dO)=true:=by rfl)(hf:fq pl (zs.map fun v=>Atom.c (.val v)) ps=some [a1,a2,a3,a4,a5,a6,a7,a8,a9,a10,a11,a12,a13,a14,a15,a16,a17,a18,a19,a20,a21]:=by rfl):Go1 P C ops (some d) (.build t parts) ty rest st acc K:=
 Go1.build hd hp h1 hf next
end
structure HeldM(q:Prop):Prop where
 out:q
theorem goM{p q:Prop}(h:q)(k:HeldM q→p:=by
  intro h
  (first
   |(refine SX.Go1.is ?_;first
     |(refine SX.Go1.isLoad ?_;first|refine SX.G.ko ?_|refine SX.G.jV ?_|refine SX.G.ig ?_|refine SX.G.iC ?_|refine SX.G.kg ?_|refine SX.G.iA ?_|refine SX.G.load5 ?_|refine SX.G.acO ?_|refine SX.G.amM ?_|refine SX.G.ahX ?_|refine SX.G.zY ?_|refine SX.G.loadH ?_|refine SX.G.loadHI ?_|refine SX.G.loadOWA ?_|refine SX.G.loadOW2 ?_|refine SX.G.jX ?_|refine SX.G.iB ?_|refine SX.G.lJ ?_|refine SX.G.iH ?_)
     |(refine SX.Go1.lU ?_;first|refine SX.G.lss ?_|refine SX.G.eql ?_|refine SX.G.eqlNilT ?_|refine SX.G.eqlNilF ?_|refine SX.G.neq ?_|refine SX.G.gtr ?_|refine SX.G.geq ?_|refine SX.G.leq ?_|refine SX.G.addN ?_|refine SX.G.nU ?_|refine SX.G.wH ?_|refine SX.G.subNu ?_|refine SX.G.add ?_|refine SX.G.sub ?_|refine SX.G.mulN ?_|refine SX.G.nY ?_|refine SX.G.mul ?_|refine SX.G.quoN ?_|refine SX.G.nS ?_|refine SX.G.quo ?_|refine SX.G.wF ?_|refine SX.G.nI ?_|refine SX.G.rem ?_|refine SX.G.vU ?_|refine SX.G.ahO ?_|refine SX.G.ai3 ?_|refine SX.G.ahK ?_|refine SX.G.xC ?_|refine SX.G.qQ ?_|refine SX.G.qP ?_|refine SX.G.shr ?_|refine SX.G.shl ?_|refine SX.G.and ?_|refine SX.G.wX ?_)
     |(refine SX.Go1.tF ?_;first|refine SX.G.not ?_|refine SX.G.neg ?_)
     |(refine SX.Go1.isField ?_;first|refine SX.G.fieldAddr ?_|refine SX.G.bZ ?_)
     |(refine SX.Go1.gG ?_;first|refine SX.G.sG ?_|refine SX.G.ao0 ?_|refine SX.G.iq ?_|refine SX.G.iw ?_|refine SX.G.iy ?_|refine SX.G.build5 ?_|refine SX.G.zX ?_|refine SX.G.ai2 ?_|refine SX.G.aiR ?_|refine SX.G.build ?_)
     |(refine SX.Go1.gH ?_;first|refine SX.G.store ?_|refine SX.G.lK ?_|refine SX.G.storeH ?_|refine SX.G.storeHI ?_|refine SX.G.ng ?_|refine SX.G.jc ?_)
     |(refine SX.Go1.tJ ?_;first|refine SX.G.dV ?_|refine SX.G.dS ?_|refine SX.G.dD ?_|refine SX.G.indexAddrH ?_|refine SX.G.cK ?_|refine SX.G.indexAddrA ?_|refine SX.G.indexAddrG ?_)
     |(refine SX.Go1.eT ?_;first|refine SX.G.lit0Own ?_|refine SX.G.litH ?_|refine SX.G.lM ?_|refine SX.G.nE ?_|refine SX.G.afA ?_|refine SX.G.afH ?_|refine SX.G.qM ?_)
     |(refine SX.Go1.bJ ?_;first|refine SX.G.minN ?_|refine SX.G.wo ?_|refine SX.G.maxL ?_|refine SX.G.maxR ?_|refine SX.G.qL ?_|refine SX.G.lenN ?_|refine SX.G.vo ?_|refine SX.G.su ?_|refine SX.G.qN ?_|refine SX.G.gF ?_|refine SX.G.appendNilW ?_|refine SX.G.zT ?_|refine SX.G.sliceDataN ?_|refine SX.G.pY ?_|refine SX.G.unsafeStrN ?_|refine SX.G.oU ?_|refine SX.G.lenH ?_|refine SX.G.appendH ?_|refine SX.G.acj ?_|refine SX.G.yT ?_|refine SX.G.tV ?_|refine SX.G.jg ?_|refine SX.G.call ?_)
     |refine SX.G.move ?_|refine SX.G.assign ?_|refine SX.G.extract ?_|refine SX.G.afk ?_|refine SX.G.box ?_|refine SX.G.nk ?_|refine SX.G.alloc ?_|refine SX.G.j5 ?_|refine SX.G.nilCheckR ?_|refine SX.G.ajN ?_|refine SX.G.ajg ?_|refine SX.G.yK ?_|refine SX.G.yO ?_|refine SX.G.pick ?_|refine SX.R.nX ?_|refine SX.R.nQ ?_|refine SX.G.pickB ?_|refine SX.G.pickV ?_|refine SX.G.qI ?_|refine SX.G.aiT ?_|refine SX.G.makeC ?_|refine SX.G.qx ?_|refine SX.G.conv ?_|refine SX.G.lQ ?_|refine SX.G.ad8 ?_|refine SX.G.sliceH ?_|refine SX.G.fQ ?_|refine SX.G.sliceLoW ?_|refine SX.G.fE ?_|refine SX.G.sliceLoR ?_|refine SX.G.sliceHiO ?_|refine SX.G.fT ?_|refine SX.G.fV ?_|refine SX.G.sliceLHT ?_|refine SX.G.ari ?_|refine SX.G.aje ?_|refine SX.G.ai0 ?_|refine SX.G.lookM0 ?_|refine SX.G.putM ?_|refine SX.G.makeMap ?_|refine SX.G.sj ?_|refine SX.G.jI ?_|refine SX.G.eG ?_|refine SX.G.eH ?_|refine SX.G.sliceLHS ?_|refine SX.G.iK ?_)
   |(refine SX.Reg.is ?_;first|refine SX.Reg.go ?_|refine SX.R.runT ?_|refine SX.R.wS ?_|refine SX.R.nJ ?_|refine SX.R.nW ?_|refine SX.R.lS ?_|refine SX.Reg.nil ⟨by kernel_rfl,?_⟩|refine SX.Reg.nil ?_)
   |(refine SX.WP.is ?_;first|refine SX.WP.seq ?_|refine SX.WP.zB (by rfl) ?_|refine SX.WP.uW (by rfl) (by kernel_rfl) ?_|refine SX.WP.block ?_|refine SX.WP.skip ?_|refine SX.WP.exit ?_|refine SX.WP.ret ?_|refine SX.WP.label ?_|refine SX.W.lV ?_|refine SX.W.jF ?_)
   |refine SX.lF ?_|refine SX.mU ?_|refine SX.nK ?_|refine SX.jK ?_|refine SX.jL ?_|refine SX.jo ?_|refine SX.jR rfl ?_|refine SX.vg ?_|refine SX.retN ?_|refine SX.qp ?_|refine SX.qE ?_)
  repeat(first
   |(refine SX.Go1.is ?_;first
     |(refine SX.Go1.isLoad ?_;first|refine SX.G.ko ?_|refine SX.G.jV ?_|refine SX.G.ig ?_|refine SX.G.iC ?_|refine SX.G.kg ?_|refine SX.G.iA ?_|refine SX.G.load5 ?_|refine SX.G.acO ?_|refine SX.G.amM ?_|refine SX.G.ahX ?_|refine SX.G.zY ?_|refine SX.G.loadH ?_|refine SX.G.loadHI ?_|refine SX.G.loadOWA ?_|refine SX.G.loadOW2 ?_|refine SX.G.jX ?_|refine SX.G.iB ?_|refine SX.G.lJ ?_|refine SX.G.iH ?_)
     |(refine SX.Go1.lU ?_;first|refine SX.G.lss ?_|refine SX.G.eql ?_|refine SX.G.eqlNilT ?_|refine SX.G.eqlNilF ?_|refine SX.G.neq ?_|refine SX.G.gtr ?_|refine SX.G.geq ?_|refine SX.G.leq ?_|refine SX.G.addN ?_|refine SX.G.nU ?_|refine SX.G.wH ?_|refine SX.G.subNu ?_|refine SX.G.add ?_|refine SX.G.sub ?_|refine SX.G.mulN ?_|refine SX.G.nY ?_|refine SX.G.mul ?_|refine SX.G.quoN ?_|refine SX.G.nS ?_|refine SX.G.quo ?_|refine SX.G.wF ?_|refine SX.G.nI ?_|refine SX.G.rem ?_|refine SX.G.vU ?_|refine SX.G.ahO ?_|refine SX.G.ai3 ?_|refine SX.G.ahK ?_|refine SX.G.xC ?_|refine SX.G.qQ ?_|refine SX.G.qP ?_|refine SX.G.shr ?_|refine SX.G.shl ?_|refine SX.G.and ?_|refine SX.G.wX ?_)
     |(refine SX.Go1.tF ?_;first|refine SX.G.not ?_|refine SX.G.neg ?_)
     |(refine SX.Go1.isField ?_;first|refine SX.G.fieldAddr ?_|refine SX.G.bZ ?_)
     |(refine SX.Go1.gG ?_;first|refine SX.G.sG ?_|refine SX.G.ao0 ?_|refine SX.G.iq ?_|refine SX.G.iw ?_|refine SX.G.iy ?_|refine SX.G.build5 ?_|refine SX.G.zX ?_|refine SX.G.ai2 ?_|refine SX.G.aiR ?_|refine SX.G.build ?_)
     |(refine SX.Go1.gH ?_;first|refine SX.G.store ?_|refine SX.G.lK ?_|refine SX.G.storeH ?_|refine SX.G.storeHI ?_|refine SX.G.ng ?_|refine SX.G.jc ?_)
     |(refine SX.Go1.tJ ?_;first|refine SX.G.dV ?_|refine SX.G.dS ?_|refine SX.G.dD ?_|refine SX.G.indexAddrH ?_|refine SX.G.cK ?_|refine SX.G.indexAddrA ?_|refine SX.G.indexAddrG ?_)
     |(refine SX.Go1.eT ?_;first|refine SX.G.lit0Own ?_|refine SX.G.litH ?_|refine SX.G.lM ?_|refine SX.G.nE ?_|refine SX.G.afA ?_|refine SX.G.afH ?_|refine SX.G.qM ?_)
     |(refine SX.Go1.bJ ?_;first|refine SX.G.minN ?_|refine SX.G.wo ?_|refine SX.G.maxL ?_|refine SX.G.maxR ?_|refine SX.G.qL ?_|refine SX.G.lenN ?_|refine SX.G.vo ?_|refine SX.G.su ?_|refine SX.G.qN ?_|refine SX.G.gF ?_|refine SX.G.appendNilW ?_|refine SX.G.zT ?_|refine SX.G.sliceDataN ?_|refine SX.G.pY ?_|refine SX.G.unsafeStrN ?_|refine SX.G.oU ?_|refine SX.G.lenH ?_|refine SX.G.appendH ?_|refine SX.G.acj ?_|refine SX.G.yT ?_|refine SX.G.tV ?_|refine SX.G.jg ?_|refine SX.G.call ?_)
     |refine SX.G.move ?_|refine SX.G.assign ?_|refine SX.G.extract ?_|refine SX.G.afk ?_|refine SX.G.box ?_|refine SX.G.nk ?_|refine SX.G.alloc ?_|refine SX.G.j5 ?_|refine SX.G.nilCheckR ?_|refine SX.G.ajN ?_|refine SX.G.ajg ?_|refine SX.G.yK ?_|refine SX.G.yO ?_|refine SX.G.pick ?_|refine SX.R.nX ?_|refine SX.R.nQ ?_|refine SX.G.pickB ?_|refine SX.G.pickV ?_|refine SX.G.qI ?_|refine SX.G.aiT ?_|refine SX.G.makeC ?_|refine SX.G.qx ?_|refine SX.G.conv ?_|refine SX.G.lQ ?_|refine SX.G.ad8 ?_|refine SX.G.sliceH ?_|refine SX.G.fQ ?_|refine SX.G.sliceLoW ?_|refine SX.G.fE ?_|refine SX.G.sliceLoR ?_|refine SX.G.sliceHiO ?_|refine SX.G.fT ?_|refine SX.G.fV ?_|refine SX.G.sliceLHT ?_|refine SX.G.ari ?_|refine SX.G.aje ?_|refine SX.G.ai0 ?_|refine SX.G.lookM0 ?_|refine SX.G.putM ?_|refine SX.G.makeMap ?_|refine SX.G.sj ?_|refine SX.G.jI ?_|refine SX.G.eG ?_|refine SX.G.eH ?_|refine SX.G.sliceLHS ?_|refine SX.G.iK ?_)
   |(refine SX.Reg.is ?_;first|refine SX.Reg.go ?_|refine SX.R.runT ?_|refine SX.R.wS ?_|refine SX.R.nJ ?_|refine SX.R.nW ?_|refine SX.R.lS ?_|refine SX.Reg.nil ⟨by kernel_rfl,?_⟩|refine SX.Reg.nil ?_)
   |(refine SX.WP.is ?_;first|refine SX.WP.seq ?_|refine SX.WP.zB (by rfl) ?_|refine SX.WP.uW (by rfl) (by kernel_rfl) ?_|refine SX.WP.block ?_|refine SX.WP.skip ?_|refine SX.WP.exit ?_|refine SX.WP.ret ?_|refine SX.WP.label ?_|refine SX.W.lV ?_|refine SX.W.jF ?_)
   |refine SX.lF ?_|refine SX.mU ?_|refine SX.nK ?_|refine SX.jK ?_|refine SX.jL ?_|refine SX.jo ?_|refine SX.jR rfl ?_|refine SX.vg ?_|refine SX.retN ?_|refine SX.qp ?_|refine SX.qE ?_)
  exact h.out):p:=k ⟨h⟩
end
section
open Go Go.RowKit Go.ChangeShapes Go.WideShapes Go.ChangeAt Go.Joins
section
variable{H:Type}{enc:TypeId×Value→H}{P:Program}{W:World}{base:Nat}{sp:Nat→Bool}{hd:Bool}
theorem aeU{n:Nat}{α0 α1 α2 α3 α4 α5 α6 α7:Type}{t:TypeId}{f0 f1 f2 f3 f4 f5 f6 f7:Go.Field}{e0:α0→List CA}{e1:α1→List CA}{e2:α2→List CA}{e3:α3→List CA}{e4:α4→List CA}{e5:α5→List CA}{e6:α6→List CA}{e7:α7→List CA}{φ0:α0→Prop}{φ1:α1→Prop}{φ2:α2→Prop}{φ3:α3→Prop}{φ4:α4→Prop}{φ5:α5→Prop}{φ6:α6→Prop}{φ7:α7→Prop}(ht:P.underlying t=some (.struct #[f0,f1,f2,f3,f4,f5,f6,f7]))
  (o0:f0.offset=0) (o1:f1.offset=P.cellsOf f0.type) (o2:f2.offset=P.cellsOf f0.type+P.cellsOf f1.type) (o3:f3.offset=P.cellsOf f0.type+P.cellsOf f1.type+P.cellsOf f2.type) (o4:f4.offset=P.cellsOf f0.type+P.cellsOf f1.type+P.cellsOf f2.type+P.cellsOf f3.type) (o5:f5.offset=P.cellsOf f0.type+P.cellsOf f1.type+P.cellsOf f2.type+P.cellsOf f3.type+P.cellsOf f4.type) (o6:f6.offset=P.cellsOf f0.type+P.cellsOf f1.type+P.cellsOf f2.type+P.cellsOf f3.type+P.cellsOf f4.type+P.cellsOf f5.type) (o7:f7.offset=P.cellsOf f0.type+P.cellsOf f1.type+P.cellsOf f2.type+P.cellsOf f3.type+P.cellsOf f4.type+P.cellsOf f5.type+P.cellsOf f6.type) (hs:P.cellsOf t=P.cellsOf f0.type+P.cellsOf f1.type+P.cellsOf f2.type+P.cellsOf f3.type+P.cellsOf f4.type+P.cellsOf f5.type+P.cellsOf f6.type+P.cellsOf f7.type)
  (h0:d9 enc P W base sp hd n f0.type e0 φ0) (h1:d9 enc P W base sp hd n f1.type e1 φ1) (h2:d9 enc P W base sp hd n f2.type e2 φ2) (h3:d9 enc P W base sp hd n f3.type e3 φ3) (h4:d9 enc P W base sp hd n f4.type e4 φ4) (h5:d9 enc P W base sp hd n f5.type e5 φ5) (h6:d9 enc P W base sp hd n f6.type e6 φ6) (h7:d9 enc P W base sp hd n f7.type e7 φ7):
  d9 enc P W base sp hd (n+1) t (fun p:α0×α1×α2×α3×α4×α5×α6×α7=>e0 (p.1)++(e1 (p.2.1)++(e2 (p.2.2.1)++(e3 (p.2.2.2.1)++(e4 (p.2.2.2.2.1)++(e5 (p.2.2.2.2.2.1)++(e6 (p.2.2.2.2.2.2.1)++(e7 (p.2.2.2.2.2.2.2))))))))) (fun p=>φ0 (p.1)∧φ1 (p.2.1)∧φ2 (p.2.2.1)∧φ3 (p.2.2.2.1)∧φ4 (p.2.2.2.2.1)∧φ5 (p.2.2.2.2.2.1)∧φ6 (p.2.2.2.2.2.2.1)∧φ7 (p.2.2.2.2.2.2.2)):=fun cs x hx=>by
 obtain⟨xs,m,hm,_,hl,hlen,hf⟩:=DataW.trod_struct ht hx;cases hm
 match xs,hlen with
 |[y0,y1,y2,y3,y4,y5,y6,y7],_=>
  have g0:=hf 0 f0 rfl;have g1:=hf 1 f1 rfl;have g2:=hf 2 f2 rfl;have g3:=hf 3 f3 rfl;have g4:=hf 4 f4 rfl;have g5:=hf 5 f5 rfl;have g6:=hf 6 f6 rfl;have g7:=hf 7 f7 rfl;rw[o0,List.drop_zero]at g0;rw[o1]at g1;rw[o2]at g2;rw[o3]at g3;rw[o4]at g4;rw[o5]at g5;rw[o6]at g6;rw[o7]at g7;obtain⟨a0,w0,h0⟩:=h0 _ _ g0;obtain⟨a1,w1,h1⟩:=h1 _ _ g1;obtain⟨a2,w2,h2⟩:=h2 _ _ g2;obtain⟨a3,w3,h3⟩:=h3 _ _ g3;obtain⟨a4,w4,h4⟩:=h4 _ _ g4;obtain⟨a5,w5,h5⟩:=h5 _ _ g5;obtain⟨a6,w6,h6⟩:=h6 _ _ g6;obtain⟨a7,w7,h7⟩:=h7 _ _ g7;rw[List.take_of_length_le (by rw[List.length_drop];omega)]at h7
  exact⟨(a0,a1,a2,a3,a4,a5,a6,a7),⟨w0,w1,w2,w3,w4,w5,w6,w7⟩,(aJ.cut _ h0 (aJ.cut _ (by simp only[List.drop_drop,Nat.add_assoc]at h1 ⊢;exact h1) (aJ.cut _ (by simp only[List.drop_drop,Nat.add_assoc]at h2 ⊢;exact h2) (aJ.cut _ (by simp only[List.drop_drop,Nat.add_assoc]at h3 ⊢;exact h3) (aJ.cut _ (by simp only[List.drop_drop,Nat.add_assoc]at h4 ⊢;exact h4) (aJ.cut _ (by simp only[List.drop_drop,Nat.add_assoc]at h5 ⊢;exact h5) (aJ.cut _ (by simp only[List.drop_drop,Nat.add_assoc]at h6 ⊢;exact h6) (by simp only[List.drop_drop,Nat.add_assoc]at h7 ⊢;exact h7))))))))⟩
end
end
section
open Go Go.RowKit
def B3(C:Ctx):Prop:=∀k,C.B k→k=C.E0.blk 81∨C.E0.sl 82= .map (some k)∨(C.E0.sl 84).ownBlock=some k
abbrev vC(t:TypeId)(cs:List Atom)(l:List (List UInt8×List CA))(t2:TypeId)(size n:Nat)(cells:List CA):List (Nat×Ent):=[(81,.box t cs),(82,.abs (gZ l)),(84,.row t2 size n cells)]
theorem ah.fnM{P:Program}{f:FuncId}{fn:Func}{c:Code}{args:List AV}{t:TypeId}{cs:List Atom}{l:List (List UInt8×List CA)}{t2:TypeId}{size n:Nat}{cells:List CA}{out:Out}{nt:Nat}{rs:List ResultVar}(hf:P.funcs[f]? =some fn)(hres:fn.results=rs.toArray)(hnt:fn.ntmps=nt)(hb:fn.body=some c)(hn:(fn.name== "runtime.NumGoroutine")=false)(hna:Nat.ble args.length nt=true)
  (p3:(args.all fun v=>v.ids.all (jD [81,82,84]))=true) (p4:(cs.all fun a=>a.ids.all (jD [81,82,84]))=true) (p5:([81,82,84].all (jD (out.hp.map (·.1))))=true)
  (p6:((out.res.ids++out.hp.flatMap fun p=>p.2.ids).all fun i=>jD [81,82,84] i||jD (out.hp.map (·.1)) i)=true)
  (h:∀(w0:World) (T B:Nat→Prop) (E0:Env),B3 ⟨w0,T,B,nt,E0,fun b=>(lk (vC t cs l t2 size n cells) b).isSome⟩→WP P ⟨w0,T,B,nt,E0,fun b=>(lk (vC t cs l t2 size n cells) b).isSome⟩ c ⟨fun t=>args[t]?,fun b=>match lk (vC t cs l t2 size n cells) b with|some e=> .ent e|none=> .free⟩ (bN ⟨w0,T,B,nt,E0,fun b=>(lk (vC t cs l t2 size n cells) b).isSome⟩ P rs out)):ah P f args (vC t cs l t2 size n cells) out:=by
 have e0:(vC t cs l t2 size n cells).map (·.1)=[81,82,84]:=rfl;have p1:nodupB ((vC t cs l t2 size n cells).map (·.1))=true:=rfl;have e1:(fun b=>((vC t cs l t2 size n cells).lookup b).isSome)=fun b=>(lk (vC t cs l t2 size n cells) b).isSome:=funext fun b=>by rw[fB]
 have e2:iV args (vC t cs l t2 size n cells)=⟨fun t=>args[t]?,fun b=>match lk (vC t cs l t2 size n cells) b with|some e=> .ent e|none=> .free⟩:=by
  unfold iV
  congr 1
  funext b
  rw[fB];cases lk (vC t cs l t2 size n cells) b <;> rfl
 have key:∀i,jD [81,82,84] i=true→((vC t cs l t2 size n cells).lookup i).isSome=true:=fun i hi=>by rw[fB];exact ny (dZ.1 hi)
 have hm3:∀b e,(b,e)∈vC t cs l t2 size n cells→(b=81∧e= .box t cs)∨(b=82∧e= .abs (gZ l))∨(b=84∧e= .row t2 size n cells):=fun b e hb=>by simpa using hb
 refine ah.fnH hf hres hnt hb hn hna (fun b e hb=>by rw[fB];exact ada p1 hb) (fun v hv i hi=>key i (List.all_eq_true.1 (List.all_eq_true.1 p3 v hv) i hi)) (fun b e hb i hi=>?_) (fun b e hb=>?_) (fun i hi=>?_) (fun w0 T B E0 hB hH=>?_)
 ·rcases hm3 b e hb with⟨rfl,rfl⟩|⟨rfl,rfl⟩|⟨rfl,rfl⟩
  ·obtain⟨a,ha,hi⟩:=List.mem_flatMap.1 (show i∈cs.flatMap Atom.ids from hi)
   exact key i (List.all_eq_true.1 (List.all_eq_true.1 p4 a ha) i hi)
  ·cases hi
  ·cases hi
 ·have hmem:b∈[81,82,84]:=by rw[←e0];exact List.mem_map.2 ⟨(b,e),hb,rfl⟩
  obtain⟨⟨b',s⟩,hs,rfl⟩:=List.mem_map.1 (dZ.1 (List.all_eq_true.1 p5 b hmem));exact⟨s,hs⟩
 ·have hi':i∈out.res.ids++out.hp.flatMap fun p=>p.2.ids:=by
   rw[List.mem_append];rcases hi with hi|⟨b,e,hb,hi⟩
   ·exact .inl hi
   ·exact .inr (List.mem_flatMap.2 ⟨(b,.ent e),hb,hi⟩)
  have:=List.all_eq_true.1 p6 i hi';rw[Bool.or_eq_true]at this;rcases this with h|h
  ·exact .inl (key i h)
  ·obtain⟨⟨b',s⟩,hs,rfl⟩:=List.mem_map.1 (dZ.1 h);exact .inr ⟨s,hs⟩
 ·rw[e1,e2];refine WP.bN (h w0 T B E0 fun k hk=>?_)
  obtain⟨b,e,hb,hk⟩:=hB k hk;obtain⟨S,w,hh⟩:=hH b e hb;rcases hm3 b e hb with⟨rfl,rfl⟩|⟨rfl,rfl⟩|⟨rfl,rfl⟩
  ·exact .inl (Option.some.inj hk).symm
  ·obtain⟨r,es,clock,h1,h2,_⟩:=hh;exact .inr (.inl (by
    show E0.sl 82=_;rw[h1,(h2 k).1 hk]))
  ·exact .inr (.inr hk)
theorem St.ajk{C:Ctx}{st:St}{b size n:Nat}{t:TypeId}{cells:List CA}{t1:TypeId}{cs:List Atom}{l:List (List UInt8×List CA)}{t2:TypeId}{size2 n2:Nat}{cells2:List CA}(hB:B3 C)(h81:st.hp 81= .ent (.box t1 cs))(h82:st.hp 82= .ent (.abs (gZ l)))(h84:st.hp 84= .ent (.row t2 size2 n2 cells2))
  (f1:C.fix 81=true) (f2:C.fix 82=true) (f3:C.fix 84=true) (hne:(Nat.beq b 81||Nat.beq b 82||Nat.beq b 84)=false) (hb:st.hp b= .ent (.row t size n cells)):St.le C st (st.frz b size n cells):=
 St.ad1 (fun E S a w hs k hk=>((hs.blk b _ k hb hk).2).elim (fun hk'=>by
  have n1:b≠81:=fun e=>by subst e;simp at hne
  have n2:b≠82:=fun e=>by subst e;simp at hne
  have n3:b≠84:=fun e=>by subst e;simp at hne
  rcases hB k hk' with h|h|h
  ·refine absurd ?_ (hs.sep b 81 _ _ _ n1 hb h81 hk);show some (E.blk 81)=some k;rw[(hs.env 81 f1).1,h]
  ·refine absurd ?_ (hs.sep b 82 _ _ _ n2 hb h82 hk);obtain⟨r,es,clock,g1,g2,_⟩:=hs.hp 82 _ h82;rw[(hs.env 82 f2).2.1,h]at g1;show E.fp 82 k;rw[g2]
   injection g1 with g1
   exact Option.some.inj g1
  ·refine absurd ?_ (hs.sep b 84 _ _ _ n3 hb h84 hk);show (E.sl 84).ownBlock=some k;rw[(hs.env 84 f3).2.1,h]) id) hb
theorem WP.ahH{P:Program}{C:Ctx}{st:St}{Q:Exit→St→Prop}{c:Code}{t:TypeId}(b:Nat){size n:Nat}{cells:List CA}{t1:TypeId}{cs:List Atom}{l:List (List UInt8×List CA)}{t2:TypeId}{size2 n2:Nat}{cells2:List CA}(hB:B3 C)(hb:st.hp b= .ent (.row t size n cells))(h81:st.hp 81= .ent (.box t1 cs))(h82:st.hp 82= .ent (.abs (gZ l)))(h84:st.hp 84= .ent (.row t2 size2 n2 cells2))
  (h:WP P C c (st.frz b size n cells) Q) (f1:C.fix 81=true:=by rfl) (f2:C.fix 82=true:=by rfl) (f3:C.fix 84=true:=by rfl) (hne:(Nat.beq b 81||Nat.beq b 82||Nat.beq b 84)=false:=by rfl):WP P C c st Q:=
 WP.weaken (St.ajk hB h81 h82 h84 f1 f2 f3 hne hb) h
theorem aN.frzM{P:Program}{C:Ctx}{st:St}{rs:List ResultVar}{out:Out}{t:TypeId}(b:Nat){size n:Nat}{cells:List CA}{t1:TypeId}{cs:List Atom}{l:List (List UInt8×List CA)}{t2:TypeId}{size2 n2:Nat}{cells2:List CA}(hB:B3 C)(hb:st.hp b= .ent (.row t size n cells))(h81:st.hp 81= .ent (.box t1 cs))(h82:st.hp 82= .ent (.abs (gZ l)))(h84:st.hp 84= .ent (.row t2 size2 n2 cells2))
  (h:aN C P rs out (st.frz b size n cells)) (f1:C.fix 81=true:=by rfl) (f2:C.fix 82=true:=by rfl) (f3:C.fix 84=true:=by rfl) (hne:(Nat.beq b 81||Nat.beq b 82||Nat.beq b 84)=false:=by rfl):aN C P rs out st:=by
 obtain⟨s',hl,hr⟩:=h;exact⟨s',fun a w hs=>hl a w (St.ajk hB h81 h82 h84 f1 f2 f3 hne hb a w hs),hr⟩
theorem ah.bun{P:Program}{f:FuncId}{args:List AV}{r:AV}{b:Nat}{t:TypeId}{cells cells':List Atom}{R R':List (Nat×Ent)}(h:ah P f args ((b,.box t cells)::R) ⟨r,(b,.ent (.box t cells'))::R'.map fun q=>(q.1,.ent q.2)⟩)
  (hargs:∀v∈args,∀i∈v.ids,i=b) (hr:r.ids=[]) (hbn:∀e,(b,e)∉R'):
  ah P f args [(b,.abs (mH b (fun _:Unit=>True) t (fun _=>cells) (fun _=>R)))] ⟨r,[(b,.ent (.abs (mH b (fun _:Unit=>True) t (fun _=>cells') (fun _=>R'))))]⟩:=by
 obtain⟨h0,h⟩:=h;refine⟨h0,fun E S w vs hl hgl hall hpre hblk hsep=>?_⟩
 obtain⟨p,Ep,⟨hs1,hs2⟩,hB⟩:∃(p:Unit) (Ep:Env),(Ep.blk b=E.blk b∧Ep.sl b=E.sl b)∧aaU (fun _:Unit=>True) t (fun _=>cells) (fun _=>R) (E.blk b) (E.fp b) S w p Ep:=hpre b _ (List.mem_singleton.2 rfl)
 have hX:∀k,E.fp b k→S k:=fun k hk=>hblk b _ k (List.mem_singleton.2 rfl) hk
 have hmem:∀i e,(i,e)∈(b,Ent.box t cells)::R→(i=b∧e= .box t cells)∨(i,e)∈R:=fun i e hi=>by
  rcases List.mem_cons.1 hi with hi|hi
  ·cases hi;exact .inl ⟨rfl,rfl⟩
  ·exact .inr hi
 have hfp:∀i e k,(i,e)∈(b,Ent.box t cells)::R→e.at Ep i k→E.fp b k:=fun i e k hi hk=>by
  rcases hmem i e hi with⟨rfl,rfl⟩|hi
  ·have hk':some (Ep.blk i)=some k:=hk;rw[hs1]at hk';exact(hB.X k).2 (.inl (Option.some.inj hk').symm)
  ·exact(hB.X k).2 (.inr ⟨i,e,hi,hk⟩)
 have hv:aJ (AV.has Ep S w) args vs:=hall.mono fun a v ha hav=>hav.step (fun i hi=>by rw[hargs a ha i hi];exact⟨hs1,hs2⟩) (Off.refl S w) (fun k hk=> .inl hk)
 refine(h Ep S w vs hl hgl hv (fun i e hi=>?_) (fun i e k hi hk=>hX k (hfp i e k hi hk)) (fun i i' e e' k hne hi hi' hk hk'=>?_)).mono fun e w' ⟨v,E2,S2,he,hE⟩=>?_
 ·rcases hmem i e hi with⟨rfl,rfl⟩|hi
  ·obtain⟨cs,g1,g2⟩:=hB.box;exact⟨cs,by rw[hs1];exact g1,g2⟩
  ·exact hB.ents i e hi
 ·rcases hmem i e hi with⟨e1,rfl⟩|hm
  ·rcases hmem i' e' hi' with⟨e2,rfl⟩|hm'
   ·exact hne (e1.trans e2.symm)
   ·have hk1:some (Ep.blk i)=some k:=hk;rw[e1,hs1]at hk1;exact hB.sepb i' e' hm' ((Option.some.inj hk1)▸hk')
  ·rcases hmem i' e' hi' with⟨e2,rfl⟩|hm'
   ·have hk1:some (Ep.blk i')=some k:=hk';rw[e2,hs1]at hk1;exact hB.sepb i e hm ((Option.some.inj hk1)▸hk)
   ·exact hB.sep i i' e e' k hne hm hm' hk hk'
 ·have hb2:Ep.at' E2 b:=hE.env b fun _=>⟨_,List.mem_cons_self⟩
  have hq:∀i e,(i,e)∈R'→(i,Slot.ent e)∈(b,Slot.ent (.box t cells'))::R'.map fun q=>(q.1,Slot.ent q.2):=fun i e hi=>List.mem_cons_of_mem _ (List.mem_map.2 ⟨(i,e),hi,rfl⟩)
  have hbb:some (E2.blk b)=some (E.blk b):=by rw[hb2.1,hs1]
  have hfp2:∀k,(∃i e,(i,e)∈(b,Ent.box t cells)::R∧e.at Ep i k)→∃i e,(i,e)∈[(b,Ent.abs (mH b (fun _:Unit=>True) t (fun _=>cells) (fun _=>R)))]∧e.at E i k:=fun k ⟨i,e,hi,hk⟩=>⟨b,_,List.mem_singleton.2 rfl,hfp i e k hi hk⟩
  have hX':∀k,(k=E.blk b∨∃i e,(i,e)∈R'∧e.at E2 i k)→S2 k∧((∃i e,(i,e)∈[(b,Ent.abs (mH b (fun _:Unit=>True) t (fun _=>cells) (fun _=>R)))]∧e.at E i k)∨w.heap.size≤k):=fun k hk=>by
   rcases hk with rfl|⟨i,e,hi,hk⟩
   ·have:=hE.blk b _ (E.blk b) List.mem_cons_self hbb;exact⟨this.1,this.2.imp (hfp2 _) id⟩
   ·have:=hE.blk i e k (hq i e hi) hk;exact⟨this.1,this.2.imp (hfp2 _) id⟩
  have hone:∀i e',(i,Slot.ent e')∈[(b,Slot.ent (Ent.abs (mH b (fun _:Unit=>True) t (fun _=>cells') (fun _=>R'))))]→i=b∧e'= .abs (mH b (fun _:Unit=>True) t (fun _=>cells') (fun _=>R')):=fun i e' hi=>by simpa using hi
  refine⟨v,⟨E.blk,E.sl,upd E.fp b fun k=>k=E.blk b∨∃i e,(i,e)∈R'∧e.at E2 i k⟩,S2,he,
   {env:=fun i _=>⟨rfl,rfl⟩,fpe:=fun i hi=>upd_ne _ _ fun e=>hi (.ent (.abs (mH b (fun _:Unit=>True) t (fun _=>cells') (fun _=>R')))) (by simp[e]),sub:=hE.sub,new:=hE.new,lt:=hE.lt,off:=hE.off.mono hfp2,
    res:=hE.res.step (fun i hi=>by rw[hr]at hi;cases hi) (Off.refl _ _) (fun k hk=> .inl hk),ents:=fun i e' hi=>?_,blk:=fun i e' k hi hk=>?_,sep:=fun i i' e1 e2 k hne h1 h2=>?_}⟩
  ·obtain⟨rfl,rfl⟩:=hone i e' hi;show (mH i (fun _:Unit=>True) t (fun _=>cells') (fun _=>R')).has (E.blk i) (E.sl i) (upd E.fp i _ i) S2 w'
   rw[upd_same];obtain⟨cs,g1,g2⟩:=hE.ents i _ List.mem_cons_self;refine⟨(),E2,⟨hb2.1.trans hs1,hb2.2.trans hs2⟩,{φ:=trivial,box:=⟨cs,by rw[←Option.some.inj hbb];exact g1,g2⟩,ents:=fun j e hj=>hE.ents j e (hq j e hj),sep:=fun j j' e e' k hne hj hj'=>hE.sep j j' e e' k hne (hq j e hj) (hq j' e' hj'),sepb:=fun j e hj hk=>?_,X:=fun k=>Iff.rfl}⟩
   by_cases hji:j=i
   ·subst hji;exact hbn e hj
   ·exact hE.sep i j _ e (E.blk i) (fun e=>hji e.symm) List.mem_cons_self (hq j e hj) hbb hk
  ·obtain⟨rfl,rfl⟩:=hone i e' hi;have hk':upd E.fp i _ i k:=hk;rw[upd_same]at hk';exact hX' k hk'
  ·obtain⟨rfl,_⟩:=hone _ _ h1;obtain⟨rfl,_⟩:=hone _ _ h2;exact absurd rfl hne
def amr:AV0→AV0
 | .one (.clo f [])=> .one (.c (.val (.func (.func f) #[] #[])))
 |x=>x
theorem am8{E:Env}{S:Nat→Prop}{w:World}{x:AV0}{v:Value}(h:x.has E S w v):(amr x).has E S w v:=by
 unfold amr
 split
 ·exact h
 ·exact h
theorem afZ{E:Env}{S:Nat→Prop}{w:World}:∀{l:List (Nat×AV0)} {us:List (Nat×Value)},aJ (fun p q=>p.1=q.1∧p.2.has E S w q.2) l us→aJ (fun p q=>p.1=q.1∧p.2.has E S w q.2) (l.map fun p=>(p.1,amr p.2)) us
 |[],[],_=>trivial
 |_::_,_::_,h=>⟨⟨h.1.1,am8 h.1.2⟩,afZ h.2⟩
 |[],_::_,h=>h.elim
 |_::_,[],h=>h.elim
section
variable{P:Program}{C:Ctx}{st:St}
variable{ops rest:List Oper}{acc:List (List Nat×List Nat)}{K:List (List Nat×List Nat)→St→Prop}{dst:Option Tmp}{d:Tmp}{ty t:TypeId}
theorem ahA{o:Oper}{st':St}{E:Env}{S:Nat→Prop}{a:Act}{w:World}{e:TypeId}{n size bytes:Nat}{zs:List Value}{parts:Array (Nat×Operand)}{ps:List (Nat×AV0)}{l:List Atom}{m:List CA}[ht:bI P t e size][he:eZ P e zs bytes]
  (hs:oq C st' E S a w) (h3:o.op= .buildSlice t n parts) {ps0:List (Nat×AV0)} (hp':evp st' parts.toList=some ps0) (hps:ps0.map (fun p=>(p.1,amr p.2))=ps) (h1:(ps.all fun p=>p.2.cells.all Atom.dO&&Nat.blt p.1 n)=true) (hn:Nat.ble (n*size) 16777216=true)
  (hfl:fq (placesOf n size) ((madeCells zs.toArray (n*size)).toList.map fun v=>Atom.c (.val v)) ps=some l) (hc:aP l=some m) (hm:Nat.beq m.length (n*size)=true):
  ∃us:List Value,(execOp a.eval o).run P w= .ok (.value (.slice (some ⟨w.heap.size,0,none⟩) n n)) (w.alloc (.cells us.toArray e))∧us.length=n*size∧aJ (CA.has S w) m us∧n≤maxLen:=by
  obtain⟨hall0,hids⟩:=xD hs hp';have hall:=afZ hall0;rw[hps]at hall;obtain⟨i,z,hi,hz,hcz,hsz,hby⟩:=oP he ht.s;rw[List.all_eq_true]at h1;rw[Nat.ble_eq]at hn;obtain⟨us,hfill,hus⟩:=rC (w:=w) (cs:=(madeCells zs.toArray (n*size)).toList) hall (fun p hp=>by have:=h1 p hp;simp only[Bool.and_eq_true]at this;exact this.1) (ku _) hfl
  have hlen:us.length=n*size:=by
   have h6:=hus.length;rw[dK hc]at h6;simp at h6
   have:=Nat.eq_of_beq_eq_true hm;omega
  have hqi:∀q∈parts.toList.map (fun x=>(x.1,a.eval x.2)),(fun i=>(placesOf n size)[i]?) q.1=(fun i=>some (i*size,size)) q.1:=by
   intro q hq;obtain⟨j,hj⟩:=List.mem_iff_getElem?.1 hq;obtain⟨p,hpj,hpq,_⟩:=hall.get' hj;have:=h1 p (List.mem_of_getElem? hpj);simp only[Bool.and_eq_true,Nat.blt_eq]at this;have hlt:q.1 < n:=by rw[←hpq];exact this.2
   simp[placesOf,hlt]
  rw[pK (p:=fun i=>(placesOf n size)[i]?) (p':=fun i=>some (i*size,size)) _ _ hqi]at hfill
  refine⟨us,?_,hlen,jB (by rw[←dK hc];exact hus),?_⟩
  ·unfold execOp;rw[h3];have hparts:(parts.map fun x=>(x.1,a.eval x.2)).toList=parts.toList.map fun x=>(x.1,a.eval x.2):=by simp
   have hgt:¬n*size > 2 ^ 24:=by omega
   simp only[Instr.buildSlice,Sem.run_bind,run_underlying ht.h,Result.andThen_ok,run_sizeOf ht.s,hparts];rw[if_neg hgt];by_cases h0:n*size=0
   ·have he0:(madeCells zs.toArray (n*size)).toList.toArray=(Array.range (n*size)).map ((#[]:Array Value)[· % (#[]:Array Value).size]!):=by rw[h0];simp[madeCells]
    rw[he0]at hfill;rw[if_pos h0];simp only[Sem.run_bind,Sem.run_pure,Result.andThen_ok];rw[hfill];simp[newRow]
   ·have he0:(madeCells zs.toArray (n*size)).toList.toArray=(Array.range (n*size)).map (zs.toArray[· % zs.toArray.size]!):=by rw[Array.toArray_toList];rfl
    rw[he0]at hfill;rw[if_neg h0];simp only[Sem.run_bind,Sem.run_pure,Result.andThen_ok,zeroValue,typeInfo,run_program,hi,hz,hcz];rw[hfill];simp[newRow]
  ·by_cases h0:n=0
   ·subst h0;simp[maxLen]
   ·have:=ht.p;have h7:n*1≤n*size:=Nat.mul_le_mul_left _ this;simp only[maxLen];omega
theorem Go1.afR{dst:Option Tmp}{e:TypeId}{n size bytes:Nat}{zs:List Value}{parts:Array (Nat×Operand)}{ps:List (Nat×AV0)}{l:List Atom}{m:List CA}[ht:bI P t e size][he:eZ P e zs bytes](hd:aA dst C.nt=true)
  {ps0:List (Nat×AV0)} (hp:evp st parts.toList=some ps0) (hps:ps0.map (fun p=>(p.1,amr p.2))=ps) (h1:(ps.all fun p=>p.2.cells.all Atom.dO&&Nat.blt p.1 n)=true) (hn:Nat.ble (n*size) 16777216=true)
  (hfl:fq (placesOf n size) ((madeCells zs.toArray (n*size)).toList.map fun v=>Atom.c (.val v)) ps=some l) (hc:aP l=some m) (hm:Nat.beq m.length (n*size)=true)
  (next:Reg P C ops rest (st.app dst ⟨.r (aI size n m),[]⟩) (([],[])::acc) K):Go1 P C ops dst (.buildSlice t n parts) ty rest st acc K:=by
 refine⟨[],⟨.r (aI size n m),[]⟩,fun o h2 h3 h4=>aV.eff [] [] (fun b hb=>?_) (h2▸dR hd) (fun b e hb=>by cases hb) (fun b e hb=>by cases hb) (fun b s hb=>by cases hb) (fun b s hb=>by cases hb) (fun st' E S a w hev hhp hs _ _=>?_),next⟩
 ·rcases hb with⟨e,hb⟩|⟨e,hb⟩|⟨s,hb⟩ <;> cases hb
 ·have hp':evp st' parts.toList=some ps0:=by
   rw[mJ (fun x hx=>hev x.2 (by rw[h3];simp[Op.operands];exact⟨x.1,by simpa using hx⟩))];exact hp
  obtain⟨us,hrun,hlen,hall,hmx⟩:=ahA (ht:=ht) (he:=he) hs h3 hp' hps h1 hn hfl hc hm;refine⟨⟨fun i hi=>(by cases hi),fun b e hb=>by cases hb⟩,fun K Q hK=>?_⟩
  unfold Oper.wp;rw[hrun];refine hK _ _ E S {env:=fun _ _=>⟨rfl,rfl⟩,fpe:=fun _ _=>rfl,sub:=fun _ h=>h,new:=fun _ h=> .inl h,lt:=fun k hk=>Nat.lt_of_lt_of_le (hs.lt k hk) (by simp),off:=Off.alloc _ _ _,res:=?_,ents:=fun _ _ h=>(by cases h),blk:=fun _ _ _ h=>(by cases h),sep:=fun _ _ _ _ _ _ h=>(by cases h)}
  refine bF.2 ⟨_,_,rfl,Nat.le_refl _,hmx,(fun h=>by cases h),(by rw[hall.length,hlen]),fun i c hc=>?_⟩
  obtain⟨u,hu,huc⟩:=hall.get hc;refine⟨w.heap.size,0,u,rfl,fun hS=>absurd (hs.lt _ hS) (Nat.lt_irrefl _),?_,huc.step (Off.alloc _ _ _) (fun k hk=> .inl hk)⟩
  have hcell:=cells_of_block (heap_alloc_new w (.cells us.toArray e)) 0 i u (by simpa using hu)
  simpa[Addr.add_lit]using hcell
end
end
end SX