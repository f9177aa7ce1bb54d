import Derived.Test.YtmgfiodmdfaclaaGreatDoorA7
import Derived.Lib.Builder
import Derived.Lib.AppendStr
import Derived.Lib.UnsafeStr
set_option linter.unusedVariables false
set_option linter.unusedSimpArgs false
namespace SX
open Go Go.RowKit
section
def hdrs(s:Value):List Value:=match s with| .agg a=>a.toList|v=>[v]
def tQ(s:Value)(j:Nat):Value:=(hdrs s).getD j undef
section
variable{α:Type}
structure RowsHas(tO tI:TypeId)(size:Nat)(enc:α→List CA)(js:List Nat)(c:List (List α))(v:Value)(X S:Nat→Prop)(w:World):Prop where
 out:w.ownsRow 0 tO 1 (tQ v 0) js.length (js.map fun j=>tQ v (j+1))
 lt:∀j∈js,j < c.length
 inn:∀j l,c[j]? =some l→∃vs,w.ownsRow 0 tI size (tQ v (j+1)) l.length vs∧aJ (CA.has S w) (l.flatMap enc) vs
 sep:∀i j k,i < c.length+1→j < c.length+1→i≠j→(tQ v i).ownBlock=some k→(tQ v j).ownBlock≠some k
 X:∀k,X k↔∃i,i < c.length+1∧(tQ v i).ownBlock=some k
end
section
variable{P:Program}{C:Ctx}{st:St}{α:Type}
variable{ops rest:List Oper}{acc:List (List Nat×List Nat)}{K:List (List Nat×List Nat)→St→Prop}{dst:Option Tmp}{d:Tmp}{op:Op}{ty t t':TypeId}{x y z:Operand}{k:IntKind}
theorem aiN{β:Type}(f:Nat→β):∀(l:List Nat) (i j:Nat),i < l.length→spl (l.map f) i [f j]=(l.set i j).map f
 |[],i,j,h=>by simp at h
 |x::l,0,j,h=>by cases l <;> simp[spl]
 |x::l,i+1,j,h=>by simp only[List.map_cons,spl,List.set_cons_succ];rw[aiN f l i j (by simpa using h)]
end
section
variable{α:Type}
structure LitHas(tI:TypeId)(size:Nat)(enc:α→List CA)(l:List α)(v:Value)(X S:Nat→Prop)(w:World):Prop where
 lit:(aI 1 1 [.val (tQ v 1)]).has S w (tQ v 0)
 row:∃vs,w.ownsRow 0 tI size (tQ v 1) l.length vs∧aJ (CA.has S w) (l.flatMap enc) vs
 X:∀k,X k↔(tQ v 1).ownBlock=some k
end
section
variable{P:Program}{C:Ctx}{st:St}{α:Type}
variable{ops rest:List Oper}{acc:List (List Nat×List Nat)}{K:List (List Nat×List Nat)→St→Prop}{dst:Option Tmp}{d:Tmp}{op:Op}{ty t t':TypeId}{x y z:Operand}{k:IntKind}
end
end
section
section
variable{ι:Type}
structure aaU(φ:ι→Prop)(t:TypeId)(cells:ι→List Atom)(R:ι→List (Nat×Ent))(bk:Nat)(X S:Nat→Prop)(w:World)(p:ι)(E:Env):Prop where
 φ:φ p
 box:∃cs:List Value,w.heap[bk]? =some (.cells cs.toArray t (0,0))∧aJ (Atom.has E S w) (cells p) cs
 ents:∀i e,(i,e)∈R p→e.has E S w i
 sep:∀i i' e e' k,i≠i'→(i,e)∈R p→(i',e')∈R p→e.at E i k→¬e'.at E i' k
 sepb:∀i e,(i,e)∈R p→¬e.at E i bk
 X:∀k,X k↔k=bk∨∃i e,(i,e)∈R p∧e.at E i k
def mH(b:Nat)(φ:ι→Prop)(t:TypeId)(cells:ι→List Atom)(R:ι→List (Nat×Ent)):adn where
 has bk v X S w:=∃p E,(E.blk b=bk∧E.sl b=v)∧aaU φ t cells R bk X S w p E
 step:=fun {bk v X S S' w w'} ⟨p,E,hself,h⟩ ho hs hX=>by
  refine⟨p,E,hself,h.φ,?_,fun i e hi=>?_,h.sep,h.sepb,h.X⟩
  ·obtain⟨cs,h1,h2⟩:=h.box;exact⟨cs,by rw[hX bk ((h.X bk).2 (.inl rfl))];exact h1,h2.mono fun a u _ ha=>ha.step (fun _ _=>⟨rfl,rfl⟩) ho hs⟩
  ·exact(h.ents i e hi).step (fun _ _=>⟨rfl,rfl⟩) ⟨rfl,rfl⟩ ho hs (fun k hk=>hX k ((h.X k).2 (.inr ⟨i,e,hi,hk⟩))) rfl
def abl(st:St)(b:Nat)(t:TypeId)(cells:List Atom)(R:List (Nat×Ent)):St:=⟨st.tm,fJ st.hp ((b,.ent (.box t cells))::R.map fun q=>(q.1,.ent q.2))⟩
theorem alT{b c:Nat}{t:TypeId}{cells:List Atom}{R:List (Nat×Ent)}{e:Ent}(h:(c,Slot.ent e)∈((b,Slot.ent (.box t cells))::R.map fun q=>(q.1,Slot.ent q.2))):(c=b∧e= .box t cells)∨(c,e)∈R:=by
 rcases List.mem_cons.1 h with h|h
 ·cases h;exact .inl ⟨rfl,rfl⟩
 ·obtain⟨q,hq,he⟩:=List.mem_map.1 h;cases he;exact .inr hq
theorem Sat.am0{C:Ctx}{st:St}{a:Act}{w:World}{b:Nat}{φ:ι→Prop}{t:TypeId}{cells:ι→List Atom}{R:ι→List (Nat×Ent)}(ns:List Nat)(h:Sat C st a w)(hb:st.hp b= .ent (.abs (mH b φ t cells R)))(hns:∀p,(R p).map (·.1)=ns)(hfree:∀i∈ns,st.hp i= .free)(hfix:∀i∈ns,C.fix i=false)
  (hid:∀p,∀i∈(cells p).flatMap Atom.ids,i∈ns∨i=b) (hRid:∀p i e,(i,e)∈R p→e.ids=[]):∃p,φ p∧Sat C (abl st b t (cells p) (R p)) a w:=by
 obtain⟨E,S,hs⟩:=h;obtain⟨p,Ep,⟨hself1,hself2⟩,hB⟩:∃(p:ι) (Ep:Env),(Ep.blk b=E.blk b∧Ep.sl b=E.sl b)∧aaU φ t cells R (E.blk b) (E.fp b) S w p Ep:=hs.hp b _ hb;refine⟨p,hB.φ,?_⟩;generalize hcp:cells p=cs0 at*;have hnsR:∀i e,(i,e)∈R p→i∈ns:=fun i e hi=>by rw[←hns p];exact List.mem_map.2 ⟨_,hi,rfl⟩
 have hun:∀i,(st.hp i).used=true→i∉ns:=fun i hi hin=>by rw[hfree i hin]at hi;cases hi
 have hbn:b∉ns:=hun b (by rw[hb];rfl)
 let E':Env:=⟨fun i=>if i∈ns then Ep.blk i else E.blk i,fun i=>if i∈ns then Ep.sl i else E.sl i,fun i=>if i∈ns then Ep.fp i else E.fp i⟩
 have at1:∀i,i∉ns→E.at' E' i:=fun i hi=>⟨if_neg hi,if_neg hi⟩
 have fp1:∀i,i∉ns→E'.fp i=E.fp i:=fun i hi=>if_neg hi
 have at2:∀i,i∈ns→Ep.at' E' i:=fun i hi=>⟨if_pos hi,if_pos hi⟩
 have fp2:∀i,i∈ns→E'.fp i=Ep.fp i:=fun i hi=>if_pos hi
 have at3:∀i,i∈ns∨i=b→Ep.at' E' i:=fun i hi=>by
  rcases hi with hi|rfl
  ·exact at2 i hi
  ·exact⟨(at1 i hbn).1.trans hself1.symm,(at1 i hbn).2.trans hself2.symm⟩
 have hids:∀i∈cs0.flatMap Atom.ids,i∈ns∨i=b:=fun i hi=>hid p i (by rw[hcp];exact hi)
 have hbox:=hB.box;rw[hcp]at hbox;have hused:∀i,((st.hp i).used=true∨i∈ns)→((abl st b t cs0 (R p)).hp i).used=true:=by
  intro i hi;show (fJ st.hp _ i).used=true;rcases gB i ((b,.ent (.box t cs0))::(R p).map fun q=>(q.1,.ent q.2)) st.hp with⟨s,g1,g2⟩|⟨g1,g2⟩
  ·rw[g2];rcases List.mem_cons.1 g1 with h|h
   ·cases h;rfl
   ·obtain⟨q,_,he⟩:=List.mem_map.1 h;cases he;rfl
  ·rw[g2];rcases hi with hi|hi
   ·exact hi
   ·rw[←hns p]at hi;obtain⟨q,hq,rfl⟩:=List.mem_map.1 hi;exact absurd (List.mem_cons_of_mem _ (List.mem_map.2 ⟨q,hq,rfl⟩)) (g1 _)
 have hcase:∀c e,(abl st b t cs0 (R p)).hp c= .ent e→((c=b∧e= .box t cs0)∨(c,e)∈R p)∨(c≠b∧c∉ns∧st.hp c= .ent e):=by
  intro c e hc;rcases gB c ((b,.ent (.box t cs0))::(R p).map fun q=>(q.1,.ent q.2)) st.hp with⟨s,g1,g2⟩|⟨g1,g2⟩
  ·have:s= .ent e:=g2.symm.trans hc;subst this;exact .inl (alT g1)
  ·have h3:st.hp c= .ent e:=g2.symm.trans hc;refine .inr ⟨?_,hun c (by rw[h3];rfl),h3⟩
   rintro rfl;exact g1 _ List.mem_cons_self
 have hX:∀(c:Nat) (e:Ent) (k:Nat),((c=b∧e= .box t cs0)∨(c,e)∈R p)→e.at E' c k→E.fp b k:=by
  intro c e k hc hk;rcases hc with⟨rfl,rfl⟩|hc
  ·have hk':some (E'.blk c)=some k:=hk;rw[(at1 c hbn).1]at hk';exact(hB.X k).2 (.inl (Option.some.inj hk').symm)
  ·rw[Ent.fZ (at2 c (hnsR c e hc)) (fp2 c (hnsR c e hc))]at hk;exact(hB.X k).2 (.inr ⟨c,e,hc,hk⟩)
 have hother:∀(c:Nat) (e:Ent) (k:Nat),c∉ns→e.at E' c k→e.at E c k:=fun c e k hc hk=>by rw[Ent.fZ (at1 c hc) (fp1 c hc)]at hk;exact hk
 refine⟨E',S,{dfr:=hs.dfr,nt:=hs.nt,cT:=hs.cT,cT0:=hs.cT0,cS:=hs.cS,lt:=hs.lt,tm:=fun i v hv=>?_,tid:=fun i v hv j hj=>hused j (.inl (hs.tid i v hv j hj)),hp:=fun c e hc=>?_,hid:=fun c e hc i hi=>?_,blk:=fun c e k hc hk=>?_,sep:=fun c c' e e' k hne hc hc' hk hk'=>?_,off:=hs.off,env:=fun c hc=>?_,gl:=hs.gl}⟩
 ·exact(hs.tm i v hv).step (fun j hj=>at1 j (hun j (hs.tid i v hv j hj))) (Off.refl S w) (fun k hk=> .inl hk)
 ·rcases hcase c e hc with(⟨rfl,rfl⟩|hR)|⟨_,hcn,h3⟩
  ·obtain⟨cs,h1,h2⟩:=hbox;refine⟨cs,by rw[(at1 c hbn).1];exact h1,h2.mono fun x u hx ha=>ha.step (fun j hj=>at3 j (hids j (List.mem_flatMap.2 ⟨x,hx,hj⟩))) (Off.refl S w) (fun k hk=> .inl hk)⟩
  ·have hin:=hnsR c e hR;exact(hB.ents c e hR).step (fun j hj=>by rw[hRid p c e hR]at hj;cases hj) (at2 c hin) (Off.refl S w) (fun k hk=> .inl hk) (fun _ _=>rfl) (fp2 c hin)
  ·exact(hs.hp c e h3).step (fun j hj=>at1 j (hun j (hs.hid c e h3 j hj))) (at1 c hcn) (Off.refl S w) (fun k hk=> .inl hk) (fun _ _=>rfl) (fp1 c hcn)
 ·rcases hcase c e hc with(⟨rfl,rfl⟩|hR)|⟨_,hcn,h3⟩
  ·rcases hids i hi with h|rfl
   ·exact hused i (.inr h)
   ·exact hused i (.inl (by rw[hb];rfl))
  ·rw[hRid p c e hR]at hi;cases hi
  ·exact hused i (.inl (hs.hid c e h3 i hi))
 ·rcases hcase c e hc with hL|⟨_,hcn,h3⟩
  ·exact hs.blk b _ k hb (hX c e k hL hk)
  ·exact hs.blk c e k h3 (hother c e k hcn hk)
 ·rcases hcase c e hc with hL|⟨hcb,hcn,h3⟩
  ·rcases hcase c' e' hc' with hL'|⟨hcb',hcn',h3'⟩
   ·rcases hL with⟨rfl,rfl⟩|hR
    ·rcases hL' with⟨rfl,_⟩|hR'
     ·exact hne rfl
     ·have hk1:some (E'.blk c)=some k:=hk;rw[(at1 c hbn).1]at hk1;cases hk1;rw[Ent.fZ (at2 c' (hnsR c' e' hR')) (fp2 c' (hnsR c' e' hR'))]at hk';exact hB.sepb c' e' hR' hk'
    ·rw[Ent.fZ (at2 c (hnsR c e hR)) (fp2 c (hnsR c e hR))]at hk;rcases hL' with⟨rfl,rfl⟩|hR'
     ·have hk1:some (E'.blk c')=some k:=hk';rw[(at1 c' hbn).1]at hk1;cases hk1;exact hB.sepb c e hR hk
     ·rw[Ent.fZ (at2 c' (hnsR c' e' hR')) (fp2 c' (hnsR c' e' hR'))]at hk';exact hB.sep c c' e e' k hne hR hR' hk hk'
   ·exact hs.sep b c' _ e' k (fun e=>hcb' e.symm) hb h3' (hX c e k hL hk) (hother c' e' k hcn' hk')
  ·rcases hcase c' e' hc' with hL'|⟨hcb',hcn',h3'⟩
   ·exact hs.sep c b e _ k hcb h3 hb (hother c e k hcn hk) (hX c' e' k hL' hk')
   ·exact hs.sep c c' e e' k hne h3 h3' (hother c e k hcn hk) (hother c' e' k hcn' hk')
 ·obtain⟨g1,g2,g3⟩:=hs.env c hc;have hcn:c∉ns:=fun h=>by rw[hfix c h]at hc;cases hc
  exact⟨(at1 c hcn).1.trans g1,(at1 c hcn).2.trans g2,hused c (.inl g3)⟩
end
def aO(ρ:List (Nat×Option Nat))(x y:Atom):Prop:=∀E S w v,x.has E S w v→y.has (eB ρ E) S w v
def sM(ρ:List (Nat×Option Nat)):List Atom→List Atom→Prop
 |[],[]=>True
 |a::l,b::m=>aO ρ a b∧sM ρ l m
 |_,_=>False
theorem aO.same{ρ:List (Nat×Option Nat)}{x:Atom}(h:fresh ρ x.ids=true):aO ρ x x:=fun E S w v hv=>hv.env (wh h E)
theorem aO.own{ρ:List (Nat×Option Nat)}{o b:Nat}(h:lk ρ b=some (some o)):aO ρ (.own o) (.own b):=fun E S w v hv=>by
 obtain⟨h1,h2⟩:=hv;exact⟨by simp only[eB,h];exact h1,h2⟩
theorem aO.nil{ρ:List (Nat×Option Nat)}{b:Nat}(h:lk ρ b=some none):aO ρ (.c (.val (.slice none 0 0))) (.own b):=fun E S w v hv=>by
 have hv':v= .slice none 0 0:=hv;subst hv';exact⟨by simp only[eB,h],rfl⟩
theorem sM.all{ρ:List (Nat×Option Nat)}{E:Env}{S:Nat→Prop}{w:World}:∀{l m:List Atom} {vs:List Value},sM ρ l m→aJ (Atom.has E S w) l vs→aJ (Atom.has (eB ρ E) S w) m vs
 |[],[],[],_,_=>trivial
 |a::l,b::m,v::vs,h,k=>⟨h.1 E S w v k.1,h.2.all k.2⟩
 |[],[],_::_,_,k=>k.elim
 |_::_,_::_,[],_,k=>k.elim
 |[],_::_,_,h,_=>h.elim
 |_::_,[],_,h,_=>h.elim
theorem ak.oK{st:St}{ρ:List (Nat×Option Nat)}{b:Nat}{t:TypeId}{cells0 cells:List Atom}(h:st.hp b= .ent (.box t cells0))(hf:fresh ρ [b]=true)(hi:sM ρ cells0 cells):ak st ρ b (.box t cells):=by
 have ha:=wh hf;refine .old b _ h (.inr ⟨?_,rfl⟩) (fun E S w hh=>?_) (fun E=>by funext k;simp only[Ent.at,(ha E b List.mem_cons_self).1])
 ·have:=List.all_eq_true.1 hf b List.mem_cons_self;simpa using this
 ·obtain⟨cs,h1,h2⟩:=hh;exact⟨cs,by rw[(ha E b List.mem_cons_self).1];exact h1,hi.all h2⟩
structure Hide(p:Prop):Prop where
 out:p
def xk(st:St)(b:Nat)(A:adn)(os:List Nat):St:=⟨st.tm,fJ st.hp ((b,.ent (.abs A))::os.map fun o=>(o,.gone))⟩
theorem St.aml{ι:Type}{C:Ctx}{st:St}{b:Nat}{φ:ι→Prop}{t:TypeId}{cells:ι→List Atom}{R:ι→List (Nat×Ent)}{cells0:List Atom}(p:ι)(ρ:List (Nat×Option Nat))(os:List Nat)(hφ:φ p)(hb:st.hp b= .ent (.box t cells0))(hc:sM ρ cells0 (cells p))(hR:ad2 st ρ (R p))
  (hos:((R p).all fun q=>match SX.src ρ q.1 with|some o=>jD os o|none=>true)=true) (hbo:jD os b=false) (hdi:((R p).all fun q=>(R p).all fun q'=>Nat.beq q.1 q'.1||!(eqO (SX.src ρ q.1) (SX.src ρ q'.1)))=true) (hfb:lk ρ b=none:=by rfl):St.le C st (xk st b (mH b φ t cells R) os):=by
 intro a w ⟨E,S,hs⟩
 let X:Nat→Prop:=fun k=>k=E.blk b∨∃i e,(i,e)∈R p∧Ent.at e (eB ρ E) i k
 have hbox:Ent.has E S w b (.box t cells0):=hs.hp b _ hb;have hsrc:∀i e k,(i,e)∈R p→e.at (eB ρ E) i k→∃o e0,SX.src ρ i=some o∧o∈os∧st.hp o= .ent e0∧e0.at E o k:=by
  intro i e k hi hk;rcases(hR.mem i e hi).src with⟨o,e0,so,ho,hk0⟩|hk0
  ·have:=List.all_eq_true.1 hos _ hi;simp only[so]at this;rw[hk0]at hk;exact⟨o,e0,so,dZ.1 this,ho,hk⟩
  ·exact absurd hk (hk0 E k)
 have hbn:b∉os:=fun h=>by rw[dZ.2 h]at hbo;cases hbo
 have hB:aaU φ t cells R (E.blk b) X S w p (eB ρ E):=by
  refine⟨hφ,?_,fun i e hi=>?_,fun i i' e e' k hne hi hi' hk hk'=>?_,fun i e hi hk=>?_,fun k=>Iff.rfl⟩
  ·obtain⟨cs,h1,h2⟩:=hbox;exact⟨cs,h1,hc.all h2⟩
  ·cases hR.mem i e hi with
   |old o e0 ho _ hh hk=>exact hh _ _ _ (hs.hp o e0 ho)
   |nil _ hh _=>exact hh _ _ _
  ·obtain⟨o,e0,so,_,ho,g1⟩:=hsrc i e k hi hk;obtain⟨o',e0',so',_,ho',g1'⟩:=hsrc i' e' k hi' hk';have:=List.all_eq_true.1 (List.all_eq_true.1 hdi _ hi) _ hi';rw[so,so']at this;have hno:o≠o':=by
    intro e;subst e;simp[eqO,hne]at this
   exact hs.sep o o' e0 e0' k hno ho ho' g1 g1'
  ·obtain⟨o,e0,so,hoo,ho,g1⟩:=hsrc i e _ hi hk;exact hs.sep o b e0 _ _ (fun h=>hbn (h▸hoo)) ho hb g1 rfl
 let E':Env:=⟨E.blk,E.sl,upd E.fp b X⟩
 have hat:∀i,E.at' E' i:=fun i=>⟨rfl,rfl⟩
 have hfp:∀i,i≠b→E'.fp i=E.fp i:=fun i hi=>upd_ne _ _ hi
 have hcase:∀c e,(xk st b (mH b φ t cells R) os).hp c= .ent e→(c=b∧e= .abs (mH b φ t cells R))∨(c≠b∧c∉os∧st.hp c= .ent e):=by
  intro c e hc;rcases gB c ((b,.ent (.abs (mH b φ t cells R)))::os.map fun o=>(o,.gone)) st.hp with⟨s,g1,g2⟩|⟨g1,g2⟩
  ·have:s= .ent e:=g2.symm.trans hc;subst this;rcases List.mem_cons.1 g1 with h|h
   ·cases h;exact .inl ⟨rfl,rfl⟩
   ·obtain⟨q,_,he⟩:=List.mem_map.1 h;cases he
  ·refine .inr ⟨?_,fun h=>g1 .gone (List.mem_cons_of_mem _ (List.mem_map.2 ⟨c,h,rfl⟩)),g2.symm.trans hc⟩
   rintro rfl;exact g1 _ List.mem_cons_self
 have hused:∀i,(st.hp i).used=true→((xk st b (mH b φ t cells R) os).hp i).used=true:=by
  intro i hi;show (fJ st.hp _ i).used=true;rcases gB i ((b,.ent (.abs (mH b φ t cells R)))::os.map fun o=>(o,.gone)) st.hp with⟨s,g1,g2⟩|⟨g1,g2⟩
  ·rw[g2];rcases List.mem_cons.1 g1 with h|h
   ·cases h;rfl
   ·obtain⟨q,_,he⟩:=List.mem_map.1 h;cases he;rfl
  ·rw[g2];exact hi
 have hXS:∀k,X k→S k∧(C.B k∨C.w0.heap.size≤k):=by
  intro k hk;rcases hk with rfl|⟨i,e,hi,hk⟩
  ·exact hs.blk b _ _ hb rfl
  ·obtain⟨o,e0,_,_,ho,g1⟩:=hsrc i e k hi hk;exact hs.blk o e0 k ho g1
 have hXo:∀c e k,c≠b→c∉os→st.hp c= .ent e→X k→¬e.at E c k:=by
  intro c e k hcb hco hc hk;rcases hk with rfl|⟨i,e',hi,hk⟩
  ·exact fun h=>hs.sep c b e _ _ hcb hc hb h rfl
  ·obtain⟨o,e0,_,hoo,ho,g1⟩:=hsrc i e' k hi hk;exact hs.sep o c e0 e k (fun h=>hco (h▸hoo)) ho hc g1
 have hother:∀(c:Nat) (e:Ent) (k:Nat),c≠b→e.at E' c k→e.at E c k:=fun c e k hc hk=>by rw[Ent.fZ (hat c) (hfp c hc)]at hk;exact hk
 have hmine:∀k,(Ent.abs (mH b φ t cells R)).at E' b k→X k:=fun k hk=>by
  have hk':upd E.fp b X b k:=hk;rw[upd_same]at hk';exact hk'
 refine⟨E',S,{dfr:=hs.dfr,nt:=hs.nt,cT:=hs.cT,cT0:=hs.cT0,cS:=hs.cS,lt:=hs.lt,tm:=fun i v hv=>?_,tid:=fun i v hv j hj=>hused j (hs.tid i v hv j hj),hp:=fun c e hc=>?_,hid:=fun c e hc i hi=>?_,blk:=fun c e k hc hk=>?_,sep:=fun c c' e e' k hne hc hc' hk hk'=>?_,off:=hs.off,env:=fun c hc=>?_,gl:=hs.gl}⟩
 ·exact(hs.tm i v hv).step (fun j hj=>hat j) (Off.refl S w) (fun k hk=> .inl hk)
 ·rcases hcase c e hc with⟨rfl,rfl⟩|⟨hcb,_,h3⟩
  ·show∃(p':ι) (Ep:Env),(Ep.blk c=E.blk c∧Ep.sl c=E.sl c)∧aaU φ t cells R (E.blk c) (upd E.fp c X c) S w p' Ep;rw[upd_same];exact⟨p,_,⟨by simp only[eB,hfb],by simp only[eB,hfb]⟩,hB⟩
  ·exact(hs.hp c e h3).step (fun j hj=>hat j) (hat c) (Off.refl S w) (fun k hk=> .inl hk) (fun _ _=>rfl) (hfp c hcb)
 ·rcases hcase c e hc with⟨rfl,rfl⟩|⟨hcb,_,h3⟩
  ·cases hi
  ·exact hused i (hs.hid c e h3 i hi)
 ·rcases hcase c e hc with⟨rfl,rfl⟩|⟨hcb,_,h3⟩
  ·exact hXS k (hmine k hk)
  ·exact hs.blk c e k h3 (hother c e k hcb hk)
 ·rcases hcase c e hc with⟨rfl,rfl⟩|⟨hcb,hco,h3⟩
  ·rcases hcase c' e' hc' with⟨rfl,rfl⟩|⟨hcb',hco',h3'⟩
   ·exact hne rfl
   ·exact hXo c' e' k hcb' hco' h3' (hmine k hk) (hother c' e' k hcb' hk')
  ·rcases hcase c' e' hc' with⟨rfl,rfl⟩|⟨hcb',hco',h3'⟩
   ·exact hXo c e k hcb hco h3 (hmine k hk') (hother c e k hcb hk)
   ·exact hs.sep c c' e e' k hne h3 h3' (hother c e k hcb hk) (hother c' e' k hcb' hk')
 ·obtain⟨g1,g2,g3⟩:=hs.env c hc;exact⟨g1,g2,hused c g3⟩
theorem WP.am0{ι:Type}{P:Program}{C:Ctx}{st:St}{Q:Exit→St→Prop}{c:Code}{b:Nat}{φ:ι→Prop}{t:TypeId}{cells:ι→List Atom}{R:ι→List (Nat×Ent)}(ns:List Nat)(hb:st.hp b= .ent (.abs (mH b φ t cells R)))(hns:∀p,(R p).map (·.1)=ns)(hfree:∀i∈ns,st.hp i= .free)(hfix:∀i∈ns,C.fix i=false)
  (hid:∀p,∀i∈(cells p).flatMap Atom.ids,i∈ns∨i=b) (hRid:∀p i e,(i,e)∈R p→e.ids=[]) (h:∀p,φ p→WP P C c (abl st b t (cells p) (R p)) Q):WP P C c st Q:=fun a w hs=>by
 obtain⟨p,hp,hs'⟩:=Sat.am0 ns hs hb hns hfree hfix hid hRid;exact h p hp a w hs'
end
section
section
variable{P:Program}{C:Ctx}{st:St}{α:Type}
variable{ops rest:List Oper}{acc:List (List Nat×List Nat)}{K:List (List Nat×List Nat)→St→Prop}{dst:Option Tmp}{d:Tmp}{op:Op}{ty t t':TypeId}{x y z:Operand}{k:IntKind}
end
end
section
theorem yG:∀m:List CA,aP (m.map Atom.c)=some m
 |[]=>rfl
 |c::m=>by simp[aP,yG m]
theorem anw{cells:List Atom}{m:List CA}(h:cells=m.map Atom.c):aP cells=some m:=by rw[h];exact yG m
section
variable{P:Program}{C:Ctx}{st:St}{α:Type}
variable{ops rest:List Oper}{acc:List (List Nat×List Nat)}{K:List (List Nat×List Nat)→St→Prop}{dst:Option Tmp}{d:Tmp}{op:Op}{ty t t':TypeId}{x y z:Operand}{k:IntKind}
theorem G.ng{i:Nat}{enc:α→List CA}{l:List α}{a:α}{v:AV0}{e:TypeId}{b n size:Nat}[he:dU enc size](next:Reg P C ops rest (st.app none ⟨.v undef,[(b,.ent (.row e size n ((l.set i a).flatMap enc)))]⟩) (([b],[b])::acc) K)(hs:(P.info? t).map (·.size)=some size:=by kernel_rfl)(hx:st.ev x=some (.it (.one (.rptr b (i*size)))):=by rfl)(hy:st.ev y=some (.it v):=by rfl)(hb:st.hp b= .ent (.row e size n (l.flatMap enc)):=by rfl)(hv:v.cells=(enc a).map Atom.c:=by rfl)(h1:v.cells.all Atom.dO=true:=by rfl)(hi:i < l.length:=by omega)(hn:n=l.length:=by first|rfl|omega):Go1 P C ops none (.store t x y) ty rest st acc K:=
 Go1.jc hs hx hy hb (by rw[hv,List.length_map];exact he.h a) (by subst hn;have:=Nat.mul_le_mul_right size (show i+1≤l.length from hi);rw[Nat.succ_mul]at this;exact this) h1 (anw hv) (wI l i a hi) next
end
theorem ah.fnA{P:Program}{f:FuncId}{fn:Func}{c:Code}{args:List AV}{pre:List (Nat×Ent)}{out:Out}{nt:Nat}{rs:List ResultVar}(hf:P.funcs[f]? =some fn)(hres:fn.results=rs.toArray)(hnt:fn.ntmps=nt)(hb:fn.body=some c)(hn:(fn.name== "runtime.NumGoroutine")=false)(hna:Nat.ble args.length nt=true)
  (p1:nodupB (pre.map (·.1))=true) (p3:(args.all fun v=>v.ids.all (jD (pre.map (·.1))))=true) (p4:(pre.all fun p=>p.2.ids.all (jD (pre.map (·.1))))=true) (p5:((pre.map (·.1)).all (jD (out.hp.map (·.1))))=true)
  (p6:((out.res.ids++out.hp.flatMap fun p=>p.2.ids).all fun i=>jD (pre.map (·.1)) i||jD (out.hp.map (·.1)) i)=true)
  (h:∀(w0:World) (T B:Nat→Prop) (E0:Env),(pre=[]→∀k,¬B k)→WP P ⟨w0,T,B,nt,E0,fun b=>(lk pre b).isSome⟩ c ⟨fun t=>args[t]?,fun b=>match lk pre b with|some e=> .ent e|none=> .free⟩ (bN ⟨w0,T,B,nt,E0,fun b=>(lk pre b).isSome⟩ P rs out)):ah P f args pre out:=by
 have e1:(fun b=>(pre.lookup b).isSome)=fun b=>(lk pre b).isSome:=funext fun b=>by rw[fB]
 have e2:iV args pre=⟨fun t=>args[t]?,fun b=>match lk pre b with|some e=> .ent e|none=> .free⟩:=by
  unfold iV
  congr 1
  funext b
  rw[fB];cases lk pre b <;> rfl
 have key:∀i,jD (pre.map (·.1)) i=true→(pre.lookup i).isSome=true:=fun i hi=>by rw[fB];exact ny (dZ.1 hi)
 refine ah.fn hf hres hnt hb hn hna (fun b e hb=>by rw[fB];exact ada p1 hb) (fun v hv i hi=>key i (List.all_eq_true.1 (List.all_eq_true.1 p3 v hv) i hi)) (fun b e hb i hi=>key i (List.all_eq_true.1 (List.all_eq_true.1 p4 (b,e) hb) i hi)) (fun b e hb=>?_) (fun i hi=>?_) (fun w0 T B E0 hB=>?_)
 ·have:=dZ.1 (List.all_eq_true.1 p5 b (List.mem_map.2 ⟨(b,e),hb,rfl⟩));obtain⟨⟨b',s⟩,hs,rfl⟩:=List.mem_map.1 this;exact⟨s,hs⟩
 ·have hi':i∈out.res.ids++out.hp.flatMap fun p=>p.2.ids:=by
   rw[List.mem_append];rcases hi with hi|⟨b,e,hb,hi⟩
   ·exact .inl hi
   ·exact .inr (List.mem_flatMap.2 ⟨(b,.ent e),hb,hi⟩)
  have:=List.all_eq_true.1 p6 i hi';rw[Bool.or_eq_true]at this;rcases this with h|h
  ·exact .inl (key i h)
  ·obtain⟨⟨b',s⟩,hs,rfl⟩:=List.mem_map.1 (dZ.1 h);exact .inr ⟨s,hs⟩
 ·rw[e1,e2];refine WP.bN (h w0 T B E0 fun hp k hk=>?_)
  subst hp;obtain⟨b,e,hb,_⟩:=hB k hk;cases hb
theorem aN.le{C:Ctx}{P:Program}{rs:List ResultVar}{out:Out}{st st':St}(h:St.le C st st')(k:aN C P rs out st'):aN C P rs out st:=by
 obtain⟨s,h1,h2⟩:=k;exact⟨s,fun a w hs=>h1 a w (h a w hs),h2⟩
structure HeldQ(q:Prop):Prop where
 out:q
theorem goQ{p q:Prop}(h:q)(k:HeldQ q→p:=by
  intro h
  (first
   |(refine SX.Go1.is ?_;first
     |(refine SX.Go1.isLoad ?_;first|refine SX.G.ko ?_|refine SX.G.jV ?_|refine SX.G.ig ?_|refine SX.G.iC ?_|refine SX.G.kg ?_|refine SX.G.iA ?_|refine SX.G.load5 ?_|refine SX.G.loadH ?_|refine SX.G.loadHI ?_|refine SX.G.loadOWA ?_|refine SX.G.jX ?_|refine SX.G.iB ?_|refine SX.G.lJ ?_|refine SX.G.iH ?_)
     |(refine SX.Go1.lU ?_;first|refine SX.G.lss ?_|refine SX.G.eql ?_|refine SX.G.neq ?_|refine SX.G.gtr ?_|refine SX.G.geq ?_|refine SX.G.leq ?_|refine SX.G.addN ?_|refine SX.G.nU ?_|refine SX.G.wH ?_|refine SX.G.subNu ?_|refine SX.G.add ?_|refine SX.G.sub ?_|refine SX.G.mulN ?_|refine SX.G.nY ?_|refine SX.G.mul ?_|refine SX.G.quoN ?_|refine SX.G.nS ?_|refine SX.G.quo ?_|refine SX.G.wF ?_|refine SX.G.nI ?_|refine SX.G.rem ?_|refine SX.G.vU ?_|refine SX.G.xC ?_|refine SX.G.qQ ?_|refine SX.G.qP ?_|refine SX.G.shr ?_|refine SX.G.shl ?_|refine SX.G.and ?_|refine SX.G.wX ?_)
     |(refine SX.Go1.tF ?_;first|refine SX.G.not ?_|refine SX.G.neg ?_)
     |(refine SX.Go1.isField ?_;first|refine SX.G.fieldAddr ?_|refine SX.G.bZ ?_)
     |(refine SX.Go1.gG ?_;first|refine SX.G.sG ?_|refine SX.G.iq ?_|refine SX.G.iw ?_|refine SX.G.iy ?_|refine SX.G.build5 ?_|refine SX.G.build ?_)
     |(refine SX.Go1.gH ?_;first|refine SX.G.store ?_|refine SX.G.lK ?_|refine SX.G.storeH ?_|refine SX.G.storeHI ?_|refine SX.G.ng ?_|refine SX.G.jc ?_)
     |(refine SX.Go1.tJ ?_;first|refine SX.G.dV ?_|refine SX.G.dS ?_|refine SX.G.dD ?_|refine SX.G.indexAddrH ?_|refine SX.G.cK ?_)
     |(refine SX.Go1.eT ?_;first|refine SX.G.litH ?_|refine SX.G.lM ?_|refine SX.G.nE ?_|refine SX.G.afA ?_|refine SX.G.afH ?_|refine SX.G.qM ?_)
     |(refine SX.Go1.bJ ?_;first|refine SX.G.minN ?_|refine SX.G.wo ?_|refine SX.G.qL ?_|refine SX.G.lenN ?_|refine SX.G.vo ?_|refine SX.G.su ?_|refine SX.G.qN ?_|refine SX.G.gF ?_|refine SX.G.appendNilW ?_|refine SX.G.lenH ?_|refine SX.G.appendH ?_|refine SX.G.acj ?_|refine SX.G.yT ?_|refine SX.G.tV ?_|refine SX.G.jg ?_|refine SX.G.call ?_)
     |refine SX.G.move ?_|refine SX.G.assign ?_|refine SX.G.extract ?_|refine SX.G.afk ?_|refine SX.G.box ?_|refine SX.G.nk ?_|refine SX.G.alloc ?_|refine SX.G.j5 ?_|refine SX.G.nilCheckR ?_|refine SX.G.ajN ?_|refine SX.G.yK ?_|refine SX.G.yO ?_|refine SX.G.pick ?_|refine SX.R.nX ?_|refine SX.R.nQ ?_|refine SX.G.pickB ?_|refine SX.G.pickV ?_|refine SX.G.qI ?_|refine SX.G.qx ?_|refine SX.G.conv ?_|refine SX.G.lQ ?_|refine SX.G.sliceH ?_|refine SX.G.fQ ?_|refine SX.G.sliceLoW ?_|refine SX.G.fE ?_|refine SX.G.sliceLoR ?_|refine SX.G.sliceHiO ?_|refine SX.G.fT ?_|refine SX.G.fV ?_|refine SX.G.sliceLHT ?_|refine SX.G.sj ?_|refine SX.G.jI ?_|refine SX.G.eG ?_|refine SX.G.eH ?_|refine SX.G.sliceLHS ?_|refine SX.G.iK ?_)
   |(refine SX.Reg.is ?_;first|refine SX.Reg.go ?_|refine SX.R.runT ?_|refine SX.R.wS ?_|refine SX.R.nJ ?_|refine SX.R.nW ?_|refine SX.R.lS ?_|refine SX.Reg.nil ⟨by kernel_rfl,?_⟩|refine SX.Reg.nil ?_)
   |(refine SX.WP.is ?_;first|refine SX.WP.seq ?_|refine SX.WP.dh ?_|refine SX.WP.gK (by kernel_rfl) ?_|refine SX.WP.block ?_|refine SX.WP.skip ?_|refine SX.WP.exit ?_|refine SX.WP.ret ?_|refine SX.WP.label ?_|refine SX.W.lV ?_|refine SX.W.jF ?_)
   |refine SX.lF ?_|refine SX.mU ?_|refine SX.nK ?_|refine SX.jK ?_|refine SX.jL ?_|refine SX.jo ?_|refine SX.jR rfl ?_|refine SX.vg ?_|refine SX.retN ?_|refine SX.qp ?_|refine SX.qE ?_)
  repeat(first
   |(refine SX.Go1.is ?_;first
     |(refine SX.Go1.isLoad ?_;first|refine SX.G.ko ?_|refine SX.G.jV ?_|refine SX.G.ig ?_|refine SX.G.iC ?_|refine SX.G.kg ?_|refine SX.G.iA ?_|refine SX.G.load5 ?_|refine SX.G.loadH ?_|refine SX.G.loadHI ?_|refine SX.G.loadOWA ?_|refine SX.G.jX ?_|refine SX.G.iB ?_|refine SX.G.lJ ?_|refine SX.G.iH ?_)
     |(refine SX.Go1.lU ?_;first|refine SX.G.lss ?_|refine SX.G.eql ?_|refine SX.G.neq ?_|refine SX.G.gtr ?_|refine SX.G.geq ?_|refine SX.G.leq ?_|refine SX.G.addN ?_|refine SX.G.nU ?_|refine SX.G.wH ?_|refine SX.G.subNu ?_|refine SX.G.add ?_|refine SX.G.sub ?_|refine SX.G.mulN ?_|refine SX.G.nY ?_|refine SX.G.mul ?_|refine SX.G.quoN ?_|refine SX.G.nS ?_|refine SX.G.quo ?_|refine SX.G.wF ?_|refine SX.G.nI ?_|refine SX.G.rem ?_|refine SX.G.vU ?_|refine SX.G.xC ?_|refine SX.G.qQ ?_|refine SX.G.qP ?_|refine SX.G.shr ?_|refine SX.G.shl ?_|refine SX.G.and ?_|refine SX.G.wX ?_)
     |(refine SX.Go1.tF ?_;first|refine SX.G.not ?_|refine SX.G.neg ?_)
     |(refine SX.Go1.isField ?_;first|refine SX.G.fieldAddr ?_|refine SX.G.bZ ?_)
     |(refine SX.Go1.gG ?_;first|refine SX.G.sG ?_|refine SX.G.iq ?_|refine SX.G.iw ?_|refine SX.G.iy ?_|refine SX.G.build5 ?_|refine SX.G.build ?_)
     |(refine SX.Go1.gH ?_;first|refine SX.G.store ?_|refine SX.G.lK ?_|refine SX.G.storeH ?_|refine SX.G.storeHI ?_|refine SX.G.ng ?_|refine SX.G.jc ?_)
     |(refine SX.Go1.tJ ?_;first|refine SX.G.dV ?_|refine SX.G.dS ?_|refine SX.G.dD ?_|refine SX.G.indexAddrH ?_|refine SX.G.cK ?_)
     |(refine SX.Go1.eT ?_;first|refine SX.G.litH ?_|refine SX.G.lM ?_|refine SX.G.nE ?_|refine SX.G.afA ?_|refine SX.G.afH ?_|refine SX.G.qM ?_)
     |(refine SX.Go1.bJ ?_;first|refine SX.G.minN ?_|refine SX.G.wo ?_|refine SX.G.qL ?_|refine SX.G.lenN ?_|refine SX.G.vo ?_|refine SX.G.su ?_|refine SX.G.qN ?_|refine SX.G.gF ?_|refine SX.G.appendNilW ?_|refine SX.G.lenH ?_|refine SX.G.appendH ?_|refine SX.G.acj ?_|refine SX.G.yT ?_|refine SX.G.tV ?_|refine SX.G.jg ?_|refine SX.G.call ?_)
     |refine SX.G.move ?_|refine SX.G.assign ?_|refine SX.G.extract ?_|refine SX.G.afk ?_|refine SX.G.box ?_|refine SX.G.nk ?_|refine SX.G.alloc ?_|refine SX.G.j5 ?_|refine SX.G.nilCheckR ?_|refine SX.G.ajN ?_|refine SX.G.yK ?_|refine SX.G.yO ?_|refine SX.G.pick ?_|refine SX.R.nX ?_|refine SX.R.nQ ?_|refine SX.G.pickB ?_|refine SX.G.pickV ?_|refine SX.G.qI ?_|refine SX.G.qx ?_|refine SX.G.conv ?_|refine SX.G.lQ ?_|refine SX.G.sliceH ?_|refine SX.G.fQ ?_|refine SX.G.sliceLoW ?_|refine SX.G.fE ?_|refine SX.G.sliceLoR ?_|refine SX.G.sliceHiO ?_|refine SX.G.fT ?_|refine SX.G.fV ?_|refine SX.G.sliceLHT ?_|refine SX.G.sj ?_|refine SX.G.jI ?_|refine SX.G.eG ?_|refine SX.G.eH ?_|refine SX.G.sliceLHS ?_|refine SX.G.iK ?_)
   |(refine SX.Reg.is ?_;first|refine SX.Reg.go ?_|refine SX.R.runT ?_|refine SX.R.wS ?_|refine SX.R.nJ ?_|refine SX.R.nW ?_|refine SX.R.lS ?_|refine SX.Reg.nil ⟨by kernel_rfl,?_⟩|refine SX.Reg.nil ?_)
   |(refine SX.WP.is ?_;first|refine SX.WP.seq ?_|refine SX.WP.dh ?_|refine SX.WP.gK (by kernel_rfl) ?_|refine SX.WP.block ?_|refine SX.WP.skip ?_|refine SX.WP.exit ?_|refine SX.WP.ret ?_|refine SX.WP.label ?_|refine SX.W.lV ?_|refine SX.W.jF ?_)
   |refine SX.lF ?_|refine SX.mU ?_|refine SX.nK ?_|refine SX.jK ?_|refine SX.jL ?_|refine SX.jo ?_|refine SX.jR rfl ?_|refine SX.vg ?_|refine SX.retN ?_|refine SX.qp ?_|refine SX.qE ?_)
  exact h.out):p:=k ⟨h⟩
end
section
def mkOne:Op→Bool
 | .makeFunc _ a c=>Nat.beq a.size 0&&Nat.beq c.size 0
 |_=>true
def noMk:List Oper→Bool
 |[]=>true
 |o::l=>match mkOne o.op with|true=>noMk l|false=>false
section
variable{P:Program}{C:Ctx}{st:St}{Q:Exit→St→Prop}
theorem WP.zB{id:Nat}{l:List Oper}(hn:noMk l=true)(h:Reg P C l l st [] (fun _ st'=>Q .normal st')):WP P C (.region id l.toArray false) st Q:=WP.dh h
theorem WP.uW{id:Nat}{l:List Oper}(hn:noMk l=true)(hm:P.follows .mixedOrders=true)(h:Reg P C l l st [] (fun feet st'=>check l.toArray feet=true∧Q .normal st')):WP P C (.region id l.toArray true) st Q:=WP.gK hm h
end
section
variable{P:Program}{C:Ctx}{st:St}
variable{ops rest:List Oper}{acc:List (List Nat×List Nat)}{K:List (List Nat×List Nat)→St→Prop}{dst:Option Tmp}{ty t e:TypeId}{x y:Operand}{k:IntKind}{n size:Nat}
end
end
section
section
variable{P:Program}{C:Ctx}{st:St}
variable{ops rest:List Oper}{acc:List (List Nat×List Nat)}{K:List (List Nat×List Nat)→St→Prop}{dst:Option Tmp}{d:Tmp}{op:Op}{ty t t' t'' e:TypeId}{x y:Operand}{k:IntKind}{n size:Nat}
class ae6(P:Program)(t:TypeId)(e:outParam TypeId):Prop where
 h:P.underlying t=some (.pointer e)
 s:(P.info? e).map (fun j=>Nat.beq j.size 0)=some false
theorem G.ahO[hp:ae6 P t e](next:Reg P C ops rest (st.app dst ⟨.v (.bool true),[]⟩) (([],[])::acc) K)(hd:aA dst C.nt=true:=by rfl)(hx:st.ev x=some (.v (.pointer none)):=by rfl)(hy:st.ev y=some (.v (.pointer none)):=by rfl):Go1 P C ops dst (.binOp .eql t x y t') ty rest st acc K:=
 Go1.qJ hd rfl hx hy (fun ρ o w ho h1 h2=>by
  unfold execOp;rw[ho];have h:∀d:Nat,(Op.equalIn (d+1) t (.pointer none) (.pointer none)).run P w= .ok true w:=fun d=>by
   simp[Op.equalIn,run_underlying hp.h]
  simp[h1,h2,eqGuard,binOp,Op.equal,Op.maxDepth,h 9999]) next
theorem G.ai3{b off:Nat}[hp:ae6 P t e](next:Reg P C ops rest (st.app dst ⟨.v (.bool false),[]⟩) (([],[])::acc) K)(hd:aA dst C.nt=true:=by rfl)(hx:st.ev x=some (.ptr b off):=by rfl)(hy:st.ev y=some (.v (.pointer none)):=by rfl):Go1 P C ops dst (.binOp .eql t x y t') ty rest st acc K:=
 Go1.dG [] [] (by simp) hd (by simp) (fun o ho _ st' E S a w hev hs _=>by
  have hv':a.eval x= .pointer (some ⟨E.blk b,off,none⟩):=(hs.ev ((hev x (by simp[ho,Op.operands])).trans hx)).1
  have hyv:a.eval y= .pointer none:=(hs.ev ((hev y (by simp[ho,Op.operands])).trans hy)).1
  refine⟨fun j hj=>(by cases hj),.bool false,?_,rfl⟩
  unfold execOp;rw[ho];have h:∀d:Nat,(Op.equalIn (d+1) t (.pointer (some ⟨E.blk b,off,none⟩)) (.pointer none)).run P w= .ok false w:=fun d=>by
   simp[Op.equalIn,run_underlying hp.h]
  simp[hv',hyv,eqGuard,binOp,Op.equal,Op.maxDepth,h 9999]) next
theorem G.ahK{b off:Nat}[hp:ae6 P t e](next:Reg P C ops rest (st.app dst ⟨.v (.bool false),[]⟩) (([],[])::acc) K)(hd:aA dst C.nt=true:=by rfl)(hx:st.ev x=some (.ptr b off):=by rfl)(hy:st.ev y=some (.ptr b off):=by rfl):Go1 P C ops dst (.binOp .neq t x y t') ty rest st acc K:=
 Go1.dG [] [] (by simp) hd (by simp) (fun o ho _ st' E S a w hev hs _=>by
  have hv':a.eval x= .pointer (some ⟨E.blk b,off,none⟩):=(hs.ev ((hev x (by simp[ho,Op.operands])).trans hx)).1
  have hyv:a.eval y= .pointer (some ⟨E.blk b,off,none⟩):=(hs.ev ((hev y (by simp[ho,Op.operands])).trans hy)).1
  obtain⟨j,hj,_⟩:=Option.map_eq_some_iff.1 hp.s;refine⟨fun j hj=>(by cases hj),.bool false,?_,rfl⟩
  have h:=Lib.run_neq_ptr_same (P:=P) w ⟨E.blk b,off,none⟩ hp.h hj;unfold execOp;rw[ho];simp[hv',hyv,eqGuard,h]) next
class TUns(P:Program)(t:TypeId):Prop where
 h:P.underlying t=some .unsafePointer
theorem ac5{w:World}{g:Nat}{cs:List Value}{T:TypeId}(h:w.heap[g]? =some (.cells cs.toArray T (0,0))):w.shape? g=some (T,cs.length):=by
 simp[World.shape?,h]
theorem G.ad8{b off:Nat}{T:TypeId}{cells:List Atom}[hp:ae6 P t e][hu:TUns P t'](next:Reg P C ops rest (st.app dst ⟨.ptr b off,[]⟩) (([b],[])::acc) K)(hd:aA dst C.nt=true:=by rfl)(hx:st.ev x=some (.ptr b off):=by rfl)
  (hb:st.hp b= .ent (.box T cells):=by rfl) (ho:Nat.blt off cells.length=true:=by rfl):Go1 P C ops dst (.convert t t' x) ty rest st acc K:=
 Go1.dG [(b,.box T cells)] [b] (fun c e' hc=>by simp at hc;simp[hc.1]) hd (fun c e' hc=>by simp at hc;rw[hc.1,hc.2];exact hb) (fun o ho' _ st' E S a w hev hs hrd=>by
  obtain⟨hv,hids⟩:=hs.ev ((hev x (by simp[ho',Op.operands])).trans hx)
  have hv':a.eval x= .pointer (some ⟨E.blk b,off,none⟩):=hv;obtain⟨j,hj,hjs⟩:=Option.map_eq_some_iff.1 hp.s;obtain⟨cs,hcs,hall⟩:=hs.hp b _ (hrd b _ List.mem_cons_self);have hlen:=hall.length;have hlt:off < cs.length:=by rw[←hlen];simpa using ho
  have h:=Lib.run_to_unsafe (P:=P) w (dst:=t') ⟨E.blk b,off,none⟩ hp.h hu.h hj (fun h0=>by rw[h0]at hjs;cases hjs) (ac5 hcs) hlt
  refine⟨fun i hi=>hids i hi,_,?_,rfl⟩
  unfold execOp;rw[ho'];simp[hv',h]) next
theorem Go1.asW{b off m:Nat}{T:TypeId}{cells:List Atom}[hu:TUns P t][hp:ae6 P t' e](hd:aA dst C.nt=true)(hx:st.ev x=some (.ptr b off))(hb:st.hp b= .ent (.box T cells))(hl:cells.length=m)
  (hlies:liesAt P P.depth T (m / P.cellsOf T) off e 1=true) (next:Reg P C ops rest (st.app dst ⟨.ptr b off,[]⟩) (([b],[])::acc) K):Go1 P C ops dst (.convert t t' x) ty rest st acc K:=
 Go1.dG [(b,.box T cells)] [b] (fun c e' hc=>by simp at hc;simp[hc.1]) hd (fun c e' hc=>by simp at hc;rw[hc.1,hc.2];exact hb) (fun o ho' _ st' E S a w hev hs hrd=>by
  obtain⟨hv,hids⟩:=hs.ev ((hev x (by simp[ho',Op.operands])).trans hx)
  have hv':a.eval x= .pointer (some ⟨E.blk b,off,none⟩):=hv;obtain⟨j,hj,hjs⟩:=Option.map_eq_some_iff.1 hp.s;obtain⟨cs,hcs,hall⟩:=hs.hp b _ (hrd b _ List.mem_cons_self);have hlen:=hall.length;have h:=Lib.run_from_unsafe (P:=P) w (src:=t) ⟨E.blk b,off,none⟩ hu.h hp.h hj (ac5 hcs) (by rw[←hlen,hl];exact hlies)
  refine⟨fun i hi=>hids i hi,_,?_,rfl⟩
  unfold execOp;rw[ho'];simp[hv',h]) next
theorem Go1.als{f:FuncId}{b off:Nat}{as:Array Operand}{tys:Array TypeId}(ha:evs st as.toList=some [.ptr b off])(hc:∀v w,(callFunc f #[v]).run P w= .ok (.value v) w)(hd:aA dst C.nt=true)
  (next:Reg P C ops rest (st.app dst ⟨.ptr b off,[]⟩) (([],[])::acc) K):Go1 P C ops dst (.call ⟨.value (.func f),as,tys⟩) ty rest st acc K:=
 Go1.dG [] [] (by simp) hd (by simp) (fun o ho _ st' E S a w hev hs _=>by
  have hop:o.op.operands= #[.func f]++as:=by rw[ho];rfl
  have ha':evs st' as.toList=some [.ptr b off]:=by rw[iP (fun x hx=>hev x (by rw[hop];simp at hx;simp[hx]))];exact ha
  obtain⟨hall,hids⟩:=mh hs ha'
  match hm:as.toList.map a.eval,hall with
  |[v],hh=>
   have hv:v= .pointer (some ⟨E.blk b,off,none⟩):=hh.1;have har:as.map a.eval= #[v]:=by apply Array.ext';simpa using hm
   refine⟨fun i hi=>hids _ List.mem_cons_self i hi,v,?_,hv⟩
   unfold execOp;rw[ho];have he:a.eval (.func f)= .func (.func f) #[] #[]:=rfl;have:=hc v w;simp[resolve,he,Deferred.ofValue,invoke,har,this]) next
theorem afW{S:Nat→Prop}{w:World}:∀l:List UInt8,aJ (CA.has S w) (l.flatMap kI) (Lib.strCells ⟨⟨l⟩⟩)
 |[]=>trivial
 |b::l=>⟨rfl,afW l⟩
theorem afr{S:Nat→Prop}{w:World}:∀{l:List UInt8} {vs:List Value},aJ (CA.has S w) (l.flatMap kI) vs→vs=l.map fun b=>Value.int .u8 b.toNat
 |[],[],_=>rfl
 |b::l,v::vs,h=>by
  have h1:v= .int .u8 b.toNat:=h.1;rw[h1,afr (l:=l) h.2];rfl
 |[],_::_,h=>h.elim
 |_::_,[],h=>h.elim
class al5(P:Program)(e:TypeId):Prop where
 h:(P.info? e).map (fun i=>(i.zero,i.size,i.bytes))=some (some (.int .u8 0),1,1)
theorem zm(w:World)(t u ty e:TypeId)(ht:P.underlying t=some (.slice e))(hu:P.underlying u=some .string)(he:al5 P e)(v:Value)(n:Nat)(xs:List Value)(hown:w.ownsRow 0 e 1 v n xs)(s:ByteArray)(hbytes:n+s.size≤140737488355328):
  ∃v' w',(Builtin.append_ #[t,u] ty #[v,.string s]).run P w= .ok v' w'∧w'.ownsRow 0 e 1 v' (n+s.size) (xs++Lib.strCells s)∧w.grownBy w' v.ownBlock∧∀k,v'.ownBlock=some k→v.ownBlock=some k∨w.heap.size≤k:=by
 obtain⟨i,hi,hn⟩:=Option.map_eq_some_iff.1 he.h;simp only[Prod.mk.injEq]at hn;obtain⟨hz,hsize,hby⟩:=hn;have hbase:0≤w.heap.size:=Nat.zero_le _;obtain⟨v',w',hr,h1,h2,h3⟩:=Lib.run_append_own_string (P:=P) w 0 t u ty e i ht hu hi hz hsize hby v n xs hown s (by unfold maxLen;omega) hbytes hbase
 refine⟨v',w',hr,h1,h2,fun k hk=>?_⟩
 have hxl:xs.length=n:=by simpa using hown.1
 rcases hown.2 with⟨rfl,rfl⟩|⟨g,cap,cur,rfl,hbg,hg,hnc,hcm,hcs,htake⟩
 ·by_cases hm:s.size=0
  ·have hf:=Lib.run_firstCells_string (P:=P) w 1 s;rw[hm]at hf;have hr':(Builtin.append_ #[t,u] ty #[.slice none 0 0,.string s]).run P w= .ok (.slice none 0 0) w:=by
    simp[Builtin.append_,run_underlying ht,run_underlying hu,Go.sizeOf,typeInfo,hi,hsize,Builtin.lenOf,hm,hf]
   rw[hr']at hr;cases hr;cases hk
  ·have hr':=run_append_nil_string (P:=P) w t u ty e i (.int .u8 0) ht hu hi hz s (by omega) (by omega) (by rw[hby];omega)
   rw[hr']at hr;cases hr;simp[Value.ownBlock]at hk;right;omega
 ·by_cases hroom:n+s.size≤cap
  ·have hcs':cur.size=cap:=by simpa using hcs
   have hr':=Lib.run_append_room_string (P:=P) w t u ty e i ht hu hi hsize g n cap cur hg s hroom (by omega)
   rw[hr']at hr;cases hr;exact .inl hk
  ·have holds:∀j u,xs[j]? =some u→w.cell? ((⟨g,0,none⟩:Addr).add j)=some u:=hown.cells (g:=g) rfl;have hr':=Lib.run_append_grow_string (P:=P) w t u ty e i (.int .u8 0) ht hu hi hz ⟨g,0,none⟩ n cap xs (by rw[hsize];simpa using hxl) holds s (by omega) (by unfold maxLen at hcm;omega) (by rw[hby];exact growslice_fits (by omega) (by omega))
   rw[hr']at hr;cases hr;simp[Value.ownBlock]at hk;right;omega
theorem G.zT{b n:Nat}{cells:List CA}{l:List UInt8}[ht:bI P t e 1][hu:abn P t'][he:al5 P e](next:Reg P C ops rest (st.app (some d) ⟨.own d,[(b,.gone),(d,.ent (.row e 1 (n+l.length) (cells++l.flatMap kI)))]⟩) (([b,d],[b,d])::acc) K)(hd:aA (some d) C.nt=true:=by rfl)(hx:st.ev x=some (.own b):=by rfl)(hy:st.ev y=some (.v (str l)):=by rfl)
  (hb:st.hp b= .ent (.row e 1 n cells):=by rfl) (hf:st.hp d= .free:=by rfl) (hbytes:n+l.length≤140737488355328:=by omega):Go1 P C ops (some d) (.call ⟨.builtin .append,#[x,y],#[t,t']⟩) ty rest st acc K:=by
 have hbd:d≠b:=by rintro rfl;rw[hf]at hb;cases hb
 refine⟨[b,d],_,fun o h2 h3 h4=>aV.eff [] [(b,.row e 1 n cells)] (fun c hc=>?_) (h2▸dR hd) (fun c e hc=>by cases hc) (fun c e hc=>?_) (fun c s hc=>?_) (fun c s hc=>?_) (fun st' E S a w hev hhp hs _ hpre=>?_),next⟩
 ·rcases hc with⟨e,hc⟩|⟨e,hc⟩|⟨s,hc⟩
  ·cases hc
  ·simp at hc;simp[hc.1]
  ·simp at hc;rcases hc with hc|hc <;> simp[hc.1]
 ·simp at hc;obtain⟨rfl,rfl⟩:=hc;exact⟨hb,_,List.mem_cons_self⟩
 ·simp at hc;rcases hc with⟨rfl,rfl⟩|⟨rfl,rfl⟩
  ·exact .inl ⟨_,List.mem_cons_self⟩
  ·exact .inr hf
 ·simp at hc;rcases hc with⟨rfl,rfl⟩|⟨rfl,rfl⟩ <;> rfl
 ·obtain⟨⟨hxv,_⟩,_⟩:=hs.ev ((hev x (by simp[h3,Op.operands,Call.operands])).trans hx)
  have hyv:a.eval y=str l:=(hs.ev ((hev y (by simp[h3,Op.operands,Call.operands])).trans hy)).1
  have hbe:=hpre b _ List.mem_cons_self;obtain⟨vs,hown,hvs⟩:=hs.hp b _ hbe;have hsz:(⟨⟨l⟩⟩:ByteArray).size=l.length:=rfl;obtain⟨v',w',h5,h6,h7,h8⟩:=zm (P:=P) w t t' o.type e ht.h hu.h he (E.sl b) n vs hown ⟨⟨l⟩⟩ (by rw[hsz];exact hbytes)
  rw[hsz]at h6;refine⟨⟨fun i hi=>?_,fun c e hc i hi=>?_⟩,fun K Q hK=>?_⟩
  ·simp[AV.ids,AV0.ids,Atom.ids]at hi;subst hi;simp[fJ,Slot.used]
  ·simp at hc
   obtain⟨rfl,rfl⟩:=hc;cases hi
  ·have hE:=Eff.row (E:=E) (S:=S) (b:=d) (pre:=[(b,.row e 1 n cells)]) (gones:=[(b,.gone)]) hs.lt
    (fun c e' k hc hk=>by simp at hc;obtain⟨rfl,rfl⟩:=hc;exact(hs.blk _ _ k hbe hk).1)
    (fun e' hc=>by simp at hc;exact hbd hc.1)
    (fun c s hc=>by simp at hc;obtain⟨rfl,rfl⟩:=hc;exact⟨rfl,_,List.mem_cons_self⟩)
    (tC h7 (fun k hk=>⟨b,_,List.mem_cons_self,hk⟩)) h6 (af6 hvs (afW l))
    (fun k hk=>(h8 k hk).imp (fun h=>⟨b,_,List.mem_cons_self,h⟩) id)
   unfold Oper.wp;have hrun:(execOp a.eval o).run P w= .ok (.value v') w':=by
    unfold execOp;rw[h3];simp[resolve,invoke,builtin,hxv,hyv,h5]
   rw[hrun];exact hK _ _ _ _ hE
theorem G.pY{b n:Nat}{cells:List CA}(next:Reg P C ops rest (st.app dst ⟨.it (.one (.rptr b 0)),[]⟩) (([b],[])::acc) K)(hd:aA dst C.nt=true:=by rfl)(hx:st.ev x=some (.own b):=by rfl)(hb:st.hp b= .ent (.row e size n cells):=by rfl)(h0:0 < n:=by omega):Go1 P C ops dst (.call ⟨.builtin .unsafeSliceData,#[x],#[t]⟩) ty rest st acc K:=
 Go1.dG [(b,.row e size n cells)] [b] (fun c e' hc=>by simp at hc;simp[hc.1]) hd (fun c e' hc=>by simp at hc;rw[hc.1,hc.2];exact hb) (fun o ho _ st' E S a w hev hs hrd=>by
  obtain⟨⟨hv,_⟩,hids⟩:=hs.ev ((hev x (by simp[ho,Op.operands,Call.operands])).trans hx)
  obtain⟨vs,hown,hvs⟩:=hs.hp b _ (hrd b _ List.mem_cons_self);rcases hown.2 with⟨_,hz⟩|⟨g,cap,cur,hsl,_,hg,hnc,_⟩
  ·omega
  ·have h:=Lib.run_unsafeSliceData_row (P:=P) w #[t] o.type ⟨g,0,none⟩ n cap (by omega)
   refine⟨fun j hj=>hids j hj,.pointer (some ⟨g,0,none⟩),?_,⟨g,n,cap,hsl,rfl⟩⟩
   unfold execOp;rw[ho];simp[resolve,invoke,builtin,hv,hsl,h]) next
class anH(P:Program)(e:TypeId):Prop where
 c:P.cellsOf e=1
theorem G.oU{b n:Nat}{l:List UInt8}[hp:ae6 P t e][hc:anH P e](next:Reg P C ops rest (st.app dst ⟨.v (str l),[(b,.gone)]⟩) (([b],[b])::acc) K)(hd:aA dst C.nt=true:=by rfl)(hx:st.ev x=some (.it (.one (.rptr b 0))):=by rfl)(hy:st.ev y=some (.v (.int .i64 (n:Int))):=by rfl)
  (hb:st.hp b= .ent (.row e 1 n (l.flatMap kI)):=by rfl) (h0:0 < n:=by omega):Go1 P C ops dst (.call ⟨.builtin .unsafeString,#[x,y],#[t,t']⟩) ty rest st acc K:=by
 refine⟨[b],_,fun o h2 h3 h4=>aV.eff [] [(b,.row e 1 n (l.flatMap kI))] (fun c hc=>?_) (h2▸dR hd) (fun c e hc=>by cases hc) (fun c e hc=>?_) (fun c s hc=>?_) (fun c s hc=>?_) (fun st' E S a w hev hhp hs _ hpre=>?_),next⟩
 ·rcases hc with⟨e,hc⟩|⟨e,hc⟩|⟨s,hc⟩
  ·cases hc
  ·simp at hc;simp[hc.1]
  ·simp at hc;simp[hc.1]
 ·simp at hc;obtain⟨rfl,rfl⟩:=hc;exact⟨hb,_,List.mem_cons_self⟩
 ·simp at hc;obtain⟨rfl,rfl⟩:=hc;exact .inl ⟨_,List.mem_cons_self⟩
 ·simp at hc;obtain⟨rfl,rfl⟩:=hc;rfl
 ·have hx0:∃g n cap,E.sl b= .slice (some ⟨g,0,none⟩) n cap∧a.eval x= .pointer (some ⟨g,0,none⟩):=(hs.ev ((hev x (by simp[h3,Op.operands,Call.operands])).trans hx)).1
  obtain⟨g',n',cap',hsl',hxv⟩:=hx0;have hyv:a.eval y= .int .i64 (n:Int):=(hs.ev ((hev y (by simp[h3,Op.operands,Call.operands])).trans hy)).1
  have hbe:=hpre b _ List.mem_cons_self;obtain⟨vs,hown,hvs⟩:=hs.hp b _ hbe;have hv:=afr hvs;subst hv;have hl:l.length=n:=by have:=hown.1;simpa using this
  rcases hown.2 with⟨_,hz⟩|⟨g,cap,cur,hsl,_,hg,hnc,hcm,hcs,htk⟩
  ·omega
  ·have hgg:g'=g:=by rw[hsl]at hsl';injection hsl' with q1 q2 q3;injection q1 with q1;injection q1 with q1;exact q1.symm
   subst hgg;have hne:l≠[]:=by rintro rfl;simp at hl;omega
   have hcell:∀j x,l[j]? =some x→w.cell? ((⟨g',0,none⟩:Addr).add j)=some (.int .u8 x.toNat):=fun j u hu=>by
    have hown':=hown;rw[hsl]at hown';exact hown'.cells (g:=g') rfl j _ (by simp[hu])
   have h:=Lib.run_unsafeString_row (P:=P) w t t' o.type e hp.h hc.c g' cur.size (by simp[World.shape?,hg]) l hne (by rw[hl];simp at hcs;omega) (by unfold maxLen at hcm;omega) hcell
   rw[hl]at h;refine⟨⟨fun i hi=>(by cases hi),fun c e' hc i hi=>(by simp at hc)⟩,fun K Q hK=>?_⟩
   unfold Oper.wp;have hrun:(execOp a.eval o).run P w= .ok (.value (str l)) (w.freeze ⟨g',0,none⟩ n):=by
    unfold execOp;rw[h3];simp[resolve,invoke,builtin,hxv,hyv,h]
   rw[hrun];have hat:∀k,(Ent.row e 1 n (l.flatMap kI)).at E b k↔k=g':=fun k=>by
    show (E.sl b).ownBlock=some k↔_;rw[hsl];simp[Value.ownBlock];exact eq_comm
   have ho:Off (fun k=>∃c e',(c,e')∈[(b,Ent.row e 1 n (l.flatMap kI))]∧e'.at E c k) w (w.freeze ⟨g',0,none⟩ n):=by
    have hn0:n≠0:=by omega
    unfold World.freeze;rw[if_neg hn0];refine⟨rfl,rfl,rfl,by simp,fun k hk hn=>?_⟩
    have hkg:k≠g':=fun e=>hn ⟨b,_,List.mem_cons_self,(hat k).2 e⟩
    simp only[];rw[Array.getElem?_modify,if_neg (fun e=>hkg e.symm)]
   refine hK (str l) _ E S {env:=fun _ _=>⟨rfl,rfl⟩,fpe:=fun _ _=>rfl,sub:=fun _ h=>h,new:=fun _ h=> .inl h,lt:=fun k hk=>Nat.lt_of_lt_of_le (hs.lt k hk) ho.size,off:=ho,res:=rfl,ents:=fun i e hi=>?_,blk:=fun i e k hi hk=>?_,sep:=fun i i' e e' k hne hi=>?_}
   ·simp at hi
   ·simp at hi
   ·simp at hi
end
structure HeldG(q:Prop):Prop where
 out:q
end
end SX