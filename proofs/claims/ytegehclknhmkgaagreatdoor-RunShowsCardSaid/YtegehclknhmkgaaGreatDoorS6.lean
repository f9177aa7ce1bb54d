import Derived.Test.YtegehclknhmkgaaGreatDoorS5
import Derived.Lib.SliceRun
import Derived.MapKept
import Derived.Test.YtegehclknhmkgaaGreatDoorS27
set_option linter.unusedVariables false
set_option linter.unusedSimpArgs false
namespace SX
section
open Go Go.RowKit
section
section
variable{P:Program}{C:Ctx}{st:St}
variable{ops rest:List Oper}{acc:List (List Nat×List Nat)}{K:List (List Nat×List Nat)→St→Prop}{dst:Option Tmp}{d:Tmp}{op:Op}{ty t t':TypeId}{x y z:Operand}
theorem G.ao5{b off:Nat}{T:TypeId}{cells:List Atom}{a1 a2 a3 a4 a5 a6 a7 a8 a9 a10 a11 a12 a13 a14 a15:Atom}[ht:fT P t 15](next:Reg P C ops rest (st.app (some d) ⟨.agg [a1,a2,a3,a4,a5,a6,a7,a8,a9,a10,a11,a12,a13,a14,a15],[]⟩) (([b],[])::acc) K)(hd:aB (some d) C.nt=true:=by rfl)(hx:st.ev x=some (.ptr b off):=by rfl)(hb:st.hp b= .ent (.box T cells):=by rfl)(hr:(cells.drop off).take 15=[a1,a2,a3,a4,a5,a6,a7,a8,a9,a10,a11,a12,a13,a14,a15]:=by rfl):Go1 P C ops (some d) (.load t x) ty rest st acc K:=
 Go1.qR hd hx hb (by have:=congrArg List.length hr;simp at this;rw[Nat.ble_eq];omega) hr next
theorem G.aiI{c1 c2 c3 c4 c5 c6 c7 c8 c9 c10 c11 c12 c13 c14 c15:CA}{cells:List CA}[ht:fT P t 15](next:Reg P C ops rest (st.app dst ⟨.agg [.c c1,.c c2,.c c3,.c c4,.c c5,.c c6,.c c7,.c c8,.c c9,.c c10,.c c11,.c c12,.c c13,.c c14,.c c15],[]⟩) (([],[])::acc) K)(hd:aB dst C.nt=true:=by rfl)(hx:st.ev x=some (.r (bJ cells)):=by rfl)(hl:cells=[c1,c2,c3,c4,c5,c6,c7,c8,c9,c10,c11,c12,c13,c14,c15]:=by rfl):Go1 P C ops dst (.load t x) ty rest st acc K:=by
 subst hl;exact Go1.qG hd hx rfl next
theorem G.ajp{pl:List (Nat×Nat)}{zs:List Value}{parts:Array (Nat×Operand)}{ps:List (Nat×AV0)}{a1 a2 a3 a4 a5 a6 a7 a8 a9 a10 a11 a12 a13 a14 a15:Atom}[ht:dz P t pl][hz:eU P t zs](next:Reg P C ops rest (st.app (some d) ⟨.agg [a1,a2,a3,a4,a5,a6,a7,a8,a9,a10,a11,a12,a13,a14,a15],[]⟩) (([],[])::acc) K)(hd:aB (some d) C.nt=true:=by rfl)(hp:evp st parts.toList=some ps:=by rfl)(h1:(ps.all fun p=>p.2.cells.all Atom.dK)=true:=by rfl)(hf:eH pl (zs.map fun v=>Atom.c (.val v)) ps=some [a1,a2,a3,a4,a5,a6,a7,a8,a9,a10,a11,a12,a13,a14,a15]:=by rfl):Go1 P C ops (some d) (.build t parts) ty rest st acc K:=
 Go1.build hd hp h1 hf next
theorem ak.gJ{t:Tmp}{T T':TypeId}{b off:Nat}{cells:List Atom}{a1 a2 a3 a4 a5 a6 a7 a8 a9 a10 a11 a12 a13 a14 a15:Atom}[ht:fT P T 15](h:st.tm t=some (.ptr b off))(hb:st.hp b= .ent (.box T' cells))(hr:(cells.drop off).take 15=[a1,a2,a3,a4,a5,a6,a7,a8,a9,a10,a11,a12,a13,a14,a15]):ak P st (.cell t T) (.agg [a1,a2,a3,a4,a5,a6,a7,a8,a9,a10,a11,a12,a13,a14,a15]):=
 ak.agg h hb (by have:=congrArg List.length hr;simp at this;rw[Nat.ble_eq];omega) hr
end
end
section
class ahQ(zs:List Value)(cells:outParam (List CA)):Prop where
 h:∀S w,aK (CA.has S w) cells zs
theorem aeH{S:Nat→Prop}{w:World}{cells:List CA}{zs:List Value}(h:aK (CA.has S w) cells zs):∀n:Nat,aK (CA.has S w) (List.replicate n cells).flatten (List.replicate n zs).flatten
 |0=>trivial
 |n+1=>by
  rw[List.replicate_succ,List.replicate_succ,List.flatten_cons,List.flatten_cons];exact h.append (aeH h n)
theorem ap7(zs:List Value)(h0:0 < zs.length)(n:Nat):(madeCells zs.toArray (n*zs.length)).toList=(List.replicate n zs).flatten:=by
 induction n with
 |zero=>simp[madeCells]
 |succ n ih=>
  rw[show List.replicate (n+1) zs=List.replicate n zs++[zs]by rw[List.replicate_succ'],List.flatten_append,←ih]
  apply List.ext_getElem?
  intro j;have hsz:∀m,(madeCells zs.toArray m).toList.length=m:=fun m=>by rw[Array.length_toList,size_madeCells]
  by_cases h1:j < n*zs.length
  ·rw[List.getElem?_append_left (by rw[hsz];exact h1)]
   have h2:j < (n+1)*zs.length:=by rw[Nat.add_mul];omega
   simp[madeCells,h1,h2]
  ·rw[List.getElem?_append_right (by rw[hsz];omega),hsz]
   by_cases h2:j < (n+1)*zs.length
   ·have h3:j - n*zs.length < zs.length:=by rw[Nat.add_mul]at h2;omega
    have h4:j % zs.length=j - n*zs.length:=by
     have:j=(j - n*zs.length)+zs.length*n:=by rw[Nat.mul_comm zs.length n];omega
     rw[this,Nat.add_mul_mod_self_left,Nat.mod_eq_of_lt h3];rw[Nat.mul_comm zs.length n];omega
    simp[madeCells,h2,h4,h3]
   ·have h3:¬j - n*zs.length < zs.length:=by rw[Nat.add_mul]at h2;omega
    simp[madeCells,h2]
    omega
section
variable{P:Program}{C:Ctx}{st:St}
variable{ops rest:List Oper}{acc:List (List Nat×List Nat)}{K:List (List Nat×List Nat)→St→Prop}{dst:Option Tmp}{d:Tmp}{op:Op}{ty t t':TypeId}{x y z:Operand}
theorem Go1.aiC{e:TypeId}{n bytes size:Nat}{k k':IntKind}{zs:List Value}{cells:List CA}[ht:bg P t e size][he:eB P e zs bytes][hz:ahQ zs cells](hd:aB (some d) C.nt=true)(hx:st.ev x=some (.v (.int k (n:Int))))(hy:st.ev y=some (.v (.int k' (n:Int))))(hf:st.hp d= .free)
  (hb:n*bytes≤140737488355328) (hm:n≤9223372036854775807) (hs:zs.length=size)
  (next:Reg P C ops rest (st.app (some d) ⟨.own d,[(d,.ent (.row e size n (List.replicate n cells).flatten))]⟩) (([d],[d])::acc) K):Go1 P C ops (some d) (.makeSlice t x y) ty rest st acc K:=
 ⟨[d],⟨.own d,[(d,.ent (.row e size n (List.replicate n cells).flatten))]⟩,fun o h2 h3 h4=>aX.newRow h2 hd hf [] (fun b e hb=>by cases hb) (fun st' E S a w hev hs' _=>by
  have hxv:a.eval x= .int k (n:Int):=(hs'.ev ((hev x (by simp[h3,Op.operands])).trans hx)).1
  have hyv:a.eval y= .int k' (n:Int):=(hs'.ev ((hev y (by simp[h3,Op.operands])).trans hy)).1
  obtain⟨i,z',hi,hz',hc,hsz,hby⟩:=nK he ht.s;obtain⟨w',hrun,hown,hgr⟩:=run_make_full (P:=P) w 0 t e i z' size ht.h hi hz' hsz k k' n (by rw[hby,Nat.mul_comm];omega) (by simp[maxLen];omega) (Nat.zero_le _)
  refine⟨.slice (some ⟨w.heap.size,0,none⟩) n n,w',(List.replicate n zs).flatten,?_,?_,lD hgr (fun k hk=>by cases hk),fun k hk=>by simp[Value.ownBlock]at hk;omega,aeH (hz.h _ _) n⟩
  ·unfold execOp;rw[h3];simp[hxv,hyv,hrun]
  ·have hl:(madeCells z'.cells (n*size)).toList=(List.replicate n zs).flatten:=by rw[hc,←hs];exact ap7 zs (by rw[hs];exact ht.p) n
   rw[←hl];exact hown),next⟩
theorem G.aiC{e:TypeId}{n bytes size:Nat}{k k':IntKind}{zi zj:Int}{zs:List Value}{cells:List CA}[ht:bg P t e size][he:eB P e zs bytes][hz:ahQ zs cells](next:Reg P C ops rest (st.app (some d) ⟨.own d,[(d,.ent (.row e size n (List.replicate n cells).flatten))]⟩) (([d],[d])::acc) K)(hd:aB (some d) C.nt=true:=by rfl)(hx:st.ev x=some (.v (.int k zi)):=by rfl)(hx0:zi=(n:Int):=by first|with_reducible rfl|exact SX.jq _|rfl)(hy:st.ev y=some (.v (.int k' zj)):=by rfl)(hy0:zj=(n:Int):=by first|with_reducible rfl|exact SX.jq _|rfl)(hf:st.hp d= .free:=by rfl)
  (hb:n*bytes≤140737488355328:=by omega) (hm:n≤9223372036854775807:=by omega) (hs:zs.length=size:=by rfl):Go1 P C ops (some d) (.makeSlice t x y) ty rest st acc K:=by
 subst hx0;subst hy0;exact Go1.aiC hd hx hy hf hb hm hs next
theorem G.ama{b off:Nat}{T:TypeId}{cells:List Atom}{a1:Atom}[ht:fT P t 1](next:Reg P C ops rest (st.app (some d) ⟨.agg [a1],[]⟩) (([b],[])::acc) K)(hd:aB (some d) C.nt=true:=by rfl)(hx:st.ev x=some (.ptr b off):=by rfl)(hb:st.hp b= .ent (.box T cells):=by rfl)(hr:(cells.drop off).take 1=[a1]:=by rfl):Go1 P C ops (some d) (.load t x) ty rest st acc K:=
 Go1.qR hd hx hb (by have:=congrArg List.length hr;simp at this;rw[Nat.ble_eq];omega) hr next
theorem G.ajq{c1:CA}{cells:List CA}[ht:fT P t 1](next:Reg P C ops rest (st.app dst ⟨.agg [.c c1],[]⟩) (([],[])::acc) K)(hd:aB dst C.nt=true:=by rfl)(hx:st.ev x=some (.r (bJ cells)):=by rfl)(hl:cells=[c1]:=by rfl):Go1 P C ops dst (.load t x) ty rest st acc K:=by
 subst hl;exact Go1.qG hd hx rfl next
theorem G.ao8{pl:List (Nat×Nat)}{zs:List Value}{parts:Array (Nat×Operand)}{ps:List (Nat×AV0)}{a1:Atom}[ht:dz P t pl][hz:eU P t zs](next:Reg P C ops rest (st.app (some d) ⟨.agg [a1],[]⟩) (([],[])::acc) K)(hd:aB (some d) C.nt=true:=by rfl)(hp:evp st parts.toList=some ps:=by rfl)(h1:(ps.all fun p=>p.2.cells.all Atom.dK)=true:=by rfl)(hf:eH pl (zs.map fun v=>Atom.c (.val v)) ps=some [a1]:=by rfl):Go1 P C ops (some d) (.build t parts) ty rest st acc K:=
 Go1.build hd hp h1 hf next
theorem ak.agg1{t:Tmp}{T T':TypeId}{b off:Nat}{cells:List Atom}{a1:Atom}[ht:fT P T 1](h:st.tm t=some (.ptr b off))(hb:st.hp b= .ent (.box T' cells))(hr:(cells.drop off).take 1=[a1]):ak P st (.cell t T) (.agg [a1]):=
 ak.agg h hb (by have:=congrArg List.length hr;simp at this;rw[Nat.ble_eq];omega) hr
end
end
section
section
variable{P:Program}{C:Ctx}{st:St}
variable{ops rest:List Oper}{acc:List (List Nat×List Nat)}{K:List (List Nat×List Nat)→St→Prop}{dst:Option Tmp}{d:Tmp}{op:Op}{ty t t':TypeId}{x y z:Operand}
end
structure HeldK(q:Prop):Prop where
 out:q
end
section
section
variable{P:Program}{C:Ctx}{st:St}
variable{ops rest:List Oper}{acc:List (List Nat×List Nat)}{K:List (List Nat×List Nat)→St→Prop}{dst:Option Tmp}{d:Tmp}{op:Op}{ty t t':TypeId}{x y z:Operand}
end
end
section
def lM(S:Nat→Prop)(w:World)(p:List UInt8×List CA)(e:MapEntry):Prop:=e.key=str p.1∧∃us:List Value,e.val= .agg us.toArray∧aK (CA.has S w) p.2 us
theorem lM.step{S S':Nat→Prop}{w w':World}{p:List UInt8×List CA}{e:MapEntry}(h:lM S w p e)(ho:Off S w w')(hs:∀k,S' k→S k∨w.heap.size≤k):lM S' w' p e:=by
 obtain⟨h1,us,h2,h3⟩:=h;exact⟨h1,us,h2,h3.mono fun a u _ ha=>ha.step ho hs⟩
def gT(l:List (List UInt8×List CA)):lW where
 has _ v X S w:=∃r es clock,v= .map (some r)∧(∀k,X k↔k=r)∧w.heap[r]? =some (.map es clock)∧aK (lM S w) l es.toList
 step:=fun {b v X S S' w w'} ⟨r,es,clock,h1,h2,h3,h4⟩ ho hs hX=>
  ⟨r,es,clock,h1,h2,by rw[hX r ((h2 r).2 rfl)];exact h3,h4.mono fun a u _ ha=>ha.step ho hs⟩
def eO{β:Type}:List (List UInt8×β)→List UInt8→Option β
 |[],_=>none
 |(k,c)::l,s=>if s=k then some c else eO l s
def iJ{β:Type}:List (List UInt8×β)→List UInt8→β→List (List UInt8×β)
 |[],s,c=>[(s,c)]
 |(k,d)::l,s,c=>if s=k then(k,c)::l else(k,d)::iJ l s c
theorem tN(s t:List UInt8):Instr.sameNow .string (str s) (str t)=some (decide (s=t)):=by
 show some ((⟨⟨s⟩⟩:ByteArray)==⟨⟨t⟩⟩)=_;have e:((⟨⟨s⟩⟩:ByteArray)==⟨⟨t⟩⟩)=((⟨s⟩:Array UInt8)==⟨t⟩):=rfl;rw[e]
 congr 1
 rw[Bool.eq_iff_iff,beq_iff_eq,decide_eq_true_iff];constructor
 ·intro h;injection h
 ·rintro rfl;rfl
theorem acI{S:Nat→Prop}{w:World}{s:List UInt8}:∀{l:List (List UInt8×List CA)} {es:List MapEntry} (i:Nat),aK (lM S w) l es→eO l s=none→Instr.findNow .string (str s) es i=some none
 |[],[],_,_,_=>rfl
 |(k,c)::l,e::es,i,h,hn=>by
  obtain⟨⟨h1,_⟩,h2⟩:=h;unfold eO at hn;by_cases hk:s=k
  ·rw[if_pos hk]at hn;cases hn
  ·rw[if_neg hk]at hn;unfold Instr.findNow;rw[h1];show (match Instr.sameNow .string (str s) (str k)with|some true=>some (some (i,e.val))|some false=>Instr.findNow .string (str s) es (i+1)|none=>none)=_
   rw[tN,decide_eq_false hk];exact acI (i+1) h2 hn
 |[],_::_,_,h,_=>h.elim
 |_::_,[],_,h,_=>h.elim
theorem acF{S:Nat→Prop}{w:World}{s:List UInt8}{c:List CA}:∀{l:List (List UInt8×List CA)} {es:List MapEntry} (i:Nat),aK (lM S w) l es→eO l s=some c→∃j us,Instr.findNow .string (str s) es i=some (some (i+j,.agg us))∧aK (CA.has S w) c us.toList∧(∃e,es[j]? =some e∧e.key=str s)
 |[],[],_,_,hn=>by cases hn
 |(k,d)::l,e::es,i,h,hn=>by
  obtain⟨⟨h1,us,h3,h4⟩,h2⟩:=h;unfold eO at hn;by_cases hk:s=k
  ·rw[if_pos hk]at hn;cases hn;refine⟨0,us.toArray,?_,by simpa using h4,e,rfl,by rw[h1,hk]⟩
   unfold Instr.findNow;rw[h1];show (match Instr.sameNow .string (str s) (str k)with|some true=>some (some (i,e.val))|some false=>Instr.findNow .string (str s) es (i+1)|none=>none)=_
   rw[tN,decide_eq_true hk,h3];rfl
  ·rw[if_neg hk]at hn;obtain⟨j,vs,g1,g2,e',g3,g4⟩:=acF (i+1) h2 hn;refine⟨j+1,vs,?_,g2,e',g3,g4⟩;unfold Instr.findNow;rw[h1];show (match Instr.sameNow .string (str s) (str k)with|some true=>some (some (i,e.val))|some false=>Instr.findNow .string (str s) es (i+1)|none=>none)=_
   rw[tN,decide_eq_false hk];show Instr.findNow .string (str s) es (i+1)=_;rw[g1,show i+1+j=i+(j+1)by omega]
 |[],_::_,_,h,_=>h.elim
 |_::_,[],_,h,_=>h.elim
theorem agk{S:Nat→Prop}{w:World}{s:List UInt8}{c:List CA}{e:MapEntry}(he:lM S w (s,c) e):∀{l:List (List UInt8×List CA)} {es:List MapEntry},aK (lM S w) l es→eO l s=none→aK (lM S w) (iJ l s c) (es++[e])
 |[],[],_,_=>⟨he,trivial⟩
 |(k,d)::l,f::es,h,hn=>by
  unfold eO at hn;by_cases hk:s=k
  ·rw[if_pos hk]at hn;cases hn
  ·rw[if_neg hk]at hn;unfold iJ;rw[if_neg hk];exact⟨h.1,agk he h.2 hn⟩
 |[],_::_,h,_=>h.elim
 |_::_,[],h,_=>h.elim
theorem afh{S:Nat→Prop}{w:World}{s:List UInt8}{c d:List CA}:∀{l:List (List UInt8×List CA)} {es:List MapEntry} (i:Nat),aK (lM S w) l es→eO l s=some d→
  ∃j v,Instr.findNow .string (str s) es i=some (some (i+j,v))∧(∃e,es[j]? =some e∧e.key=str s)∧∀e,lM S w (s,c) e→aK (lM S w) (iJ l s c) (es.set j e)
 |[],[],_,_,hn=>by cases hn
 |(k,d)::l,e::es,i,h,hn=>by
  obtain⟨⟨h1,us,h3,h4⟩,h2⟩:=h;unfold eO at hn;by_cases hk:s=k
  ·rw[if_pos hk]at hn;refine⟨0,e.val,?_,⟨e,rfl,by rw[h1,hk]⟩,fun f hf=>?_⟩
   ·unfold Instr.findNow;rw[h1];show (match Instr.sameNow .string (str s) (str k)with|some true=>some (some (i,e.val))|some false=>Instr.findNow .string (str s) es (i+1)|none=>none)=_
    rw[tN,decide_eq_true hk];rfl
   ·unfold iJ;rw[if_pos hk];subst hk;exact⟨hf,h2⟩
  ·rw[if_neg hk]at hn;obtain⟨j,v,g1,⟨e',g3,g4⟩,g5⟩:=afh (c:=c) (i+1) h2 hn;refine⟨j+1,v,?_,⟨e',g3,g4⟩,fun f hf=>?_⟩
   ·unfold Instr.findNow;rw[h1];show (match Instr.sameNow .string (str s) (str k)with|some true=>some (some (i,e.val))|some false=>Instr.findNow .string (str s) es (i+1)|none=>none)=_
    rw[tN,decide_eq_false hk];show Instr.findNow .string (str s) es (i+1)=_;rw[g1,show i+1+j=i+(j+1)by omega]
   ·unfold iJ;rw[if_neg hk];exact⟨⟨h1,us,h3,h4⟩,g5 f hf⟩
 |[],_::_,_,h,_=>h.elim
 |_::_,[],_,h,_=>h.elim
class akZ(P:Program)(t:TypeId)(zs:outParam (List Value)):Prop where
 h:∃k e,P.underlying t=some (.map k e)∧P.underlying k=some .string∧(P.info? e).map (·.zero)=some (some (.agg zs.toArray))
theorem rF(s:List UInt8):Go.MapKept.IsKey .string (str s):=by
 first|exact trivial|simp[Go.MapKept.IsKey,str]
section
variable{P:Program}{t:TypeId}{zs:List Value}[ht:akZ P t zs]{w:World}{r:Nat}{es:Array MapEntry}{clock:Nat}{S:Nat→Prop}{l:List (List UInt8×List CA)}{s:List UInt8}
include ht
theorem ado{c:List CA}(hb:w.heap[r]? =some (.map es clock))(ha:aK (lM S w) l es.toList)(hl:eO l s=some c):
  ∃us:List Value,(Instr.lookup t (.map (some r)) (str s) true).run P w= .ok (.tuple #[.agg us.toArray,.bool true]) w∧aK (CA.has S w) c us:=by
 obtain⟨k,e,hm,hk,hz⟩:=ht.h;obtain⟨j,us,h1,h2,_⟩:=acF 0 ha hl;refine⟨us.toList,?_,h2⟩;unfold Instr.lookup;simp[run_underlying hm,Go.MapKept.run_getObj_map hb,Go.MapKept.run_checkKey hk (rF s),Go.MapKept.run_findKey hk h1]
theorem amF{c:List CA}{us:List Value}(hb:w.heap[r]? =some (.map es clock))(ha:aK (lM S w) l es.toList)(hu:aK (CA.has S w) c us):
  ∃es' clock',(Instr.mapUpdate t (.map (some r)) (str s) (.agg us.toArray)).run P w= .ok () {w with heap:=w.heap.setIfInBounds r (.map es' clock')}∧aK (lM S w) (iJ l s c) es'.toList:=by
 obtain⟨k,e,hm,hk,hz⟩:=ht.h;cases hl:eO l s with
 |none=>
  have h1:=acI (s:=s) 0 ha hl;refine⟨es.push {key:=str s,val:= .agg us.toArray,born:=clock},clock+1,?_,?_⟩
  ·unfold Instr.mapUpdate;simp[run_underlying hm,Go.MapKept.run_getObj_map hb,Go.MapKept.run_checkKey hk (rF s),Go.MapKept.run_findKey hk h1,Go.MapKept.run_setObj_map _ hb]
  ·rw[Array.toList_push];exact agk ⟨rfl,us,rfl,hu⟩ ha hl
 |some d=>
  obtain⟨j,v,h1,⟨f,h3,h4⟩,h5⟩:=afh (c:=c) 0 ha hl;rw[Nat.zero_add]at h1;have h3':es[j]? =some f:=by rw[←h3,Array.getElem?_toList]
  refine⟨es.modify j fun e=>{e with key:=str s,val:= .agg us.toArray},clock,?_,?_⟩
  ·unfold Instr.mapUpdate;simp[run_underlying hm,Go.MapKept.run_getObj_map hb,Go.MapKept.run_checkKey hk (rF s),Go.MapKept.run_findKey hk h1,Go.MapKept.run_setObj_map _ hb,h3',h4,Go.MapKept.run_keyThatStays (rF s)]
  ·have e9:(es.modify j fun e=>{e with key:=str s,val:= .agg us.toArray}).toList=es.toList.set j {f with key:=str s,val:= .agg us.toArray}:=by
    apply List.ext_getElem?;intro i
    rw[List.getElem?_set]
    simp only[Array.toList_modify,List.getElem?_modify]
    by_cases hi:j=i
    ·subst hi;obtain⟨hlt,_⟩:=List.getElem?_eq_some_iff.1 h3
     rw[if_pos rfl,if_pos hlt,h3];simp
    ·rw[if_neg hi];simp[hi]
   rw[e9];exact h5 _ ⟨rfl,us,rfl,hu⟩
end
theorem Eff.ata{E:Env}{S X:Nat→Prop}{w w':World}{b:Nat}{A:lW}{v:Value}
  (hl:∀k,S k→k < w.heap.size) (ho:Off none' w w') (hA:A.has (E.blk b) v X (fun k=>S k∨X k) w')
  (hX:∀k,X k→w.heap.size≤k) (hXl:∀k,X k→k < w'.heap.size) (hone:v.oneCell'=true):
  Eff E S w [] ⟨.own b,[(b,.ent (.abs A))]⟩ v w' ⟨E.blk,upd E.sl b v,upd E.fp b X⟩ (fun k=>S k∨X k):=by
 have hent:∀i e,(i,Slot.ent e)∈[(b,Slot.ent (Ent.abs A))]→i=b∧e= .abs A:=by
  intro i e hi;simp at hi;exact hi
 refine
  {env:=fun i hi=>?_,fpe:=fun i hi=>?_,sub:=fun k hk=> .inl hk,new:=fun k hk=>hk.imp id (hX k),lt:=fun k hk=>?_,off:=ho.mono fun k hk=>hk.elim,res:=⟨by show v=upd E.sl b v b;rw[upd_same],hone⟩,
   ents:=fun i e hi=>?_,blk:=fun i e k hi hk=>?_,sep:=fun i i' e e' k hne h1 h2=>?_}
 ·by_cases e:i=b
  ·subst e;obtain⟨e,he⟩:=hi ⟨_,by simp;rfl⟩
   cases he
  ·exact⟨rfl,upd_ne _ _ e⟩
 ·exact upd_ne _ _ fun e=>hi (.ent (.abs A)) (by simp[e])
 ·rcases hk with hk|hk
  ·exact Nat.lt_of_lt_of_le (hl k hk) ho.size
  ·exact hXl k hk
 ·obtain⟨rfl,rfl⟩:=hent i e hi;show A.has (E.blk i) (upd E.sl i v i) (upd E.fp i X i) _ w';rw[upd_same,upd_same];exact hA
 ·obtain⟨rfl,rfl⟩:=hent i e hi;have hk':upd E.fp i X i k:=hk;rw[upd_same]at hk';exact⟨.inr hk',.inr (hX k hk')⟩
 ·obtain⟨rfl,_⟩:=hent _ _ h1;obtain⟨rfl,_⟩:=hent _ _ h2;exact absurd rfl hne
section
variable{P:Program}{C:Ctx}{st:St}
variable{ops rest:List Oper}{acc:List (List Nat×List Nat)}{K:List (List Nat×List Nat)→St→Prop}{dst:Option Tmp}{d:Tmp}{ty t:TypeId}{x y z:Operand}{zs:List Value}
theorem Go1.makeMap(hd:aB (some d) C.nt=true)(hf:st.hp d= .free)(next:Reg P C ops rest (st.app (some d) ⟨.own d,[(d,.ent (.abs (gT [])))]⟩) (([d],[d])::acc) K):Go1 P C ops (some d) (.makeMap t none) ty rest st acc K:=
 ⟨[d],⟨.own d,[(d,.ent (.abs (gT [])))]⟩,fun o h2 h3 h4=>by
  refine aX.eff [] [] (fun b hb=>?_) (h2▸dI hd) (fun b e hb=>by cases hb) (fun b e hb=>by cases hb) (fun b s hb=>?_) (fun b s hb=>?_) (fun st' E S a w hev hhp hs _ _=>?_)
  ·rcases hb with⟨e,hb⟩|⟨e,hb⟩|⟨s,hb⟩
   ·cases hb
   ·cases hb
   ·simp at hb;simp[hb.1]
  ·simp at hb;rw[hb.1];exact .inr hf
  ·simp at hb;rw[hb.2];rfl
  ·refine⟨⟨fun i hi=>?_,fun b e hb i hi=>?_⟩,fun K Q hK=>?_⟩
   ·simp[AV.ids,AV0.ids,Atom.ids]at hi;subst hi;simp[fq,Slot.used]
   ·simp at hb
    obtain⟨rfl,rfl⟩:=hb;cases hi
   ·unfold Oper.wp execOp;rw[h3];have hr:(Instr.makeMap t none).run P w= .ok (.map (some w.heap.size)) (w.alloc (.map #[] 0)):=by simp[Instr.makeMap]
    simp only[hr,Option.map_none,Sem.run_bind,Sem.run_pure,Result.andThen_ok];refine hK _ _ _ _ (Eff.ata (X:=fun k=>k=w.heap.size) hs.lt (Off.alloc _ _ _) ⟨w.heap.size,#[],0,rfl,fun k=>Iff.rfl,heap_alloc_new w _,trivial⟩ (fun k hk=>by rw[hk];exact Nat.le_refl _) (fun k hk=>?_) rfl)
    rw[hk];show w.heap.size < (w.heap.push _).size;simp,next⟩
theorem Go1.ajA{b:Nat}{l:List (List UInt8×List CA)}{s:List UInt8}{c:List CA}[ht:akZ P t zs](hd:aB dst C.nt=true)(hx:st.ev x=some (.own b))(hb:st.hp b= .ent (.abs (gT l)))(hy:st.ev y=some (.v (str s)))(hl:eO l s=some c)
  (next:Reg P C ops rest (st.app dst ⟨.tup [.agg (c.map Atom.c),.one (.c (.val (.bool true)))],[]⟩) (([b],[])::acc) K):Go1 P C ops dst (.lookup t x y true) ty rest st acc K:=
 Go1.dn [(b,.abs (gT l))] [b] (by simp) hd (by simpa using hb) (fun o ho _ st' E S a w hev hs hrd=>by
  obtain⟨⟨hv,_⟩,_⟩:=hs.ev ((hev x (by simp[ho,Op.operands])).trans hx)
  have hyv:a.eval y=str s:=(hs.ev ((hev y (by simp[ho,Op.operands])).trans hy)).1
  have h0:(gT l).has (E.blk b) (E.sl b) (E.fp b) S w:=hs.hp b (.abs (gT l)) (hrd b (.abs (gT l)) (by simp))
  obtain⟨r,es,clock,h1,h2,h3,h4⟩:=h0;obtain⟨us,hrun,hall⟩:=ado (P:=P) (t:=t) h3 h4 hl;refine⟨fun i hi=>?_,.tuple #[.agg us.toArray,.bool true],?_,?_⟩
  ·exfalso
   simp only[AV.ids,List.flatMap_cons,AV0.ids,List.flatMap_nil,List.append_nil,List.mem_append,List.mem_flatMap,List.mem_map]at hi;rcases hi with⟨_,⟨_,_,rfl⟩,h⟩|h <;> cases h
  ·unfold execOp;rw[ho];simp[show a.eval x=_ from hv,h1,hyv,hrun]
  ·exact⟨[.agg us.toArray,.bool true],rfl,⟨us,rfl,uU hall⟩,rfl,trivial⟩) next
theorem aaM{E:Env}{S:Nat→Prop}{w:World}:∀{m:List CA} {us:List Value},aK (Atom.has E S w) (m.map Atom.c) us→aK (CA.has S w) m us
 |[],[],_=>trivial
 |_::_,_::_,h=>⟨h.1,aaM h.2⟩
 |[],_::_,h=>h.elim
 |_::_,[],h=>h.elim
theorem Eff.aqK{E:Env}{S:Nat→Prop}{w w':World}{b:Nat}{A A':lW}(hl:∀k,S k→k < w.heap.size)(hS:∀k,E.fp b k→S k)(ho:Off (E.fp b) w w')(hA:A'.has (E.blk b) (E.sl b) (E.fp b) S w'):
  Eff E S w [(b,.abs A)] ⟨.v undef,[(b,.ent (.abs A'))]⟩ undef w' E S:=by
 refine
  {env:=fun i hi=>⟨rfl,rfl⟩,fpe:=fun _ _=>rfl,sub:=fun k hk=>hk,new:=fun k hk=> .inl hk,lt:=fun k hk=>Nat.lt_of_lt_of_le (hl k hk) ho.size,off:=ho.mono fun k hk=>⟨b,_,List.mem_cons_self,hk⟩,
   res:=rfl,ents:=fun i e' hi=>?_,blk:=fun i e' k hi hk=>?_,sep:=fun i i' e' e2 k hne h1 h2=>?_}
 ·simp at hi;obtain⟨rfl,rfl⟩:=hi
  exact hA
 ·simp at hi;obtain⟨rfl,rfl⟩:=hi
  exact⟨hS k hk,.inl ⟨i,_,List.mem_cons_self,hk⟩⟩
 ·simp at h1 h2;exact absurd (h1.1.trans h2.1.symm) hne
theorem Off.setObj{S:Nat→Prop}(w:World)(r:Nat)(o:Obj)(h:S r):Off S w {w with heap:=w.heap.setIfInBounds r o}:=
 ⟨rfl,rfl,rfl,by simp,fun k hk hn=>by
  have hne:k≠r:=fun e=>hn (e▸h)
  show (w.heap.setIfInBounds r o)[k]? =_;rw[Array.getElem?_setIfInBounds,if_neg (fun e=>hne e.symm)]⟩
theorem Go1.putM{b:Nat}{l:List (List UInt8×List CA)}{s:List UInt8}{la:List Atom}{c:List CA}[ht:akZ P t zs](hx:st.ev x=some (.own b))(hb:st.hp b= .ent (.abs (gT l)))(hy:st.ev y=some (.v (str s)))(hz:st.ev z=some (.agg la))(hc:aR la=some c)
  (next:Reg P C ops rest (st.app none ⟨.v undef,[(b,.ent (.abs (gT (iJ l s c))))]⟩) (([b],[b])::acc) K):Go1 P C ops none (.mapUpdate t x y z) ty rest st acc K:=by
 refine⟨[b],⟨.v undef,[(b,.ent (.abs (gT (iJ l s c))))]⟩,fun o h2 h3 h4=>aX.eff [] [(b,.abs (gT l))] (fun i hi=>?_) (h2▸(fun x hx=>by cases hx)) (fun b e hb=>by cases hb) (fun i e hi=>?_) (fun i s hi=>?_) (fun i s hi=>?_) (fun st' E S a w hev hhp hse _ hpre=>?_),next⟩
 ·rcases hi with⟨e,hi⟩|⟨e,hi⟩|⟨s,hi⟩
  ·cases hi
  ·simp at hi;simp[hi.1]
  ·simp at hi;simp[hi.1]
 ·simp at hi
  obtain⟨rfl,rfl⟩:=hi;exact⟨hb,_,by simp;rfl⟩
 ·simp at hi;obtain⟨rfl,_⟩:=hi;exact .inl ⟨_,by simp;rfl⟩
 ·simp at hi;rw[hi.2];rfl
 ·obtain⟨⟨hv,_⟩,_⟩:=hse.ev ((hev x (by simp[h3,Op.operands])).trans hx)
  have hyv:a.eval y=str s:=(hse.ev ((hev y (by simp[h3,Op.operands])).trans hy)).1
  obtain⟨⟨us,hzv,hall⟩,_⟩:=hse.ev ((hev z (by simp[h3,Op.operands])).trans hz)
  have hb':=hpre b (.abs (gT l)) (by simp)
  have h0:(gT l).has (E.blk b) (E.sl b) (E.fp b) S w:=hse.hp b _ hb';have hX:∀k,E.fp b k→S k:=fun k hk=>(hse.blk b _ k hb' hk).1
  obtain⟨r,es,clock,h1,h5,h6,h7⟩:=h0;have hcl:aK (CA.has S w) c us:=by
   rw[dF hc]at hall;exact aaM hall
  obtain⟨es',clock',hrun,h8⟩:=amF (P:=P) (t:=t) (s:=s) h6 h7 hcl;have hor:Off (E.fp b) w {w with heap:=w.heap.setIfInBounds r (.map es' clock')}:=Off.setObj w r _ ((h5 r).2 rfl);refine⟨⟨fun i hi=>(by cases hi),fun i e hi j hj=>?_⟩,fun K Q hK=>?_⟩
  ·simp at hi
   obtain⟨rfl,rfl⟩:=hi;cases hj
  ·unfold Oper.wp execOp;rw[h3];simp only[show a.eval x=_ from hv,h1,hyv,show a.eval z=_ from hzv,hrun,Sem.run_bind,Sem.run_pure,Result.andThen_ok]
   refine hK undef _ _ _ (Eff.aqK hse.lt hX hor ⟨r,es',clock',h1,h5,(Go.MapKept.heap_set h6).1,h8.mono fun p e _ he=>he.step (hor.mono hX) fun k hk=> .inl hk⟩)
end
section
variable{P:Program}{C:Ctx}{st:St}
variable{ops rest:List Oper}{acc:List (List Nat×List Nat)}{K:List (List Nat×List Nat)→St→Prop}{dst:Option Tmp}{d:Tmp}{ty t:TypeId}{x y z:Operand}{zs:List Value}
theorem G.makeMap(next:Reg P C ops rest (st.app (some d) ⟨.own d,[(d,.ent (.abs (gT [])))]⟩) (([d],[d])::acc) K)(hd:aB (some d) C.nt=true:=by rfl)(hf:st.hp d= .free:=by rfl):Go1 P C ops (some d) (.makeMap t none) ty rest st acc K:=Go1.makeMap hd hf next
theorem G.ajA{b:Nat}{l:List (List UInt8×List CA)}{s:List UInt8}{c:List CA}[ht:akZ P t zs](next:Reg P C ops rest (st.app dst ⟨.tup [.agg (c.map Atom.c),.one (.c (.val (.bool true)))],[]⟩) (([b],[])::acc) K)(hd:aB dst C.nt=true:=by rfl)(hx:st.ev x=some (.own b):=by rfl)(hb:st.hp b= .ent (.abs (gT l)):=by rfl)(hy:st.ev y=some (.v (str s)):=by rfl)(hl:eO l s=some c:=by first|(with_reducible assumption)|assumption):Go1 P C ops dst (.lookup t x y true) ty rest st acc K:=Go1.ajA hd hx hb hy hl next
theorem G.putM{b:Nat}{l:List (List UInt8×List CA)}{s:List UInt8}{la:List Atom}{c:List CA}[ht:akZ P t zs](next:Reg P C ops rest (st.app none ⟨.v undef,[(b,.ent (.abs (gT (iJ l s c))))]⟩) (([b],[b])::acc) K)(hx:st.ev x=some (.own b):=by rfl)(hb:st.hp b= .ent (.abs (gT l)):=by rfl)(hy:st.ev y=some (.v (str s)):=by rfl)(hz:st.ev z=some (.agg la):=by rfl)(hc:aR la=some c:=by rfl):Go1 P C ops none (.mapUpdate t x y z) ty rest st acc K:=Go1.putM hx hb hy hz hc next
end
section
variable{P:Program}{C:Ctx}{st:St}
variable{ops rest:List Oper}{acc:List (List Nat×List Nat)}{K:List (List Nat×List Nat)→St→Prop}{d:Tmp}{ty t:TypeId}{x:Operand}
theorem G.asl{ι:Type}{b bb off:Nat}{φ:ι→Prop}{T:TypeId}{cells:ι→List Atom}{R:ι→List (Nat×Ent)}{u:Value}[ht:iq P t](next:Reg P C ops rest (st.app (some d) ⟨.v u,[]⟩) (([b],[])::acc) K)(hd:aB (some d) C.nt=true:=by rfl)(hx:st.ev x=some (.ptr b off):=by rfl)
  (hb:st.hp b= .ent (.abs (kP bb φ T cells R)):=by rfl) (hr:∀p,(cells p)[off]? =some (.c (.val u)):=by intro p;rfl):Go1 P C ops (some d) (.load t x) ty rest st acc K:=
 Go1.dn [(b,.abs (kP bb φ T cells R))] [b] (by simp) hd (by simpa using hb) (fun o ho _ st' E S a w hev hs hrd=>by
  obtain⟨hv,_⟩:=hs.ev ((hev x (by simp[ho,Op.operands])).trans hx)
  have hb':=hrd b (.abs (kP bb φ T cells R)) (by simp)
  obtain⟨p,E2,_,hB⟩:=hs.hp b _ hb';obtain⟨cs,hg,hall⟩:=hB.box;obtain⟨u',hu,hcu⟩:=hall.get (hr p);have e:u'=u:=hcu;subst e;refine⟨fun i hi=>(by cases hi),u',?_,rfl⟩
  unfold execOp;rw[ho];simp[show a.eval x=_ from hv,Instr.loadAt,Instr.sureAddr,uS ht w hg hu]) next
theorem G.aiX{ι:Type}{b bb off:Nat}{φ:ι→Prop}{T:TypeId}{cells:ι→List Atom}{R:ι→List (Nat×Ent)}{m:List CA}[ht:fT P t 15](next:Reg P C ops rest (st.app (some d) ⟨.agg (m.map Atom.c),[]⟩) (([b],[])::acc) K)(hd:aB (some d) C.nt=true:=by rfl)(hx:st.ev x=some (.ptr b off):=by rfl)
  (hb:st.hp b= .ent (.abs (kP bb φ T cells R)):=by rfl) (hr:∀p,aR (((cells p).drop off).take 15)=some m:=by intro p;rfl) (hl:∀p,Nat.ble (off+15) (cells p).length=true:=by intro p;rfl):Go1 P C ops (some d) (.load t x) ty rest st acc K:=
 Go1.dn [(b,.abs (kP bb φ T cells R))] [b] (by simp) hd (by simpa using hb) (fun o ho _ st' E S a w hev hs hrd=>by
  obtain⟨hv,_⟩:=hs.ev ((hev x (by simp[ho,Op.operands])).trans hx)
  have hb':=hrd b (.abs (kP bb φ T cells R)) (by simp)
  obtain⟨p,E2,_,hB⟩:=hs.hp b _ hb';obtain⟨cs,hg,hall⟩:=hB.box;have hlen:=hall.length;have hl:=hl p;rw[Nat.ble_eq]at hl;have hrun:=oG (P:=P) (n:=15) (off:=off) ht w hg (by omega)
  have hcl:=(hall.drop off).take 15;rw[dF (hr p)]at hcl;refine⟨fun i hi=>?_,.agg ((cs.drop off).take 15).toArray,?_,?_⟩
  ·exfalso
   simp only[AV.ids,AV0.ids,List.mem_flatMap,List.mem_map]at hi;obtain⟨_,⟨_,_,rfl⟩,h⟩:=hi;cases h
  ·unfold execOp;rw[ho];simp[show a.eval x=_ from hv,Instr.loadAt,Instr.sureAddr,hrun]
  ·exact⟨_,rfl,uU (aaM hcl)⟩) next
end
section
variable{P:Program}{C:Ctx}{st:St}
variable{ops rest:List Oper}{acc:List (List Nat×List Nat)}{K:List (List Nat×List Nat)→St→Prop}{d:Tmp}{ty t:TypeId}
theorem G.ai2{pl:List (Nat×Nat)}{zs:List Value}{parts:Array (Nat×Operand)}{ps:List (Nat×AV0)}{a1 a2 a3 a4 a5 a6 a7 a8 a9 a10 a11 a12 a13 a14 a15 a16 a17:Atom}[ht:dz P t pl][hz:eU P t zs](next:Reg P C ops rest (st.app (some d) ⟨.agg [a1,a2,a3,a4,a5,a6,a7,a8,a9,a10,a11,a12,a13,a14,a15,a16,a17],[]⟩) (([],[])::acc) K)(hd:aB (some d) C.nt=true:=by rfl)(hp:evp st parts.toList=some ps:=by rfl)(h1:(ps.all fun p=>p.2.cells.all Atom.dK)=true:=by rfl)(hf:eH pl (zs.map fun v=>Atom.c (.val v)) ps=some [a1,a2,a3,a4,a5,a6,a7,a8,a9,a10,a11,a12,a13,a14,a15,a16,a17]:=by rfl):Go1 P C ops (some d) (.build t parts) ty rest st acc K:=
 Go1.build hd hp h1 hf next
theorem ak.iT{u:Tmp}{T T':TypeId}{b off:Nat}{cells:List Atom}{a1 a2 a3 a4 a5 a6 a7 a8 a9 a10 a11 a12 a13 a14 a15 a16 a17:Atom}[ht:fT P T 17](h:st.tm u=some (.ptr b off))(hb:st.hp b= .ent (.box T' cells))(hr:(cells.drop off).take 17=[a1,a2,a3,a4,a5,a6,a7,a8,a9,a10,a11,a12,a13,a14,a15,a16,a17]):ak P st (.cell u T) (.agg [a1,a2,a3,a4,a5,a6,a7,a8,a9,a10,a11,a12,a13,a14,a15,a16,a17]):=
 ak.agg h hb (by have:=congrArg List.length hr;simp at this;rw[Nat.ble_eq];omega) hr
theorem G.aiP{pl:List (Nat×Nat)}{zs:List Value}{parts:Array (Nat×Operand)}{ps:List (Nat×AV0)}{a1 a2 a3 a4 a5 a6 a7 a8 a9 a10 a11 a12 a13 a14 a15 a16 a17 a18 a19 a20 a21:Atom}[ht:dz P t pl][hz:eU P t zs](next:Reg P C ops rest (st.app (some d) ⟨.agg [a1,a2,a3,a4,a5,a6,a7,a8,a9,a10,a11,a12,a13,a14,a15,a16,a17,a18,a19,a20,a21],[]⟩) (([],[])::acc) K)(hd:aB (some d) C.nt=true:=by rfl)(hp:evp st parts.toList=some ps:=by rfl)(h1:(ps.all fun p=>p.2.cells.all Atom.dK)=true:=by rfl)(hf:eH pl (zs.map fun v=>Atom.c (.val v)) ps=some [a1,a2,a3,a4,a5,a6,a7,a8,a9,a10,a11,a12,a13,a14,a15,a16,a17,a18,a19,a20,a21]:=by rfl):Go1 P C ops (some d) (.build t parts) ty rest st acc K:=
 Go1.build hd hp h1 hf next
end
section
variable{P:Program}{C:Ctx}{st:St}{ops rest:List Oper}{acc:List (List Nat×List Nat)}{K:List (List Nat×List Nat)→St→Prop}{dst:Option Tmp}{ty t:TypeId}{x:Operand}{α:Type}
theorem G.ajb{tO tI:TypeId}{b size i j:Nat}{enc:α→List CA}{js:List Nat}{c:List (List α)}{r:List α}{a:α}{c1 c2:CA}[ht:fT P t 2][he:dO enc 2](next:Reg P C ops rest (st.app dst ⟨.agg [.c c1,.c c2],[]⟩) (([b],[])::acc) K)(hd:aB dst C.nt=true:=by rfl)(hx:st.ev x=some (.it (.one (.rel b (qF (j+1) (i*2))))):=by rfl)(hb:st.hp b= .ent (.abs (gI tO tI size enc js c)):=by rfl)(hj:c[j]? =some r:=by assumption)(ha:r[i]? =some a:=by assumption)(h4:enc a=[c1,c2]:=by rfl):Go1 P C ops dst (.load t x) ty rest st acc K:=
 Go1.agr (l:=[c1,c2]) hd hx hb hj ((ze (enc:=enc) (size:=2) ha).trans h4) rfl next
theorem Go1.asI{n:Nat}{cells l:List CA}[ht:fT P t n](hd:aB dst C.nt=true)(hx:st.ev x=some (.r (bJ cells)))(hl:cells.take n=l)(hn:l.length=n)
  (next:Reg P C ops rest (st.app dst ⟨.agg (l.map Atom.c),[]⟩) (([],[])::acc) K):Go1 P C ops dst (.load t x) ty rest st acc K:=
 Go1.dn [] [] (by simp) hd (by simp) (fun o ho _ st' E S a w hev hs _=>by
  obtain⟨h0,_⟩:=hs.ev ((hev x (by simp[ho,Op.operands])).trans hx)
  obtain⟨b,o',hv,h6⟩:=aap.1 h0;have h7:∀i c,l[i]? =some c→∃u,¬S b∧w.cell? ⟨b,o'+i,none⟩=some u∧c.has S w u:=fun i c hi=>by
   rw[←hl,List.getElem?_take]at hi
   split at hi
   ·exact h6 i c hi
   ·cases hi
  have hex:=ug (E:=E) l o' h7;obtain⟨us,hall,hus⟩:=hex;have hlen:=hall.length;have hrun:=run_loadCells_list (P:=P) w ⟨b,o',none⟩ us hus;have hsz:(P.info? t).map (·.size)=some us.length:=by rw[ht.s,←hn];simp at hlen;rw[hlen]
  refine⟨fun j hj=>?_,.agg us.toArray,?_,us,rfl,hall⟩
  ·simp only[AV.ids,AV0.ids,List.mem_flatMap]at hj;obtain⟨c,hc,hj⟩:=hj;obtain⟨c',_,rfl⟩:=List.mem_map.1 hc;cases hj
  ·unfold execOp;rw[ho];simp[hv,Instr.loadAt,Instr.sureAddr,loadVar,gP ht.h,run_sizeOf hsz,hrun]) next
theorem G.aie{c1 c2 c3:CA}{cells:List CA}[ht:fT P t 3](next:Reg P C ops rest (st.app dst ⟨.agg [.c c1,.c c2,.c c3],[]⟩) (([],[])::acc) K)(hd:aB dst C.nt=true:=by rfl)(hx:st.ev x=some (.r (bJ cells)):=by rfl)(hl:cells.take 3=[c1,c2,c3]:=by rfl):Go1 P C ops dst (.load t x) ty rest st acc K:=
 Go1.asI hd hx hl rfl next
end
structure HeldM(q:Prop):Prop where
 out:q
theorem goM{p q:Prop}(h:q)(k:HeldM q→p:=by
  intro h
  (first
   |(refine SX.Go1.is ?_;first
     |(refine SX.Go1.isLoad ?_;first|refine SX.G.acu ?_|refine SX.G.abG ?_|refine SX.G.wJ ?_|refine SX.G.wu ?_|refine SX.G.acw ?_|refine SX.G.wB ?_|refine SX.G.load5 ?_|refine SX.G.ao5 ?_|refine SX.G.ama ?_|refine SX.G.ajq ?_|refine SX.G.aiI ?_|refine SX.G.ahT ?_|refine SX.G.ajb ?_|refine SX.G.agr ?_|refine SX.G.loadOWA ?_|refine SX.G.loadOW2 ?_|refine SX.G.acv ?_|refine SX.G.vV ?_|refine SX.G.adE ?_|refine SX.G.aaP ?_)
     |(refine SX.Go1.aik ?_;first|refine SX.G.lss ?_|refine SX.G.eql ?_|refine SX.G.eqlNilT ?_|refine SX.G.eqlNilF ?_|refine SX.G.neq ?_|refine SX.G.gtr ?_|refine SX.G.geq ?_|refine SX.G.leq ?_|refine SX.G.addN ?_|refine SX.G.aio ?_|refine SX.G.subN ?_|refine SX.G.subNu ?_|refine SX.G.add ?_|refine SX.G.sub ?_|refine SX.G.mulN ?_|refine SX.G.ajN ?_|refine SX.G.mul ?_|refine SX.G.quoN ?_|refine SX.G.aif ?_|refine SX.G.quo ?_|refine SX.G.remN ?_|refine SX.G.ai4 ?_|refine SX.G.rem ?_|refine SX.G.eqlT ?_|refine SX.G.arS ?_|refine SX.G.arW ?_|refine SX.G.arM ?_|refine SX.G.neqT ?_|refine SX.G.al6 ?_|refine SX.G.ald ?_|refine SX.G.shr ?_|refine SX.G.shl ?_|refine SX.G.and ?_|refine SX.G.alm ?_)
     |(refine SX.Go1.isUn ?_;first|refine SX.G.not ?_|refine SX.G.neg ?_)
     |(refine SX.Go1.isField ?_;first|refine SX.G.fieldAddr ?_|refine SX.G.jT ?_)
     |(refine SX.Go1.zo ?_;first|refine SX.G.anT ?_|refine SX.G.ao8 ?_|refine SX.G.vX ?_|refine SX.G.xD ?_|refine SX.G.xI ?_|refine SX.G.build5 ?_|refine SX.G.ajp ?_|refine SX.G.ai2 ?_|refine SX.G.aiP ?_|refine SX.G.build ?_)
     |(refine SX.Go1.z8 ?_;first|refine SX.G.store ?_|refine SX.G.acP ?_|refine SX.G.ad9 ?_|refine SX.G.zh ?_|refine SX.G.zT ?_|refine SX.G.wQ ?_)
     |(refine SX.Go1.isIx ?_;first|refine SX.G.oQ ?_|refine SX.G.oo ?_|refine SX.G.jR ?_|refine SX.G.nX ?_|refine SX.G.jQ ?_|refine SX.G.indexAddrA ?_|refine SX.G.indexAddrG ?_)
     |(refine SX.Go1.uG ?_;first|refine SX.G.lit0Own ?_|refine SX.G.litH ?_|refine SX.G.adv ?_|refine SX.G.aiR ?_|refine SX.G.lit2 ?_|refine SX.G.lit3 ?_|refine SX.G.al5 ?_)
     |(refine SX.Go1.dH ?_;first|refine SX.G.minN ?_|refine SX.G.maxN ?_|refine SX.G.maxL ?_|refine SX.G.maxR ?_|refine SX.G.ak4 ?_|refine SX.G.lenN ?_|refine SX.G.lenT ?_|refine SX.G.anD ?_|refine SX.G.alE ?_|refine SX.G.yM ?_|refine SX.G.appendNilW ?_|refine SX.G.aj9 ?_|refine SX.G.sliceDataN ?_|refine SX.G.aa5 ?_|refine SX.G.unsafeStrN ?_|refine SX.G.zP ?_|refine SX.G.lenH ?_|refine SX.G.zl ?_|refine SX.G.as6 ?_|refine SX.G.as7 ?_|refine SX.G.ahY ?_|refine SX.G.yG ?_|refine SX.G.call ?_)
     |refine SX.G.move ?_|refine SX.G.assign ?_|refine SX.G.extract ?_|refine SX.G.boxN ?_|refine SX.G.box ?_|refine SX.G.zU ?_|refine SX.G.alloc ?_|refine SX.G.abZ ?_|refine SX.G.nilCheckR ?_|refine SX.G.mkfn ?_|refine SX.G.as3 ?_|refine SX.G.ase ?_|refine SX.G.asx ?_|refine SX.G.pick ?_|refine SX.R.aiT ?_|refine SX.R.aiq ?_|refine SX.G.pickB ?_|refine SX.G.pickV ?_|refine SX.G.ajH ?_|refine SX.G.aiC ?_|refine SX.G.makeC ?_|refine SX.G.ai7 ?_|refine SX.G.conv ?_|refine SX.G.adQ ?_|refine SX.G.alW ?_|refine SX.G.sliceH ?_|refine SX.G.tQ ?_|refine SX.G.sliceLoW ?_|refine SX.G.pU ?_|refine SX.G.sliceLoR ?_|refine SX.G.sliceHiO ?_|refine SX.G.vO ?_|refine SX.G.uE ?_|refine SX.G.sliceLHT ?_|refine SX.G.asl ?_|refine SX.G.aiX ?_|refine SX.G.ajA ?_|refine SX.G.lookM0 ?_|refine SX.G.putM ?_|refine SX.G.makeMap ?_|refine SX.G.aie ?_|refine SX.G.loadRT4 ?_|refine SX.G.loadRT2 ?_|refine SX.G.anM ?_|refine SX.G.adR ?_|refine SX.G.qd ?_|refine SX.G.pV ?_|refine SX.G.sliceLHS ?_|refine SX.G.abh ?_)
   |(refine SX.Reg.is ?_;first|refine SX.Reg.go ?_|refine SX.R.runT ?_|refine SX.R.runF ?_|refine SX.R.aj0 ?_|refine SX.R.ai6 ?_|refine SX.R.acD ?_|refine SX.Reg.nil ⟨by kernel_rfl,?_⟩|refine SX.Reg.nil ?_)
   |(refine SX.WP.is ?_;first|refine SX.WP.seq ?_|refine SX.WP.aiN (by rfl) ?_|refine SX.WP.afa (by rfl) (by kernel_rfl) ?_|refine SX.WP.block ?_|refine SX.WP.skip ?_|refine SX.WP.exit ?_|refine SX.WP.ret ?_|refine SX.WP.label ?_|refine SX.W.aji ?_|refine SX.W.aaX ?_)
   |refine SX.agi ?_|refine SX.amU ?_|refine SX.asn ?_|refine SX.an1 ?_|refine SX.am1 ?_|refine SX.ah7 ?_|refine SX.apx rfl ?_|refine SX.retR ?_|refine SX.retN ?_|refine SX.asb ?_|refine SX.ash ?_)
  repeat(first
   |(refine SX.Go1.is ?_;first
     |(refine SX.Go1.isLoad ?_;first|refine SX.G.acu ?_|refine SX.G.abG ?_|refine SX.G.wJ ?_|refine SX.G.wu ?_|refine SX.G.acw ?_|refine SX.G.wB ?_|refine SX.G.load5 ?_|refine SX.G.ao5 ?_|refine SX.G.ama ?_|refine SX.G.ajq ?_|refine SX.G.aiI ?_|refine SX.G.ahT ?_|refine SX.G.ajb ?_|refine SX.G.agr ?_|refine SX.G.loadOWA ?_|refine SX.G.loadOW2 ?_|refine SX.G.acv ?_|refine SX.G.vV ?_|refine SX.G.adE ?_|refine SX.G.aaP ?_)
     |(refine SX.Go1.aik ?_;first|refine SX.G.lss ?_|refine SX.G.eql ?_|refine SX.G.eqlNilT ?_|refine SX.G.eqlNilF ?_|refine SX.G.neq ?_|refine SX.G.gtr ?_|refine SX.G.geq ?_|refine SX.G.leq ?_|refine SX.G.addN ?_|refine SX.G.aio ?_|refine SX.G.subN ?_|refine SX.G.subNu ?_|refine SX.G.add ?_|refine SX.G.sub ?_|refine SX.G.mulN ?_|refine SX.G.ajN ?_|refine SX.G.mul ?_|refine SX.G.quoN ?_|refine SX.G.aif ?_|refine SX.G.quo ?_|refine SX.G.remN ?_|refine SX.G.ai4 ?_|refine SX.G.rem ?_|refine SX.G.eqlT ?_|refine SX.G.arS ?_|refine SX.G.arW ?_|refine SX.G.arM ?_|refine SX.G.neqT ?_|refine SX.G.al6 ?_|refine SX.G.ald ?_|refine SX.G.shr ?_|refine SX.G.shl ?_|refine SX.G.and ?_|refine SX.G.alm ?_)
     |(refine SX.Go1.isUn ?_;first|refine SX.G.not ?_|refine SX.G.neg ?_)
     |(refine SX.Go1.isField ?_;first|refine SX.G.fieldAddr ?_|refine SX.G.jT ?_)
     |(refine SX.Go1.zo ?_;first|refine SX.G.anT ?_|refine SX.G.ao8 ?_|refine SX.G.vX ?_|refine SX.G.xD ?_|refine SX.G.xI ?_|refine SX.G.build5 ?_|refine SX.G.ajp ?_|refine SX.G.ai2 ?_|refine SX.G.aiP ?_|refine SX.G.build ?_)
     |(refine SX.Go1.z8 ?_;first|refine SX.G.store ?_|refine SX.G.acP ?_|refine SX.G.ad9 ?_|refine SX.G.zh ?_|refine SX.G.zT ?_|refine SX.G.wQ ?_)
     |(refine SX.Go1.isIx ?_;first|refine SX.G.oQ ?_|refine SX.G.oo ?_|refine SX.G.jR ?_|refine SX.G.nX ?_|refine SX.G.jQ ?_|refine SX.G.indexAddrA ?_|refine SX.G.indexAddrG ?_)
     |(refine SX.Go1.uG ?_;first|refine SX.G.lit0Own ?_|refine SX.G.litH ?_|refine SX.G.adv ?_|refine SX.G.aiR ?_|refine SX.G.lit2 ?_|refine SX.G.lit3 ?_|refine SX.G.al5 ?_)
     |(refine SX.Go1.dH ?_;first|refine SX.G.minN ?_|refine SX.G.maxN ?_|refine SX.G.maxL ?_|refine SX.G.maxR ?_|refine SX.G.ak4 ?_|refine SX.G.lenN ?_|refine SX.G.lenT ?_|refine SX.G.anD ?_|refine SX.G.alE ?_|refine SX.G.yM ?_|refine SX.G.appendNilW ?_|refine SX.G.aj9 ?_|refine SX.G.sliceDataN ?_|refine SX.G.aa5 ?_|refine SX.G.unsafeStrN ?_|refine SX.G.zP ?_|refine SX.G.lenH ?_|refine SX.G.zl ?_|refine SX.G.as6 ?_|refine SX.G.as7 ?_|refine SX.G.ahY ?_|refine SX.G.yG ?_|refine SX.G.call ?_)
     |refine SX.G.move ?_|refine SX.G.assign ?_|refine SX.G.extract ?_|refine SX.G.boxN ?_|refine SX.G.box ?_|refine SX.G.zU ?_|refine SX.G.alloc ?_|refine SX.G.abZ ?_|refine SX.G.nilCheckR ?_|refine SX.G.mkfn ?_|refine SX.G.as3 ?_|refine SX.G.ase ?_|refine SX.G.asx ?_|refine SX.G.pick ?_|refine SX.R.aiT ?_|refine SX.R.aiq ?_|refine SX.G.pickB ?_|refine SX.G.pickV ?_|refine SX.G.ajH ?_|refine SX.G.aiC ?_|refine SX.G.makeC ?_|refine SX.G.ai7 ?_|refine SX.G.conv ?_|refine SX.G.adQ ?_|refine SX.G.alW ?_|refine SX.G.sliceH ?_|refine SX.G.tQ ?_|refine SX.G.sliceLoW ?_|refine SX.G.pU ?_|refine SX.G.sliceLoR ?_|refine SX.G.sliceHiO ?_|refine SX.G.vO ?_|refine SX.G.uE ?_|refine SX.G.sliceLHT ?_|refine SX.G.asl ?_|refine SX.G.aiX ?_|refine SX.G.ajA ?_|refine SX.G.lookM0 ?_|refine SX.G.putM ?_|refine SX.G.makeMap ?_|refine SX.G.aie ?_|refine SX.G.loadRT4 ?_|refine SX.G.loadRT2 ?_|refine SX.G.anM ?_|refine SX.G.adR ?_|refine SX.G.qd ?_|refine SX.G.pV ?_|refine SX.G.sliceLHS ?_|refine SX.G.abh ?_)
   |(refine SX.Reg.is ?_;first|refine SX.Reg.go ?_|refine SX.R.runT ?_|refine SX.R.runF ?_|refine SX.R.aj0 ?_|refine SX.R.ai6 ?_|refine SX.R.acD ?_|refine SX.Reg.nil ⟨by kernel_rfl,?_⟩|refine SX.Reg.nil ?_)
   |(refine SX.WP.is ?_;first|refine SX.WP.seq ?_|refine SX.WP.aiN (by rfl) ?_|refine SX.WP.afa (by rfl) (by kernel_rfl) ?_|refine SX.WP.block ?_|refine SX.WP.skip ?_|refine SX.WP.exit ?_|refine SX.WP.ret ?_|refine SX.WP.label ?_|refine SX.W.aji ?_|refine SX.W.aaX ?_)
   |refine SX.agi ?_|refine SX.amU ?_|refine SX.asn ?_|refine SX.an1 ?_|refine SX.am1 ?_|refine SX.ah7 ?_|refine SX.apx rfl ?_|refine SX.retR ?_|refine SX.retN ?_|refine SX.asb ?_|refine SX.ash ?_)
  exact h.out):p:=k ⟨h⟩
end
section
def B3(C:Ctx):Prop:=∀k,C.B k→k=C.E0.blk 81∨C.E0.sl 82= .map (some k)∨(C.E0.sl 84).ownBlock=some k
abbrev uO(t:TypeId)(cs:List Atom)(l:List (List UInt8×List CA))(t2:TypeId)(size n:Nat)(cells:List CA):List (Nat×Ent):=[(81,.box t cs),(82,.abs (gT l)),(84,.row t2 size n cells)]
theorem aj.fnM{P:Program}{f:FuncId}{fn:Func}{c:Code}{args:List AV}{t:TypeId}{cs:List Atom}{l:List (List UInt8×List CA)}{t2:TypeId}{size n:Nat}{cells:List CA}{out:Out}{nt:Nat}{rs:List ResultVar}(hf:P.funcs[f]? =some fn)(hres:fn.results=rs.toArray)(hnt:fn.ntmps=nt)(hb:fn.body=some c)(hn:(fn.name== "runtime.NumGoroutine")=false)(hna:Nat.ble args.length nt=true)
  (p3:(args.all fun v=>v.ids.all (iV [81,82,84]))=true) (p4:(cs.all fun a=>a.ids.all (iV [81,82,84]))=true) (p5:([81,82,84].all (iV (out.hp.map (·.1))))=true)
  (p6:((out.res.ids++out.hp.flatMap fun p=>p.2.ids).all fun i=>iV [81,82,84] i||iV (out.hp.map (·.1)) i)=true)
  (h:∀(w0:World) (T B:Nat→Prop) (E0:Env),B3 ⟨w0,T,B,nt,E0,fun b=>(lk (uO t cs l t2 size n cells) b).isSome⟩→WP P ⟨w0,T,B,nt,E0,fun b=>(lk (uO t cs l t2 size n cells) b).isSome⟩ c ⟨fun t=>args[t]?,fun b=>match lk (uO t cs l t2 size n cells) b with|some e=> .ent e|none=> .free⟩ (bO ⟨w0,T,B,nt,E0,fun b=>(lk (uO t cs l t2 size n cells) b).isSome⟩ P rs out)):aj P f args (uO t cs l t2 size n cells) out:=by
 have e0:(uO t cs l t2 size n cells).map (·.1)=[81,82,84]:=rfl;have p1:nodupB ((uO t cs l t2 size n cells).map (·.1))=true:=rfl;have e1:(fun b=>((uO t cs l t2 size n cells).lookup b).isSome)=fun b=>(lk (uO t cs l t2 size n cells) b).isSome:=funext fun b=>by rw[eZ]
 have e2:iR args (uO t cs l t2 size n cells)=⟨fun t=>args[t]?,fun b=>match lk (uO t cs l t2 size n cells) b with|some e=> .ent e|none=> .free⟩:=by
  unfold iR
  congr 1
  funext b
  rw[eZ];cases lk (uO t cs l t2 size n cells) b <;> rfl
 have key:∀i,iV [81,82,84] i=true→((uO t cs l t2 size n cells).lookup i).isSome=true:=fun i hi=>by rw[eZ];exact lZ (dZ.1 hi)
 have hm3:∀b e,(b,e)∈uO t cs l t2 size n cells→(b=81∧e= .box t cs)∨(b=82∧e= .abs (gT l))∨(b=84∧e= .row t2 size n cells):=fun b e hb=>by simpa using hb
 refine aj.fnH hf hres hnt hb hn hna (fun b e hb=>by rw[eZ];exact adi p1 hb) (fun v hv i hi=>key i (List.all_eq_true.1 (List.all_eq_true.1 p3 v hv) i hi)) (fun b e hb i hi=>?_) (fun b e hb=>?_) (fun i hi=>?_) (fun w0 T B E0 hB hH=>?_)
 ·rcases hm3 b e hb with⟨rfl,rfl⟩|⟨rfl,rfl⟩|⟨rfl,rfl⟩
  ·obtain⟨a,ha,hi⟩:=List.mem_flatMap.1 (show i∈cs.flatMap Atom.ids from hi)
   exact key i (List.all_eq_true.1 (List.all_eq_true.1 p4 a ha) i hi)
  ·cases hi
  ·cases hi
 ·have hmem:b∈[81,82,84]:=by rw[←e0];exact List.mem_map.2 ⟨(b,e),hb,rfl⟩
  obtain⟨⟨b',s⟩,hs,rfl⟩:=List.mem_map.1 (dZ.1 (List.all_eq_true.1 p5 b hmem));exact⟨s,hs⟩
 ·have hi':i∈out.res.ids++out.hp.flatMap fun p=>p.2.ids:=by
   rw[List.mem_append];rcases hi with hi|⟨b,e,hb,hi⟩
   ·exact .inl hi
   ·exact .inr (List.mem_flatMap.2 ⟨(b,.ent e),hb,hi⟩)
  have:=List.all_eq_true.1 p6 i hi';rw[Bool.or_eq_true]at this;rcases this with h|h
  ·exact .inl (key i h)
  ·obtain⟨⟨b',s⟩,hs,rfl⟩:=List.mem_map.1 (dZ.1 h);exact .inr ⟨s,hs⟩
 ·rw[e1,e2];refine WP.bO (h w0 T B E0 fun k hk=>?_)
  obtain⟨b,e,hb,hk⟩:=hB k hk;obtain⟨S,w,hh⟩:=hH b e hb;rcases hm3 b e hb with⟨rfl,rfl⟩|⟨rfl,rfl⟩|⟨rfl,rfl⟩
  ·exact .inl (Option.some.inj hk).symm
  ·obtain⟨r,es,clock,h1,h2,_⟩:=hh;exact .inr (.inl (by
    show E0.sl 82=_;rw[h1,(h2 k).1 hk]))
  ·exact .inr (.inr hk)
theorem St.aiU{C:Ctx}{st:St}{b size n:Nat}{t:TypeId}{cells:List CA}{t1:TypeId}{cs:List Atom}{l:List (List UInt8×List CA)}{t2:TypeId}{size2 n2:Nat}{cells2:List CA}(hB:B3 C)(h81:st.hp 81= .ent (.box t1 cs))(h82:st.hp 82= .ent (.abs (gT l)))(h84:st.hp 84= .ent (.row t2 size2 n2 cells2))
  (f1:C.fix 81=true) (f2:C.fix 82=true) (f3:C.fix 84=true) (hne:(Nat.beq b 81||Nat.beq b 82||Nat.beq b 84)=false) (hb:st.hp b= .ent (.row t size n cells)):St.le C st (st.frz b size n cells):=
 St.ad3 (fun E S a w hs k hk=>((hs.blk b _ k hb hk).2).elim (fun hk'=>by
  have n1:b≠81:=fun e=>by subst e;simp at hne
  have n2:b≠82:=fun e=>by subst e;simp at hne
  have n3:b≠84:=fun e=>by subst e;simp at hne
  rcases hB k hk' with h|h|h
  ·refine absurd ?_ (hs.sep b 81 _ _ _ n1 hb h81 hk);show some (E.blk 81)=some k;rw[(hs.env 81 f1).1,h]
  ·refine absurd ?_ (hs.sep b 82 _ _ _ n2 hb h82 hk);obtain⟨r,es,clock,g1,g2,_⟩:=hs.hp 82 _ h82;rw[(hs.env 82 f2).2.1,h]at g1;show E.fp 82 k;rw[g2]
   injection g1 with g1
   exact Option.some.inj g1
  ·refine absurd ?_ (hs.sep b 84 _ _ _ n3 hb h84 hk);show (E.sl 84).ownBlock=some k;rw[(hs.env 84 f3).2.1,h]) id) hb
theorem WP.ahV{P:Program}{C:Ctx}{st:St}{Q:Exit→St→Prop}{c:Code}{t:TypeId}(b:Nat){size n:Nat}{cells:List CA}{t1:TypeId}{cs:List Atom}{l:List (List UInt8×List CA)}{t2:TypeId}{size2 n2:Nat}{cells2:List CA}(hB:B3 C)(hb:st.hp b= .ent (.row t size n cells))(h81:st.hp 81= .ent (.box t1 cs))(h82:st.hp 82= .ent (.abs (gT l)))(h84:st.hp 84= .ent (.row t2 size2 n2 cells2))
  (h:WP P C c (st.frz b size n cells) Q) (f1:C.fix 81=true:=by rfl) (f2:C.fix 82=true:=by rfl) (f3:C.fix 84=true:=by rfl) (hne:(Nat.beq b 81||Nat.beq b 82||Nat.beq b 84)=false:=by rfl):WP P C c st Q:=
 WP.weaken (St.aiU hB h81 h82 h84 f1 f2 f3 hne hb) h
theorem aQ.frzM{P:Program}{C:Ctx}{st:St}{rs:List ResultVar}{out:Out}{t:TypeId}(b:Nat){size n:Nat}{cells:List CA}{t1:TypeId}{cs:List Atom}{l:List (List UInt8×List CA)}{t2:TypeId}{size2 n2:Nat}{cells2:List CA}(hB:B3 C)(hb:st.hp b= .ent (.row t size n cells))(h81:st.hp 81= .ent (.box t1 cs))(h82:st.hp 82= .ent (.abs (gT l)))(h84:st.hp 84= .ent (.row t2 size2 n2 cells2))
  (h:aQ C P rs out (st.frz b size n cells)) (f1:C.fix 81=true:=by rfl) (f2:C.fix 82=true:=by rfl) (f3:C.fix 84=true:=by rfl) (hne:(Nat.beq b 81||Nat.beq b 82||Nat.beq b 84)=false:=by rfl):aQ C P rs out st:=by
 obtain⟨s',hl,hr⟩:=h;exact⟨s',fun a w hs=>hl a w (St.aiU hB h81 h82 h84 f1 f2 f3 hne hb a w hs),hr⟩
theorem aj.bun{P:Program}{f:FuncId}{args:List AV}{r:AV}{b:Nat}{t:TypeId}{cells cells':List Atom}{R R':List (Nat×Ent)}(h:aj P f args ((b,.box t cells)::R) ⟨r,(b,.ent (.box t cells'))::R'.map fun q=>(q.1,.ent q.2)⟩)
  (hargs:∀v∈args,∀i∈v.ids,i=b) (hr:r.ids=[]) (hbn:∀e,(b,e)∉R'):
  aj P f args [(b,.abs (kP b (fun _:Unit=>True) t (fun _=>cells) (fun _=>R)))] ⟨r,[(b,.ent (.abs (kP b (fun _:Unit=>True) t (fun _=>cells') (fun _=>R'))))]⟩:=by
 obtain⟨h0,h⟩:=h;refine⟨h0,fun E S w vs hl hgl hall hpre hblk hsep=>?_⟩
 obtain⟨p,Ep,⟨hs1,hs2⟩,hB⟩:∃(p:Unit) (Ep:Env),(Ep.blk b=E.blk b∧Ep.sl b=E.sl b)∧aaw (fun _:Unit=>True) t (fun _=>cells) (fun _=>R) (E.blk b) (E.fp b) S w p Ep:=hpre b _ (List.mem_singleton.2 rfl)
 have hX:∀k,E.fp b k→S k:=fun k hk=>hblk b _ k (List.mem_singleton.2 rfl) hk
 have hmem:∀i e,(i,e)∈(b,Ent.box t cells)::R→(i=b∧e= .box t cells)∨(i,e)∈R:=fun i e hi=>by
  rcases List.mem_cons.1 hi with hi|hi
  ·cases hi;exact .inl ⟨rfl,rfl⟩
  ·exact .inr hi
 have hfp:∀i e k,(i,e)∈(b,Ent.box t cells)::R→e.at Ep i k→E.fp b k:=fun i e k hi hk=>by
  rcases hmem i e hi with⟨rfl,rfl⟩|hi
  ·have hk':some (Ep.blk i)=some k:=hk;rw[hs1]at hk';exact(hB.X k).2 (.inl (Option.some.inj hk').symm)
  ·exact(hB.X k).2 (.inr ⟨i,e,hi,hk⟩)
 have hv:aK (AV.has Ep S w) args vs:=hall.mono fun a v ha hav=>hav.step (fun i hi=>by rw[hargs a ha i hi];exact⟨hs1,hs2⟩) (Off.refl S w) (fun k hk=> .inl hk)
 refine(h Ep S w vs hl hgl hv (fun i e hi=>?_) (fun i e k hi hk=>hX k (hfp i e k hi hk)) (fun i i' e e' k hne hi hi' hk hk'=>?_)).mono fun e w' ⟨v,E2,S2,he,hE⟩=>?_
 ·rcases hmem i e hi with⟨rfl,rfl⟩|hi
  ·obtain⟨cs,g1,g2⟩:=hB.box;exact⟨cs,by rw[hs1];exact g1,g2⟩
  ·exact hB.ents i e hi
 ·rcases hmem i e hi with⟨e1,rfl⟩|hm
  ·rcases hmem i' e' hi' with⟨e2,rfl⟩|hm'
   ·exact hne (e1.trans e2.symm)
   ·have hk1:some (Ep.blk i)=some k:=hk;rw[e1,hs1]at hk1;exact hB.sepb i' e' hm' ((Option.some.inj hk1)▸hk')
  ·rcases hmem i' e' hi' with⟨e2,rfl⟩|hm'
   ·have hk1:some (Ep.blk i')=some k:=hk';rw[e2,hs1]at hk1;exact hB.sepb i e hm ((Option.some.inj hk1)▸hk)
   ·exact hB.sep i i' e e' k hne hm hm' hk hk'
 ·have hb2:Ep.at' E2 b:=hE.env b fun _=>⟨_,List.mem_cons_self⟩
  have hq:∀i e,(i,e)∈R'→(i,Slot.ent e)∈(b,Slot.ent (.box t cells'))::R'.map fun q=>(q.1,Slot.ent q.2):=fun i e hi=>List.mem_cons_of_mem _ (List.mem_map.2 ⟨(i,e),hi,rfl⟩)
  have hbb:some (E2.blk b)=some (E.blk b):=by rw[hb2.1,hs1]
  have hfp2:∀k,(∃i e,(i,e)∈(b,Ent.box t cells)::R∧e.at Ep i k)→∃i e,(i,e)∈[(b,Ent.abs (kP b (fun _:Unit=>True) t (fun _=>cells) (fun _=>R)))]∧e.at E i k:=fun k ⟨i,e,hi,hk⟩=>⟨b,_,List.mem_singleton.2 rfl,hfp i e k hi hk⟩
  have hX':∀k,(k=E.blk b∨∃i e,(i,e)∈R'∧e.at E2 i k)→S2 k∧((∃i e,(i,e)∈[(b,Ent.abs (kP b (fun _:Unit=>True) t (fun _=>cells) (fun _=>R)))]∧e.at E i k)∨w.heap.size≤k):=fun k hk=>by
   rcases hk with rfl|⟨i,e,hi,hk⟩
   ·have:=hE.blk b _ (E.blk b) List.mem_cons_self hbb;exact⟨this.1,this.2.imp (hfp2 _) id⟩
   ·have:=hE.blk i e k (hq i e hi) hk;exact⟨this.1,this.2.imp (hfp2 _) id⟩
  have hone:∀i e',(i,Slot.ent e')∈[(b,Slot.ent (Ent.abs (kP b (fun _:Unit=>True) t (fun _=>cells') (fun _=>R'))))]→i=b∧e'= .abs (kP b (fun _:Unit=>True) t (fun _=>cells') (fun _=>R')):=fun i e' hi=>by simpa using hi
  refine⟨v,⟨E.blk,E.sl,upd E.fp b fun k=>k=E.blk b∨∃i e,(i,e)∈R'∧e.at E2 i k⟩,S2,he,
   {env:=fun i _=>⟨rfl,rfl⟩,fpe:=fun i hi=>upd_ne _ _ fun e=>hi (.ent (.abs (kP b (fun _:Unit=>True) t (fun _=>cells') (fun _=>R')))) (by simp[e]),sub:=hE.sub,new:=hE.new,lt:=hE.lt,off:=hE.off.mono hfp2,
    res:=hE.res.step (fun i hi=>by rw[hr]at hi;cases hi) (Off.refl _ _) (fun k hk=> .inl hk),ents:=fun i e' hi=>?_,blk:=fun i e' k hi hk=>?_,sep:=fun i i' e1 e2 k hne h1 h2=>?_}⟩
  ·obtain⟨rfl,rfl⟩:=hone i e' hi;show (kP i (fun _:Unit=>True) t (fun _=>cells') (fun _=>R')).has (E.blk i) (E.sl i) (upd E.fp i _ i) S2 w'
   rw[upd_same];obtain⟨cs,g1,g2⟩:=hE.ents i _ List.mem_cons_self;refine⟨(),E2,⟨hb2.1.trans hs1,hb2.2.trans hs2⟩,{φ:=trivial,box:=⟨cs,by rw[←Option.some.inj hbb];exact g1,g2⟩,ents:=fun j e hj=>hE.ents j e (hq j e hj),sep:=fun j j' e e' k hne hj hj'=>hE.sep j j' e e' k hne (hq j e hj) (hq j' e' hj'),sepb:=fun j e hj hk=>?_,X:=fun k=>Iff.rfl}⟩
   by_cases hji:j=i
   ·subst hji;exact hbn e hj
   ·exact hE.sep i j _ e (E.blk i) (fun e=>hji e.symm) List.mem_cons_self (hq j e hj) hbb hk
  ·obtain⟨rfl,rfl⟩:=hone i e' hi;have hk':upd E.fp i _ i k:=hk;rw[upd_same]at hk';exact hX' k hk'
  ·obtain⟨rfl,_⟩:=hone _ _ h1;obtain⟨rfl,_⟩:=hone _ _ h2;exact absurd rfl hne
def ams:AV0→AV0
 | .one (.clo f [])=> .one (.c (.val (.func (.func f) #[] #[])))
 |x=>x
theorem aol{E:Env}{S:Nat→Prop}{w:World}{x:AV0}{v:Value}(h:x.has E S w v):(ams x).has E S w v:=by
 unfold ams
 split
 ·exact h
 ·exact h
theorem afz{E:Env}{S:Nat→Prop}{w:World}:∀{l:List (Nat×AV0)} {us:List (Nat×Value)},aK (fun p q=>p.1=q.1∧p.2.has E S w q.2) l us→aK (fun p q=>p.1=q.1∧p.2.has E S w q.2) (l.map fun p=>(p.1,ams p.2)) us
 |[],[],_=>trivial
 |_::_,_::_,h=>⟨⟨h.1.1,aol h.1.2⟩,afz h.2⟩
 |[],_::_,h=>h.elim
 |_::_,[],h=>h.elim
section
variable{P:Program}{C:Ctx}{st:St}
variable{ops rest:List Oper}{acc:List (List Nat×List Nat)}{K:List (List Nat×List Nat)→St→Prop}{dst:Option Tmp}{d:Tmp}{ty t:TypeId}
theorem ahs{o:Oper}{st':St}{E:Env}{S:Nat→Prop}{a:Act}{w:World}{e:TypeId}{n size bytes:Nat}{zs:List Value}{parts:Array (Nat×Operand)}{ps:List (Nat×AV0)}{l:List Atom}{m:List CA}[ht:bg P t e size][he:eB P e zs bytes]
  (hs:lU C st' E S a w) (h3:o.op= .buildSlice t n parts) {ps0:List (Nat×AV0)} (hp':evp st' parts.toList=some ps0) (hps:ps0.map (fun p=>(p.1,ams p.2))=ps) (h1:(ps.all fun p=>p.2.cells.all Atom.dK&&Nat.blt p.1 n)=true) (hn:Nat.ble (n*size) 16777216=true)
  (hfl:eH (placesOf n size) ((madeCells zs.toArray (n*size)).toList.map fun v=>Atom.c (.val v)) ps=some l) (hc:aR l=some m) (hm:Nat.beq m.length (n*size)=true):
  ∃us:List Value,(execOp a.eval o).run P w= .ok (.value (.slice (some ⟨w.heap.size,0,none⟩) n n)) (w.alloc (.cells us.toArray e))∧us.length=n*size∧aK (CA.has S w) m us∧n≤maxLen:=by
  obtain⟨hall0,hids⟩:=vC hs hp';have hall:=afz hall0;rw[hps]at hall;obtain⟨i,z,hi,hz,hcz,hsz,hby⟩:=nK he ht.s;rw[List.all_eq_true]at h1;rw[Nat.ble_eq]at hn;obtain⟨us,hfill,hus⟩:=qp (w:=w) (cs:=(madeCells zs.toArray (n*size)).toList) hall (fun p hp=>by have:=h1 p hp;simp only[Bool.and_eq_true]at this;exact this.1) (jI _) hfl
  have hlen:us.length=n*size:=by
   have h6:=hus.length;rw[dF hc]at h6;simp at h6
   have:=Nat.eq_of_beq_eq_true hm;omega
  have hqi:∀q∈parts.toList.map (fun x=>(x.1,a.eval x.2)),(fun i=>(placesOf n size)[i]?) q.1=(fun i=>some (i*size,size)) q.1:=by
   intro q hq;obtain⟨j,hj⟩:=List.mem_iff_getElem?.1 hq;obtain⟨p,hpj,hpq,_⟩:=hall.get' hj;have:=h1 p (zq4 hpj);simp only[Bool.and_eq_true,Nat.blt_eq]at this;have hlt:q.1 < n:=by rw[←hpq];exact this.2
   simp[placesOf,hlt]
  rw[oC (p:=fun i=>(placesOf n size)[i]?) (p':=fun i=>some (i*size,size)) _ _ hqi]at hfill
  refine⟨us,?_,hlen,iw (by rw[←dF hc];exact hus),?_⟩
  ·unfold execOp;rw[h3];have hparts:(parts.map fun x=>(x.1,a.eval x.2)).toList=parts.toList.map fun x=>(x.1,a.eval x.2):=by simp
   have hgt:¬n*size > 2 ^ 24:=by omega
   simp only[Instr.buildSlice,Sem.run_bind,run_underlying ht.h,Result.andThen_ok,run_sizeOf ht.s,hparts];rw[if_neg hgt];by_cases h0:n*size=0
   ·have he0:(madeCells zs.toArray (n*size)).toList.toArray=(Array.range (n*size)).map ((#[]:Array Value)[· % (#[]:Array Value).size]!):=by rw[h0];simp[madeCells]
    rw[he0]at hfill;rw[if_pos h0];simp only[Sem.run_bind,Sem.run_pure,Result.andThen_ok];rw[hfill];simp[newRow]
   ·have he0:(madeCells zs.toArray (n*size)).toList.toArray=(Array.range (n*size)).map (zs.toArray[· % zs.toArray.size]!):=by rw[Array.toArray_toList];rfl
    rw[he0]at hfill;rw[if_neg h0];simp only[Sem.run_bind,Sem.run_pure,Result.andThen_ok,zeroValue,typeInfo,run_program,hi,hz,hcz];rw[hfill];simp[newRow]
  ·by_cases h0:n=0
   ·subst h0;simp[maxLen]
   ·have:=ht.p;have h7:n*1≤n*size:=Nat.mul_le_mul_left _ this;simp only[maxLen];omega
theorem Go1.af6{dst:Option Tmp}{e:TypeId}{n size bytes:Nat}{zs:List Value}{parts:Array (Nat×Operand)}{ps:List (Nat×AV0)}{l:List Atom}{m:List CA}[ht:bg P t e size][he:eB P e zs bytes](hd:aB dst C.nt=true)
  {ps0:List (Nat×AV0)} (hp:evp st parts.toList=some ps0) (hps:ps0.map (fun p=>(p.1,ams p.2))=ps) (h1:(ps.all fun p=>p.2.cells.all Atom.dK&&Nat.blt p.1 n)=true) (hn:Nat.ble (n*size) 16777216=true)
  (hfl:eH (placesOf n size) ((madeCells zs.toArray (n*size)).toList.map fun v=>Atom.c (.val v)) ps=some l) (hc:aR l=some m) (hm:Nat.beq m.length (n*size)=true)
  (next:Reg P C ops rest (st.app dst ⟨.r (aM size n m),[]⟩) (([],[])::acc) K):Go1 P C ops dst (.buildSlice t n parts) ty rest st acc K:=by
 refine⟨[],⟨.r (aM size n m),[]⟩,fun o h2 h3 h4=>aX.eff [] [] (fun b hb=>?_) (h2▸dI hd) (fun b e hb=>by cases hb) (fun b e hb=>by cases hb) (fun b s hb=>by cases hb) (fun b s hb=>by cases hb) (fun st' E S a w hev hhp hs _ _=>?_),next⟩
 ·rcases hb with⟨e,hb⟩|⟨e,hb⟩|⟨s,hb⟩ <;> cases hb
 ·have hp':evp st' parts.toList=some ps0:=by
   rw[lF (fun x hx=>hev x.2 (by rw[h3];simp[Op.operands];exact⟨x.1,by simpa using hx⟩))];exact hp
  obtain⟨us,hrun,hlen,hall,hmx⟩:=ahs (ht:=ht) (he:=he) hs h3 hp' hps h1 hn hfl hc hm;refine⟨⟨fun i hi=>(by cases hi),fun b e hb=>by cases hb⟩,fun K Q hK=>?_⟩
  unfold Oper.wp;rw[hrun];refine hK _ _ E S {env:=fun _ _=>⟨rfl,rfl⟩,fpe:=fun _ _=>rfl,sub:=fun _ h=>h,new:=fun _ h=> .inl h,lt:=fun k hk=>Nat.lt_of_lt_of_le (hs.lt k hk) (by simp),off:=Off.alloc _ _ _,res:=?_,ents:=fun _ _ h=>(by cases h),blk:=fun _ _ _ h=>(by cases h),sep:=fun _ _ _ _ _ _ h=>(by cases h)}
  refine bG.2 ⟨_,_,rfl,Nat.le_refl _,hmx,(fun h=>by cases h),(by rw[hall.length,hlen]),fun i c hc=>?_⟩
  obtain⟨u,hu,huc⟩:=hall.get hc;refine⟨w.heap.size,0,u,rfl,fun hS=>absurd (hs.lt _ hS) (Nat.lt_irrefl _),?_,huc.step (Off.alloc _ _ _) (fun k hk=> .inl hk)⟩
  have hcell:=cells_of_block (heap_alloc_new w (.cells us.toArray e)) 0 i u (by simpa using hu)
  simpa[Addr.add_lit]using hcell
end
end
end
section
open Go Go.RowKit Go.ChangeShapes Go.WideShapes Go.ChangeAt Go.Joins
section
variable{H:Type}{enc:TypeId×Value→H}{P:Program}{W:World}{base:Nat}{sp:Nat→Bool}{hd:Bool}
theorem afB{n:Nat}{α0 α1 α2 α3 α4 α5 α6 α7:Type}{t:TypeId}{f0 f1 f2 f3 f4 f5 f6 f7:Go.Field}{e0:α0→List CA}{e1:α1→List CA}{e2:α2→List CA}{e3:α3→List CA}{e4:α4→List CA}{e5:α5→List CA}{e6:α6→List CA}{e7:α7→List CA}{φ0:α0→Prop}{φ1:α1→Prop}{φ2:α2→Prop}{φ3:α3→Prop}{φ4:α4→Prop}{φ5:α5→Prop}{φ6:α6→Prop}{φ7:α7→Prop}(ht:P.underlying t=some (.struct #[f0,f1,f2,f3,f4,f5,f6,f7]))
  (o0:f0.offset=0) (o1:f1.offset=P.cellsOf f0.type) (o2:f2.offset=P.cellsOf f0.type+P.cellsOf f1.type) (o3:f3.offset=P.cellsOf f0.type+P.cellsOf f1.type+P.cellsOf f2.type) (o4:f4.offset=P.cellsOf f0.type+P.cellsOf f1.type+P.cellsOf f2.type+P.cellsOf f3.type) (o5:f5.offset=P.cellsOf f0.type+P.cellsOf f1.type+P.cellsOf f2.type+P.cellsOf f3.type+P.cellsOf f4.type) (o6:f6.offset=P.cellsOf f0.type+P.cellsOf f1.type+P.cellsOf f2.type+P.cellsOf f3.type+P.cellsOf f4.type+P.cellsOf f5.type) (o7:f7.offset=P.cellsOf f0.type+P.cellsOf f1.type+P.cellsOf f2.type+P.cellsOf f3.type+P.cellsOf f4.type+P.cellsOf f5.type+P.cellsOf f6.type) (hs:P.cellsOf t=P.cellsOf f0.type+P.cellsOf f1.type+P.cellsOf f2.type+P.cellsOf f3.type+P.cellsOf f4.type+P.cellsOf f5.type+P.cellsOf f6.type+P.cellsOf f7.type)
  (h0:dA enc P W base sp hd n f0.type e0 φ0) (h1:dA enc P W base sp hd n f1.type e1 φ1) (h2:dA enc P W base sp hd n f2.type e2 φ2) (h3:dA enc P W base sp hd n f3.type e3 φ3) (h4:dA enc P W base sp hd n f4.type e4 φ4) (h5:dA enc P W base sp hd n f5.type e5 φ5) (h6:dA enc P W base sp hd n f6.type e6 φ6) (h7:dA enc P W base sp hd n f7.type e7 φ7):
  dA enc P W base sp hd (n+1) t (fun p:α0×α1×α2×α3×α4×α5×α6×α7=>e0 (p.1)++(e1 (p.2.1)++(e2 (p.2.2.1)++(e3 (p.2.2.2.1)++(e4 (p.2.2.2.2.1)++(e5 (p.2.2.2.2.2.1)++(e6 (p.2.2.2.2.2.2.1)++(e7 (p.2.2.2.2.2.2.2))))))))) (fun p=>φ0 (p.1)∧φ1 (p.2.1)∧φ2 (p.2.2.1)∧φ3 (p.2.2.2.1)∧φ4 (p.2.2.2.2.1)∧φ5 (p.2.2.2.2.2.1)∧φ6 (p.2.2.2.2.2.2.1)∧φ7 (p.2.2.2.2.2.2.2)):=fun cs x hx=>by
 obtain⟨xs,m,hm,_,hl,hlen,hf⟩:=DataW.trod_struct ht hx;cases hm
 match xs,hlen with
 |[y0,y1,y2,y3,y4,y5,y6,y7],_=>
  have g0:=hf 0 f0 rfl;have g1:=hf 1 f1 rfl;have g2:=hf 2 f2 rfl;have g3:=hf 3 f3 rfl;have g4:=hf 4 f4 rfl;have g5:=hf 5 f5 rfl;have g6:=hf 6 f6 rfl;have g7:=hf 7 f7 rfl;rw[o0,List.drop_zero]at g0;rw[o1]at g1;rw[o2]at g2;rw[o3]at g3;rw[o4]at g4;rw[o5]at g5;rw[o6]at g6;rw[o7]at g7;obtain⟨a0,w0,h0⟩:=h0 _ _ g0;obtain⟨a1,w1,h1⟩:=h1 _ _ g1;obtain⟨a2,w2,h2⟩:=h2 _ _ g2;obtain⟨a3,w3,h3⟩:=h3 _ _ g3;obtain⟨a4,w4,h4⟩:=h4 _ _ g4;obtain⟨a5,w5,h5⟩:=h5 _ _ g5;obtain⟨a6,w6,h6⟩:=h6 _ _ g6;obtain⟨a7,w7,h7⟩:=h7 _ _ g7;rw[List.take_of_length_le (by rw[List.length_drop];omega)]at h7
  exact⟨(a0,a1,a2,a3,a4,a5,a6,a7),⟨w0,w1,w2,w3,w4,w5,w6,w7⟩,(aK.cut _ h0 (aK.cut _ (by simp only[List.drop_drop,Nat.add_assoc]at h1 ⊢;exact h1) (aK.cut _ (by simp only[List.drop_drop,Nat.add_assoc]at h2 ⊢;exact h2) (aK.cut _ (by simp only[List.drop_drop,Nat.add_assoc]at h3 ⊢;exact h3) (aK.cut _ (by simp only[List.drop_drop,Nat.add_assoc]at h4 ⊢;exact h4) (aK.cut _ (by simp only[List.drop_drop,Nat.add_assoc]at h5 ⊢;exact h5) (aK.cut _ (by simp only[List.drop_drop,Nat.add_assoc]at h6 ⊢;exact h6) (by simp only[List.drop_drop,Nat.add_assoc]at h7 ⊢;exact h7))))))))⟩
end
end
end SX