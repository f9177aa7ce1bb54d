import Derived.Test.YtcamgbgfelmbaaaGreatDoorO2
import Derived.Lib.SliceRun
import Derived.MapKept
import Derived.Test.YtcamgbgfelmbaaaGreatDoorO23
set_option linter.all false
namespace SX
variable{a1 a10 a11 a12 a13 a14 a15 a16 a17 a2 a3 a4 a5 a6 a7 a8 a9:SX.Atom}{c1 c2 c3:SX.CA}{C:SX.Ctx}{E:SX.Env}{f:Go.FuncId}{ao:List SX.AV}{cs l:List SX.Atom}{ag c cells2:List SX.CA}{s:List UInt8}{zs:List Go.Value}{b bytes n2 off size size2:Nat}{S:Nat->Prop}{P:Go.Program}{st:SX.St}{T T' e t t1 t2:Go.TypeId}{v:Go.Value}{w w':Go.World}
section
open Go Go.RowKit
section
section
variable{P:Program}{C:Ctx}{st:St}
variable{ae aa:List Oper}{ab:List (List Nat×List Nat)}{K:List (List Nat×List Nat)->St->Prop}{an:Option Tmp}{d:Tmp}{op:Op}{ty t t':TypeId}{x y z:Operand}
def G.aqG{ag:List Atom}[ht:gZ P t 15](ai:Reg P C ae aa (st.app (some d) ⟨.agg [a1,a2,a3,a4,a5,a6,a7,a8,a9,a10,a11,a12,a13,a14,a15],[]⟩) (([b],[])::ab) K)(hd:aC (some d) C.nt=true:=by rfl)(hx:st.ev x=some (.ptr b off):=by rfl)(hb:st.hp b= .ent (.box T ag):=by rfl)(hr:(ag.drop off).take 15=[a1,a2,a3,a4,a5,a6,a7,a8,a9,a10,a11,a12,a13,a14,a15]:=by rfl):Go1 P C ae (some d) (.load t x) ty aa st ab K:=
 Go1.sJ hd hx hb (by have:=congrArg List.length hr;simp at this;rw[zva];omega) hr ai
def G.alO{c4 c5 c6 c7 c8 c9 c10 c11 c12 c13 c14 c15:CA}[ht:gZ P t 15](ai:Reg P C ae aa (st.app an ⟨.agg [.c c1,.c c2,.c c3,.c c4,.c c5,.c c6,.c c7,.c c8,.c c9,.c c10,.c c11,.c c12,.c c13,.c c14,.c c15],[]⟩) (([],[])::ab) K)(hd:aC an C.nt=true:=by rfl)(hx:st.ev x=some (.r (dL ag)):=by rfl)(hl:ag=[c1,c2,c3,c4,c5,c6,c7,c8,c9,c10,c11,c12,c13,c14,c15]:=by rfl):Go1 P C ae an (.load t x) ty aa st ab K:=by
 subst hl;exact Go1.uJ hd hx rfl ai
def G.amN{pl:List (Nat×Nat)}{parts:Array (Nat×Operand)}{ps:List (Nat×AV0)}[ht:dD P t pl][hz:fQ P t zs](ai:Reg P C ae aa (st.app (some d) ⟨.agg [a1,a2,a3,a4,a5,a6,a7,a8,a9,a10,a11,a12,a13,a14,a15],[]⟩) (([],[])::ab) K)(hd:aC (some d) C.nt=true:=by rfl)(hp:evp st parts.toList=some ps:=by rfl)(h1:(ps.all fun p=>p.2.cells.all Atom.dN)=true:=by rfl)(hf:gq pl (zs.map fun v=>Atom.c (.val v)) ps=some [a1,a2,a3,a4,a5,a6,a7,a8,a9,a10,a11,a12,a13,a14,a15]:=by rfl):Go1 P C ae (some d) (.build t parts) ty aa st ab K:=
 Go1.build hd hp h1 hf ai
def aj.fC{t:Tmp}{ag:List Atom}[ht:gZ P T 15](h:st.tm t=some (.ptr b off):=by rfl)(hb:st.hp b= .ent (.box T' ag):=by rfl)(hr:(ag.drop off).take 15=[a1,a2,a3,a4,a5,a6,a7,a8,a9,a10,a11,a12,a13,a14,a15]:=by rfl):aj P st (.cell t T) (.agg [a1,a2,a3,a4,a5,a6,a7,a8,a9,a10,a11,a12,a13,a14,a15]):=
 aj.agg h hb (by have:=congrArg List.length hr;simp at this;rw[zva];omega) hr
end
end
section
class akM(zs:List Value)(ag:outParam (List CA)):Prop where
 h:∀S w,aM (CA.has S w) ag zs
def ajc{S:Nat->Prop}{w:World}{ag:List CA}{zs:List Value}(h:aM (CA.has S w) ag zs):∀n:Nat,aM (CA.has S w) (List.replicate n ag).flatten (List.replicate n zs).flatten
 |0=>trivial
 |n+1=>by
  rw[List.replicate_succ,List.replicate_succ,List.flatten_cons,List.flatten_cons];exact h.append (ajc h n)
def au7(zs:List Value)(h0:0 < zs.length)(n:Nat):(madeCells zs.toArray (n*zs.length)).toList=(List.replicate n zs).flatten:=by
 induction n with
 |zero=>simp[madeCells]
 |succ n ih=>
  rw[show List.replicate (n+1) zs=List.replicate n zs++[zs]by rw[List.replicate_succ'],List.flatten_append,<-ih]
  apply zyb
  intro j;have hsz:∀m,(madeCells zs.toArray m).toList.length=m:=fun m=>by rw[zw6,size_madeCells]
  by_cases h1:j < n*zs.length
  ·rw[zyj (by rw[hsz];exact h1)]
   have h2:j < (n+1)*zs.length:=by rw[zy5];omega
   simp[madeCells,h1,h2]
  ·rw[zv6 (by rw[hsz];omega),hsz]
   by_cases h2:j < (n+1)*zs.length
   ·have h3:j - n*zs.length < zs.length:=by rw[zy5]at h2;omega
    have h4:j % zs.length=j - n*zs.length:=by
     have:j=(j - n*zs.length)+zs.length*n:=by rw[zxj zs.length n];omega
     rw[this,Nat.add_mul_mod_self_left,zw4 h3];rw[zxj zs.length n];omega
    simp[madeCells,h2,h4,h3]
   ·have h3:¬j - n*zs.length < zs.length:=by rw[zy5]at h2;omega
    simp[madeCells,h2]
    omega
section
variable{P:Program}{C:Ctx}{st:St}
variable{ae aa:List Oper}{ab:List (List Nat×List Nat)}{K:List (List Nat×List Nat)->St->Prop}{an:Option Tmp}{d:Tmp}{op:Op}{ty t t':TypeId}{x y z:Operand}
def Go1.ami{n:Nat}{k k':IntKind}[ht:bF P t e size][he:eZ P e zs bytes][hz:akM zs ag](hd:aC (some d) C.nt=true)(hx:st.ev x=some (.v (.int k (n:Int))))(hy:st.ev y=some (.v (.int k' (n:Int))))(hf:st.hp d= .free)(hb:n*bytes<=140737488355328)(hm:n<=9223372036854775807)(hs:zs.length=size)(ai:Reg P C ae aa (st.app (some d) ⟨.own d,[(d,.ent (.row e size n (List.replicate n ag).flatten))]⟩) (([d],[d])::ab) K):Go1 P C ae (some d) (.makeSlice t x y) ty aa st ab K:=
 ⟨[d],⟨.own d,[(d,.ent (.row e size n (List.replicate n ag).flatten))]⟩,fun o h2 h3 h4=>aT.newRow h2 hd hf [] (fun b e hb=>by cases hb) (fun st' E S a w hev hs' _=>by
  have hxv:a.eval x= .int k (n:Int):=(hs'.ev ((hev x (by simp[h3,Op.operands])).trans hx)).1
  have hyv:a.eval y= .int k' (n:Int):=(hs'.ev ((hev y (by simp[h3,Op.operands])).trans hy)).1
  obtain⟨i,z',hi,hz',hc,hsz,hby⟩:=ru he ht.s;obtain⟨w',hrun,hown,hgr⟩:=run_make_full (P:=P) w 0 t e i z' size ht.h hi hz' hsz k k' n (by rw[hby,zxj];omega) (by simp[maxLen];omega) (zq8 _)
  refine⟨.slice (some ⟨w.heap.size,0,none⟩) n n,w',(List.replicate n zs).flatten,?_,?_,nS hgr (fun k hk=>by cases hk),fun k hk=>by simp[Value.ownBlock]at hk;omega,ajc (hz.h _ _) n⟩
  ·unfold execOp;rw[h3];simp[hxv,hyv,hrun]
  ·have hl:(madeCells z'.cells (n*size)).toList=(List.replicate n zs).flatten:=by rw[hc,<-hs];exact au7 zs (by rw[hs];exact ht.p) n
   rw[<-hl];exact hown),ai⟩
def G.ami{e:TypeId}{n bytes size:Nat}{k k':IntKind}{zi zj:Int}{zs:List Value}{ag:List CA}[ht:bF P t e size][he:eZ P e zs bytes][hz:akM zs ag](ai:Reg P C ae aa (st.app (some d) ⟨.own d,[(d,.ent (.row e size n (List.replicate n ag).flatten))]⟩) (([d],[d])::ab) K)(hd:aC (some d) C.nt=true:=by rfl)(hx:st.ev x=some (.v (.int k zi)):=by rfl)(hx0:zi=(n:Int):=by first|with_reducible rfl|exact SX.jI _|rfl)(hy:st.ev y=some (.v (.int k' zj)):=by rfl)(hy0:zj=(n:Int):=by first|with_reducible rfl|exact SX.jI _|rfl)(hf:st.hp d= .free:=by rfl)
  (hb:n*bytes<=140737488355328:=by omega) (hm:n<=9223372036854775807:=by omega) (hs:zs.length=size:=by rfl):Go1 P C ae (some d) (.makeSlice t x y) ty aa st ab K:=by
 subst hx0;subst hy0;exact Go1.ami hd hx hy hf hb hm hs ai
def G.at6{ag:List Atom}[ht:gZ P t 1](ai:Reg P C ae aa (st.app (some d) ⟨.agg [a1],[]⟩) (([b],[])::ab) K)(hd:aC (some d) C.nt=true:=by rfl)(hx:st.ev x=some (.ptr b off):=by rfl)(hb:st.hp b= .ent (.box T ag):=by rfl)(hr:(ag.drop off).take 1=[a1]:=by rfl):Go1 P C ae (some d) (.load t x) ty aa st ab K:=
 Go1.sJ hd hx hb (by have:=congrArg List.length hr;simp at this;rw[zva];omega) hr ai
def G.amI[ht:gZ P t 1](ai:Reg P C ae aa (st.app an ⟨.agg [.c c1],[]⟩) (([],[])::ab) K)(hd:aC an C.nt=true:=by rfl)(hx:st.ev x=some (.r (dL ag)):=by rfl)(hl:ag=[c1]:=by rfl):Go1 P C ae an (.load t x) ty aa st ab K:=by
 subst hl;exact Go1.uJ hd hx rfl ai
def G.aum{pl:List (Nat×Nat)}{parts:Array (Nat×Operand)}{ps:List (Nat×AV0)}[ht:dD P t pl][hz:fQ P t zs](ai:Reg P C ae aa (st.app (some d) ⟨.agg [a1],[]⟩) (([],[])::ab) K)(hd:aC (some d) C.nt=true:=by rfl)(hp:evp st parts.toList=some ps:=by rfl)(h1:(ps.all fun p=>p.2.cells.all Atom.dN)=true:=by rfl)(hf:gq pl (zs.map fun v=>Atom.c (.val v)) ps=some [a1]:=by rfl):Go1 P C ae (some d) (.build t parts) ty aa st ab K:=
 Go1.build hd hp h1 hf ai
def aj.agg1{t:Tmp}{ag:List Atom}[ht:gZ P T 1](h:st.tm t=some (.ptr b off):=by rfl)(hb:st.hp b= .ent (.box T' ag):=by rfl)(hr:(ag.drop off).take 1=[a1]:=by rfl):aj P st (.cell t T) (.agg [a1]):=
 aj.agg h hb (by have:=congrArg List.length hr;simp at this;rw[zva];omega) hr
end
end
section
section
variable{P:Program}{C:Ctx}{st:St}
variable{ae aa:List Oper}{ab:List (List Nat×List Nat)}{K:List (List Nat×List Nat)->St->Prop}{an:Option Tmp}{d:Tmp}{op:Op}{ty t t':TypeId}{x y z:Operand}
end
structure HeldK(q:Prop):Prop where
 out:q
end
section
section
variable{P:Program}{C:Ctx}{st:St}
variable{ae aa:List Oper}{ab:List (List Nat×List Nat)}{K:List (List Nat×List Nat)->St->Prop}{an:Option Tmp}{d:Tmp}{op:Op}{ty t t':TypeId}{x y z:Operand}
end
end
section
def oF(S:Nat->Prop)(w:World)(p:List UInt8×List CA)(e:MapEntry):Prop:=e.key=str p.1/\∃us:List Value,e.val= .agg us.toArray/\aM (CA.has S w) p.2 us
def oF.step{S S':Nat->Prop}{w w':World}{p:List UInt8×List CA}{e:MapEntry}(h:oF S w p e)(ho:Off S w w')(hs:∀k,S' k->S k\/w.heap.size<=k):oF S' w' p e:=by
 obtain⟨h1,us,h2,h3⟩:=h;exact⟨h1,us,h2,h3.mono fun a u _ ha=>ha.step ho hs⟩
def iW(l:List (List UInt8×List CA)):kL where
 has _ v X S w:=∃r es clock,v= .map (some r)/\(∀k,X k↔k=r)/\w.heap[r]? =some (.map es clock)/\aM (oF S w) l es.toList
 step:=fun {b v X S S' w w'} ⟨r,es,clock,h1,h2,h3,h4⟩ ho hs hX=>
  ⟨r,es,clock,h1,h2,by rw[hX r ((h2 r).2 rfl)];exact h3,h4.mono fun a u _ ha=>ha.step ho hs⟩
def iC{β:Type}:List (List UInt8×β)->List UInt8->Option β
 |[],_=>none
 |(k,c)::l,s=>if s=k then some c else iC l s
def fP{β:Type}:List (List UInt8×β)->List UInt8->β->List (List UInt8×β)
 |[],s,c=>[(s,c)]
 |(k,d)::l,s,c=>if s=k then(k,c)::l else(k,d)::fP l s c
def zo(s t:List UInt8):Instr.sameNow .string (str s) (str t)=some (decide (s=t)):=by
 show some ((⟨⟨s⟩⟩:ByteArray)==⟨⟨t⟩⟩)=_;have e:((⟨⟨s⟩⟩:ByteArray)==⟨⟨t⟩⟩)=((⟨s⟩:Array UInt8)==⟨t⟩):=rfl;rw[e]
 congr 1
 rw[zyc,beq_iff_eq,decide_eq_true_iff];constructor
 ·intro h;injection h
 ·rintro rfl;rfl
def aeT{S:Nat->Prop}{w:World}{s:List UInt8}:∀{l:List (List UInt8×List CA)} {es:List MapEntry} (i:Nat),aM (oF S w) l es->iC l s=none->Instr.findNow .string (str s) es i=some none
 |[],[],_,_,_=>rfl
 |(k,c)::l,e::es,i,h,hn=>by
  obtain⟨⟨h1,_⟩,h2⟩:=h;unfold iC at hn;by_cases hk:s=k
  ·rw[if_pos hk]at hn;cases hn
  ·rw[if_neg hk]at hn;unfold Instr.findNow;rw[h1];show (match Instr.sameNow .string (str s) (str k)with|some true=>some (some (i,e.val))|some false=>Instr.findNow .string (str s) es (i+1)|none=>none)=_
   rw[zo,decide_eq_false hk];exact aeT (i+1) h2 hn
 |[],_::_,_,h,_=>h.elim
 |_::_,[],_,h,_=>h.elim
def afq{S:Nat->Prop}{w:World}{s:List UInt8}{c:List CA}:∀{l:List (List UInt8×List CA)} {es:List MapEntry} (i:Nat),aM (oF S w) l es->iC l s=some c->∃j us,Instr.findNow .string (str s) es i=some (some (i+j,.agg us))/\aM (CA.has S w) c us.toList/\(∃e,es[j]? =some e/\e.key=str s)
 |[],[],_,_,hn=>by cases hn
 |(k,d)::l,e::es,i,h,hn=>by
  obtain⟨⟨h1,us,h3,h4⟩,h2⟩:=h;unfold iC at hn;by_cases hk:s=k
  ·rw[if_pos hk]at hn;cases hn;refine⟨0,us.toArray,?_,by simpa using h4,e,rfl,by rw[h1,hk]⟩
   unfold Instr.findNow;rw[h1];show (match Instr.sameNow .string (str s) (str k)with|some true=>some (some (i,e.val))|some false=>Instr.findNow .string (str s) es (i+1)|none=>none)=_
   rw[zo,decide_eq_true hk,h3];rfl
  ·rw[if_neg hk]at hn;obtain⟨j,vs,g1,g2,e',g3,g4⟩:=afq (i+1) h2 hn;refine⟨j+1,vs,?_,g2,e',g3,g4⟩;unfold Instr.findNow;rw[h1];show (match Instr.sameNow .string (str s) (str k)with|some true=>some (some (i,e.val))|some false=>Instr.findNow .string (str s) es (i+1)|none=>none)=_
   rw[zo,decide_eq_false hk];show Instr.findNow .string (str s) es (i+1)=_;rw[g1,show i+1+j=i+(j+1)by omega]
 |[],_::_,_,h,_=>h.elim
 |_::_,[],_,h,_=>h.elim
def aji{S:Nat->Prop}{w:World}{s:List UInt8}{c:List CA}{e:MapEntry}(he:oF S w (s,c) e):∀{l:List (List UInt8×List CA)} {es:List MapEntry},aM (oF S w) l es->iC l s=none->aM (oF S w) (fP l s c) (es++[e])
 |[],[],_,_=>⟨he,trivial⟩
 |(k,d)::l,f::es,h,hn=>by
  unfold iC at hn;by_cases hk:s=k
  ·rw[if_pos hk]at hn;cases hn
  ·rw[if_neg hk]at hn;unfold fP;rw[if_neg hk];exact⟨h.1,aji he h.2 hn⟩
 |[],_::_,h,_=>h.elim
 |_::_,[],h,_=>h.elim
def ah0{S:Nat->Prop}{w:World}{s:List UInt8}{c d:List CA}:∀{l:List (List UInt8×List CA)} {es:List MapEntry} (i:Nat),aM (oF S w) l es->iC l s=some d->
  ∃j v,Instr.findNow .string (str s) es i=some (some (i+j,v))/\(∃e,es[j]? =some e/\e.key=str s)/\∀e,oF S w (s,c) e->aM (oF S w) (fP l s c) (es.set j e)
 |[],[],_,_,hn=>by cases hn
 |(k,d)::l,e::es,i,h,hn=>by
  obtain⟨⟨h1,us,h3,h4⟩,h2⟩:=h;unfold iC at hn;by_cases hk:s=k
  ·rw[if_pos hk]at hn;refine⟨0,e.val,?_,⟨e,rfl,by rw[h1,hk]⟩,fun f hf=>?_⟩
   ·unfold Instr.findNow;rw[h1];show (match Instr.sameNow .string (str s) (str k)with|some true=>some (some (i,e.val))|some false=>Instr.findNow .string (str s) es (i+1)|none=>none)=_
    rw[zo,decide_eq_true hk];rfl
   ·unfold fP;rw[if_pos hk];subst hk;exact⟨hf,h2⟩
  ·rw[if_neg hk]at hn;obtain⟨j,v,g1,⟨e',g3,g4⟩,g5⟩:=ah0 (c:=c) (i+1) h2 hn;refine⟨j+1,v,?_,⟨e',g3,g4⟩,fun f hf=>?_⟩
   ·unfold Instr.findNow;rw[h1];show (match Instr.sameNow .string (str s) (str k)with|some true=>some (some (i,e.val))|some false=>Instr.findNow .string (str s) es (i+1)|none=>none)=_
    rw[zo,decide_eq_false hk];show Instr.findNow .string (str s) es (i+1)=_;rw[g1,show i+1+j=i+(j+1)by omega]
   ·unfold fP;rw[if_neg hk];exact⟨⟨h1,us,h3,h4⟩,g5 f hf⟩
 |[],_::_,_,h,_=>h.elim
 |_::_,[],_,h,_=>h.elim
class aoR(P:Program)(t:TypeId)(zs:outParam (List Value)):Prop where
 h:∃k e,P.underlying t=some (.map k e)/\P.underlying k=some .string/\(P.info? e).map (·.zero)=some (some (.agg zs.toArray))
def vQ(s:List UInt8):Go.MapKept.IsKey .string (str s):=by
 first|exact trivial|simp[Go.MapKept.IsKey,str]
section
variable{P:Program}{t:TypeId}{zs:List Value}[ht:aoR P t zs]{w:World}{r:Nat}{es:Array MapEntry}{clock:Nat}{S:Nat->Prop}{l:List (List UInt8×List CA)}{s:List UInt8}
include ht
theorem afW(hb:w.heap[r]? =some (.map es clock))(ha:aM (oF S w) l es.toList)(hl:iC l s=some c):
  ∃us:List Value,(Instr.lookup t (.map (some r)) (str s) true).run P w= .ok (.tuple #[.agg us.toArray,.bool true]) w/\aM (CA.has S w) c us:=by
 obtain⟨k,e,hm,hk,hz⟩:=ht.h;obtain⟨j,us,h1,h2,_⟩:=afq 0 ha hl;refine⟨us.toList,?_,h2⟩;unfold Instr.lookup;simp[run_underlying hm,Go.MapKept.run_getObj_map hb,Go.MapKept.run_checkKey hk (vQ s),Go.MapKept.run_findKey hk h1]
theorem atE{us:List Value}(hb:w.heap[r]? =some (.map es clock))(ha:aM (oF S w) l es.toList)(hu:aM (CA.has S w) c us):
  ∃es' clock',(Instr.mapUpdate t (.map (some r)) (str s) (.agg us.toArray)).run P w= .ok () {w with heap:=w.heap.setIfInBounds r (.map es' clock')}/\aM (oF S w) (fP l s c) es'.toList:=by
 obtain⟨k,e,hm,hk,hz⟩:=ht.h;cases hl:iC l s with
 |none=>
  have h1:=aeT (s:=s) 0 ha hl;refine⟨es.push {key:=str s,val:= .agg us.toArray,born:=clock},clock+1,?_,?_⟩
  ·unfold Instr.mapUpdate;simp[run_underlying hm,Go.MapKept.run_getObj_map hb,Go.MapKept.run_checkKey hk (vQ s),Go.MapKept.run_findKey hk h1,Go.MapKept.run_setObj_map _ hb]
  ·rw[Array.toList_push];exact aji ⟨rfl,us,rfl,hu⟩ ha hl
 |some d=>
  obtain⟨j,v,h1,⟨f,h3,h4⟩,h5⟩:=ah0 (c:=c) 0 ha hl;rw[zv7]at h1;have h3':es[j]? =some f:=by rw[<-h3,zw2]
  refine⟨es.modify j fun e=>{e with key:=str s,val:= .agg us.toArray},clock,?_,?_⟩
  ·unfold Instr.mapUpdate;simp[run_underlying hm,Go.MapKept.run_getObj_map hb,Go.MapKept.run_checkKey hk (vQ s),Go.MapKept.run_findKey hk h1,Go.MapKept.run_setObj_map _ hb,h3',h4,Go.MapKept.run_keyThatStays (vQ s)]
  ·have e9:(es.modify j fun e=>{e with key:=str s,val:= .agg us.toArray}).toList=es.toList.set j {f with key:=str s,val:= .agg us.toArray}:=by
    apply zyb;intro i
    rw[zv2]
    simp only[Array.toList_modify,List.getElem?_modify]
    by_cases hi:j=i
    ·subst hi;obtain⟨hlt,_⟩:=zxg.1 h3
     rw[if_pos rfl,if_pos hlt,h3];simp
    ·rw[if_neg hi];simp[hi]
   rw[e9];exact h5 _ ⟨rfl,us,rfl,hu⟩
end
def Eff.azt{X:Nat->Prop}{A:kL}(hl:∀k,S k->k < w.heap.size)(ho:Off none' w w')(hA:A.has (E.blk b) v X (fun k=>S k\/X k) w')(hX:∀k,X k->w.heap.size<=k)(hXl:∀k,X k->k < w'.heap.size)(hone:v.oneCell'=true):
  Eff E S w [] ⟨.own b,[(b,.ent (.abs A))]⟩ v w' ⟨E.blk,upd E.sl b v,upd E.fp b X⟩ (fun k=>S k\/X k):=by
 have hent:∀i e,(i,Slot.ent e)∈[(b,Slot.ent (Ent.abs A))]->i=b/\e= .abs A:=by
  intro i e hi;simp at hi;exact hi
 refine
  {env:=fun i hi=>?_,fpe:=fun i hi=>?_,sub:=fun k hk=> .inl hk,new:=fun k hk=>hk.imp id (hX k),lt:=fun k hk=>?_,off:=ho.mono fun k hk=>hk.elim,res:=⟨by show v=upd E.sl b v b;rw[upd_same],hone⟩,
   ents:=fun i e hi=>?_,blk:=fun i e k hi hk=>?_,sep:=fun i i' e e' k hne h1 h2=>?_}
 ·by_cases e:i=b
  ·subst e;obtain⟨e,he⟩:=hi ⟨_,by simp;rfl⟩
   cases he
  ·exact⟨rfl,upd_ne _ _ e⟩
 ·exact upd_ne _ _ fun e=>hi (.ent (.abs A)) (by simp[e])
 ·rcases hk with hk|hk
  ·exact zqf (hl k hk) ho.size
  ·exact hXl k hk
 ·obtain⟨rfl,rfl⟩:=hent i e hi;show A.has (E.blk i) (upd E.sl i v i) (upd E.fp i X i) _ w';rw[upd_same,upd_same];exact hA
 ·obtain⟨rfl,rfl⟩:=hent i e hi;have hk':upd E.fp i X i k:=hk;rw[upd_same]at hk';exact⟨.inr hk',.inr (hX k hk')⟩
 ·obtain⟨rfl,_⟩:=hent _ _ h1;obtain⟨rfl,_⟩:=hent _ _ h2;exact absurd rfl hne
section
variable{P:Program}{C:Ctx}{st:St}
variable{ae aa:List Oper}{ab:List (List Nat×List Nat)}{K:List (List Nat×List Nat)->St->Prop}{an:Option Tmp}{d:Tmp}{ty t:TypeId}{x y z:Operand}{zs:List Value}
def ah8{E:Env}{S:Nat->Prop}{w:World}:∀{m:List CA} {us:List Value},aM (Atom.has E S w) (m.map Atom.c) us->aM (CA.has S w) m us
 |[],[],_=>trivial
 |_::_,_::_,h=>⟨h.1,ah8 h.2⟩
 |[],_::_,h=>h.elim
 |_::_,[],h=>h.elim
def Eff.awG{A A':kL}(hl:∀k,S k->k < w.heap.size)(hS:∀k,E.fp b k->S k)(ho:Off (E.fp b) w w')(hA:A'.has (E.blk b) (E.sl b) (E.fp b) S w'):
  Eff E S w [(b,.abs A)] ⟨.v undef,[(b,.ent (.abs A'))]⟩ undef w' E S:=by
 refine
  {env:=fun i hi=>⟨rfl,rfl⟩,fpe:=fun _ _=>rfl,sub:=fun k hk=>hk,new:=fun k hk=> .inl hk,lt:=fun k hk=>zqf (hl k hk) ho.size,off:=ho.mono fun k hk=>⟨b,_,zq9,hk⟩,
   res:=rfl,ents:=fun i e' hi=>?_,blk:=fun i e' k hi hk=>?_,sep:=fun i i' e' e2 k hne h1 h2=>?_}
 ·simp at hi;obtain⟨rfl,rfl⟩:=hi
  exact hA
 ·simp at hi;obtain⟨rfl,rfl⟩:=hi
  exact⟨hS k hk,.inl ⟨i,_,zq9,hk⟩⟩
 ·simp at h1 h2;exact absurd (h1.1.trans h2.1.symm) hne
def Off.setObj(w:World)(r:Nat)(o:Obj)(h:S r):Off S w {w with heap:=w.heap.setIfInBounds r o}:=
 ⟨rfl,rfl,rfl,by simp,fun k hk hn=>by
  have hne:k≠r:=fun e=>hn (e▸h)
  show (w.heap.setIfInBounds r o)[k]? =_;rw[Array.getElem?_setIfInBounds,if_neg (fun e=>hne e.symm)]⟩
end
section
variable{P:Program}{C:Ctx}{st:St}
variable{ae aa:List Oper}{ab:List (List Nat×List Nat)}{K:List (List Nat×List Nat)->St->Prop}{an:Option Tmp}{d:Tmp}{ty t:TypeId}{x y z:Operand}{zs:List Value}
def G.makeMap(ai:Reg P C ae aa (st.app (some d) ⟨.own d,[(d,.ent (.abs (iW [])))]⟩) (([d],[d])::ab) K)(hd:aC (some d) C.nt=true:=by rfl)(hf:st.hp d= .free:=by rfl):Go1 P C ae (some d) (.makeMap t none) ty aa st ab K:=
 ⟨[d],⟨.own d,[(d,.ent (.abs (iW [])))]⟩,fun o h2 h3 h4=>by
  refine aT.eff [] [] (fun b hb=>?_) (h2▸dP hd) (fun b e hb=>by cases hb) (fun b e hb=>by cases hb) (fun b s hb=>?_) (fun b s hb=>?_) (fun st' E S a w hev hhp hs _ _=>?_)
  ·rcases hb with⟨e,hb⟩|⟨e,hb⟩|⟨s,hb⟩
   ·cases hb
   ·cases hb
   ·simp at hb;simp[hb.1]
  ·simp at hb;rw[hb.1];exact .inr hf
  ·simp at hb;rw[hb.2];rfl
  ·refine⟨⟨fun i hi=>?_,fun b e hb i hi=>?_⟩,fun K Q hK=>?_⟩
   ·simp[AV.ids,AV0.ids,Atom.ids]at hi;subst hi;simp[fH,Slot.used]
   ·simp at hb
    obtain⟨rfl,rfl⟩:=hb;cases hi
   ·unfold Oper.wp execOp;rw[h3];have hr:(Instr.makeMap t none).run P w= .ok (.map (some w.heap.size)) (w.alloc (.map #[] 0)):=by simp[Instr.makeMap]
    simp only[hr,Option.map_none,Sem.run_bind,Sem.run_pure,Result.andThen_ok];refine hK _ _ _ _ (Eff.azt (X:=fun k=>k=w.heap.size) hs.lt (Off.alloc _ _ _) ⟨w.heap.size,#[],0,rfl,fun k=>Iff.rfl,heap_alloc_new w _,trivial⟩ (fun k hk=>by rw[hk];exact zq6 _) (fun k hk=>?_) rfl)
    rw[hk];show w.heap.size < (w.heap.push _).size;simp,ai⟩
def G.aml{l:List (List UInt8×List CA)}[ht:aoR P t zs](ai:Reg P C ae aa (st.app an ⟨.tup [.agg (c.map Atom.c),.one (.c (.val (.bool true)))],[]⟩) (([b],[])::ab) K)(hd:aC an C.nt=true:=by rfl)(hx:st.ev x=some (.own b):=by rfl)(hb:st.hp b= .ent (.abs (iW l)):=by rfl)(hy:st.ev y=some (.v (str s)):=by rfl)(hl:iC l s=some c:=by first|(with_reducible assumption)|assumption):Go1 P C ae an (.lookup t x y true) ty aa st ab K:=
 Go1.dz [(b,.abs (iW l))] [b] zp hd (by simpa using hb) (fun o ho _ st' E S a w hev hs hrd=>by
  obtain⟨⟨hv,_⟩,_⟩:=hs.ev ((hev x (by simp[ho,Op.operands])).trans hx)
  have hyv:a.eval y=str s:=(hs.ev ((hev y (by simp[ho,Op.operands])).trans hy)).1
  have h0:(iW l).has (E.blk b) (E.sl b) (E.fp b) S w:=hs.hp b (.abs (iW l)) (hrd b (.abs (iW l)) zp)
  obtain⟨r,es,clock,h1,h2,h3,h4⟩:=h0;obtain⟨us,hrun,hall⟩:=afW (P:=P) (t:=t) h3 h4 hl;refine⟨fun i hi=>?_,.tuple #[.agg us.toArray,.bool true],?_,?_⟩
  ·exfalso
   simp only[AV.ids,zq7,AV0.ids,zqd,zqb,zyg,zx9,zqg]at hi;rcases hi with⟨_,⟨_,_,rfl⟩,h⟩|h <;> cases h
  ·unfold execOp;rw[ho];simp[show a.eval x=_ from hv,h1,hyv,hrun]
  ·exact⟨[.agg us.toArray,.bool true],rfl,⟨us,rfl,ads hall⟩,rfl,trivial⟩) ai
def G.putM{l:List (List UInt8×List CA)}{la:List Atom}[ht:aoR P t zs](ai:Reg P C ae aa (st.app none ⟨.v undef,[(b,.ent (.abs (iW (fP l s c))))]⟩) (([b],[b])::ab) K)(hx:st.ev x=some (.own b):=by rfl)(hb:st.hp b= .ent (.abs (iW l)):=by rfl)(hy:st.ev y=some (.v (str s)):=by rfl)(hz:st.ev z=some (.agg la):=by rfl)(hc:aV la=some c:=by rfl):Go1 P C ae none (.mapUpdate t x y z) ty aa st ab K:=by
 refine⟨[b],⟨.v undef,[(b,.ent (.abs (iW (fP l s c))))]⟩,fun o h2 h3 h4=>aT.eff [] [(b,.abs (iW l))] (fun i hi=>?_) (h2▸(fun x hx=>by cases hx)) (fun b e hb=>by cases hb) (fun i e hi=>?_) (fun i s hi=>?_) (fun i s hi=>?_) (fun st' E S a w hev hhp hse _ hpre=>?_),ai⟩
 ·rcases hi with⟨e,hi⟩|⟨e,hi⟩|⟨s,hi⟩
  ·cases hi
  ·simp at hi;simp[hi.1]
  ·simp at hi;simp[hi.1]
 ·simp at hi
  obtain⟨rfl,rfl⟩:=hi;exact⟨hb,_,by simp;rfl⟩
 ·simp at hi;obtain⟨rfl,_⟩:=hi;exact .inl ⟨_,by simp;rfl⟩
 ·simp at hi;rw[hi.2];rfl
 ·obtain⟨⟨hv,_⟩,_⟩:=hse.ev ((hev x (by simp[h3,Op.operands])).trans hx)
  have hyv:a.eval y=str s:=(hse.ev ((hev y (by simp[h3,Op.operands])).trans hy)).1
  obtain⟨⟨us,hzv,hall⟩,_⟩:=hse.ev ((hev z (by simp[h3,Op.operands])).trans hz)
  have hb':=hpre b (.abs (iW l)) zp
  have h0:(iW l).has (E.blk b) (E.sl b) (E.fp b) S w:=hse.hp b _ hb';have hX:∀k,E.fp b k->S k:=fun k hk=>(hse.blk b _ k hb' hk).1
  obtain⟨r,es,clock,h1,h5,h6,h7⟩:=h0;have hcl:aM (CA.has S w) c us:=by
   rw[dU hc]at hall;exact ah8 hall
  obtain⟨es',clock',hrun,h8⟩:=atE (P:=P) (t:=t) (s:=s) h6 h7 hcl;have hor:Off (E.fp b) w {w with heap:=w.heap.setIfInBounds r (.map es' clock')}:=Off.setObj w r _ ((h5 r).2 rfl);refine⟨⟨fun i hi=>(by cases hi),fun i e hi j hj=>?_⟩,fun K Q hK=>?_⟩
  ·simp at hi
   obtain⟨rfl,rfl⟩:=hi;cases hj
  ·unfold Oper.wp execOp;rw[h3];simp only[show a.eval x=_ from hv,h1,hyv,show a.eval z=_ from hzv,hrun,Sem.run_bind,Sem.run_pure,Result.andThen_ok]
   refine hK undef _ _ _ (Eff.awG hse.lt hX hor ⟨r,es',clock',h1,h5,(Go.MapKept.heap_set h6).1,h8.mono fun p e _ he=>he.step (hor.mono hX) fun k hk=> .inl hk⟩)
end
section
variable{P:Program}{C:Ctx}{st:St}
variable{ae aa:List Oper}{ab:List (List Nat×List Nat)}{K:List (List Nat×List Nat)->St->Prop}{d:Tmp}{ty t:TypeId}{x:Operand}
def G.ax1{ι:Type}{bb:Nat}{φ:ι->Prop}{ag:ι->List Atom}{R:ι->List (Nat×Ent)}{u:Value}[ht:iT P t](ai:Reg P C ae aa (st.app (some d) ⟨.v u,[]⟩) (([b],[])::ab) K)(hd:aC (some d) C.nt=true:=by rfl)(hx:st.ev x=some (.ptr b off):=by rfl)(hb:st.hp b= .ent (.abs (oO bb φ T ag R)):=by rfl)(hr:∀p,(ag p)[off]? =some (.c (.val u)):=by intro p;rfl):Go1 P C ae (some d) (.load t x) ty aa st ab K:=
 Go1.dz [(b,.abs (oO bb φ T ag R))] [b] zp hd (by simpa using hb) (fun o ho _ st' E S a w hev hs hrd=>by
  obtain⟨hv,_⟩:=hs.ev ((hev x (by simp[ho,Op.operands])).trans hx)
  have hb':=hrd b (.abs (oO bb φ T ag R)) zp
  obtain⟨p,E2,_,hB⟩:=hs.hp b _ hb';obtain⟨cs,hg,hall⟩:=hB.box;obtain⟨u',hu,hcu⟩:=hall.get (hr p);have e:u'=u:=hcu;subst e;refine⟨fun i hi=>(by cases hi),u',?_,rfl⟩
  unfold execOp;rw[ho];simp[show a.eval x=_ from hv,Instr.loadAt,Instr.sureAddr,zA ht w hg hu]) ai
end
section
variable{P:Program}{C:Ctx}{st:St}
variable{ae aa:List Oper}{ab:List (List Nat×List Nat)}{K:List (List Nat×List Nat)->St->Prop}{d:Tmp}{ty t:TypeId}
def G.alE{pl:List (Nat×Nat)}{parts:Array (Nat×Operand)}{ps:List (Nat×AV0)}[ht:dD P t pl][hz:fQ P t zs](ai:Reg P C ae aa (st.app (some d) ⟨.agg [a1,a2,a3,a4,a5,a6,a7,a8,a9,a10,a11,a12,a13,a14,a15,a16,a17],[]⟩) (([],[])::ab) K)(hd:aC (some d) C.nt=true:=by rfl)(hp:evp st parts.toList=some ps:=by rfl)(h1:(ps.all fun p=>p.2.cells.all Atom.dN)=true:=by rfl)(hf:gq pl (zs.map fun v=>Atom.c (.val v)) ps=some [a1,a2,a3,a4,a5,a6,a7,a8,a9,a10,a11,a12,a13,a14,a15,a16,a17]:=by rfl):Go1 P C ae (some d) (.build t parts) ty aa st ab K:=
 Go1.build hd hp h1 hf ai
def aj.fF{u:Tmp}{ag:List Atom}[ht:gZ P T 17](h:st.tm u=some (.ptr b off):=by rfl)(hb:st.hp b= .ent (.box T' ag):=by rfl)(hr:(ag.drop off).take 17=[a1,a2,a3,a4,a5,a6,a7,a8,a9,a10,a11,a12,a13,a14,a15,a16,a17]:=by rfl):aj P st (.cell u T) (.agg [a1,a2,a3,a4,a5,a6,a7,a8,a9,a10,a11,a12,a13,a14,a15,a16,a17]):=
 aj.agg h hb (by have:=congrArg List.length hr;simp at this;rw[zva];omega) hr
def G.amg{pl:List (Nat×Nat)}{parts:Array (Nat×Operand)}{ps:List (Nat×AV0)}{a18 a19 a20 a21:Atom}[ht:dD P t pl][hz:fQ P t zs](ai:Reg P C ae aa (st.app (some d) ⟨.agg [a1,a2,a3,a4,a5,a6,a7,a8,a9,a10,a11,a12,a13,a14,a15,a16,a17,a18,a19,a20,a21],[]⟩) (([],[])::ab) K)(hd:aC (some d) C.nt=true:=by rfl)(hp:evp st parts.toList=some ps:=by rfl)(h1:(ps.all fun p=>p.2.cells.all Atom.dN)=true:=by rfl)(hf:gq pl (zs.map fun v=>Atom.c (.val v)) ps=some [a1,a2,a3,a4,a5,a6,a7,a8,a9,a10,a11,a12,a13,a14,a15,a16,a17,a18,a19,a20,a21]:=by rfl):Go1 P C ae (some d) (.build t parts) ty aa st ab K:=
 Go1.build hd hp h1 hf ai
end
section
variable{P:Program}{C:Ctx}{st:St}{ae aa:List Oper}{ab:List (List Nat×List Nat)}{K:List (List Nat×List Nat)->St->Prop}{an:Option Tmp}{ty t:TypeId}{x:Operand}{α:Type}
def G.amk{tO tI:TypeId}{i j:Nat}{enc:α->List CA}{js:List Nat}{c:List (List α)}{r:List α}{a:α}[ht:gZ P t 2][he:dY enc 2](ai:Reg P C ae aa (st.app an ⟨.agg [.c c1,.c c2],[]⟩) (([b],[])::ab) K)(hd:aC an C.nt=true:=by rfl)(hx:st.ev x=some (.it (.one (.rel b (uO (j+1) (i*2))))):=by rfl)(hb:st.hp b= .ent (.abs (iK tO tI size enc js c)):=by rfl)(hj:c[j]? =some r:=by assumption)(ha:r[i]? =some a:=by assumption)(h4:enc a=[c1,c2]:=by rfl):Go1 P C ae an (.load t x) ty aa st ab K:=
 Go1.ajS (l:=[c1,c2]) hd hx hb hj ((abG (enc:=enc) (size:=2) ha).trans h4) rfl ai
def Go1.azm{n:Nat}{l:List CA}[ht:gZ P t n](hd:aC an C.nt=true)(hx:st.ev x=some (.r (dL ag)))(hl:ag.take n=l)(hn:l.length=n)(ai:Reg P C ae aa (st.app an ⟨.agg (l.map Atom.c),[]⟩) (([],[])::ab) K):Go1 P C ae an (.load t x) ty aa st ab K:=
 Go1.dz [] [] zp hd zp (fun o ho _ st' E S a w hev hs _=>by
  obtain⟨h0,_⟩:=hs.ev ((hev x (by simp[ho,Op.operands])).trans hx)
  obtain⟨b,o',hv,h6⟩:=adB.1 h0;have h7:∀i c,l[i]? =some c->∃u,¬S b/\w.cell? ⟨b,o'+i,none⟩=some u/\c.has S w u:=fun i c hi=>by
   rw[<-hl,zy9]at hi
   split at hi
   ·exact h6 i c hi
   ·cases hi
  have hex:=zf (E:=E) l o' h7;obtain⟨us,hall,hus⟩:=hex;have hlen:=hall.length;have hrun:=run_loadCells_list (P:=P) w ⟨b,o',none⟩ us hus;have hsz:(P.info? t).map (·.size)=some us.length:=by rw[ht.s,<-hn];simp at hlen;rw[hlen]
  refine⟨fun j hj=>?_,.agg us.toArray,?_,us,rfl,hall⟩
  ·simp only[AV.ids,AV0.ids,zx9]at hj;obtain⟨c,hc,hj⟩:=hj;obtain⟨c',_,rfl⟩:=zqg.1 hc;cases hj
  ·unfold execOp;rw[ho];simp[hv,Instr.loadAt,Instr.sureAddr,loadVar,ig ht.h,run_sizeOf hsz,hrun]) ai
def G.ano[ht:gZ P t 3](ai:Reg P C ae aa (st.app an ⟨.agg [.c c1,.c c2,.c c3],[]⟩) (([],[])::ab) K)(hd:aC an C.nt=true:=by rfl)(hx:st.ev x=some (.r (dL ag)):=by rfl)(hl:ag.take 3=[c1,c2,c3]:=by rfl):Go1 P C ae an (.load t x) ty aa st ab K:=
 Go1.azm hd hx hl rfl ai
end
structure HeldM(q:Prop):Prop where
 out:q
def zg{p q:Prop}(h:q)(k:HeldM q->p:=by
  intro h
  repeat1' (first
   |(refine SX.Go1.is ?_;first
     |(refine SX.Go1.isLoad ?_;first|refine SX.G.aeQ ?_|refine SX.G.aev ?_|refine SX.G.zT ?_|refine SX.G.zM ?_|refine SX.G.ae1 ?_|refine SX.G.aaq ?_|refine SX.G.load5 ?_|refine SX.G.aqG ?_|refine SX.G.at6 ?_|refine SX.G.amI ?_|refine SX.G.alO ?_|refine SX.G.aly ?_|refine SX.G.amk ?_|refine SX.G.ajS ?_|refine SX.G.loadOWA ?_|refine SX.G.loadOW2 ?_|refine SX.G.afi ?_|refine SX.G.aat ?_|refine SX.G.agp ?_|refine SX.G.ac2 ?_)
     |(refine SX.Go1.ani ?_;first|refine SX.G.lss ?_|refine SX.G.eql ?_|refine SX.G.eqlNilT ?_|refine SX.G.eqlNilF ?_|refine SX.G.neq ?_|refine SX.G.gtr ?_|refine SX.G.geq ?_|refine SX.G.leq ?_|refine SX.G.addN ?_|refine SX.G.alL ?_|refine SX.G.subN ?_|refine SX.G.amF ?_|refine SX.G.add ?_|refine SX.G.sub ?_|refine SX.G.mulN ?_|refine SX.G.alA ?_|refine SX.G.mul ?_|refine SX.G.quoN ?_|refine SX.G.an2 ?_|refine SX.G.quo ?_|refine SX.G.remN ?_|refine SX.G.am5 ?_|refine SX.G.rem ?_|refine SX.G.eqlT ?_|refine SX.G.ax9 ?_|refine SX.G.axO ?_|refine SX.G.ax6 ?_|refine SX.G.neqT ?_|refine SX.G.apu ?_|refine SX.G.apl ?_|refine SX.G.shr ?_|refine SX.G.shl ?_|refine SX.G.and ?_|refine SX.G.aoF ?_)
     |(refine SX.Go1.isUn ?_;first|refine SX.G.not ?_|refine SX.G.neg ?_)
     |(refine SX.Go1.isField ?_;first|refine SX.G.fieldAddr ?_|refine SX.G.kX ?_)
     |(refine SX.Go1.abx ?_;first|refine SX.G.atZ ?_|refine SX.G.aum ?_|refine SX.G.aa5 ?_|refine SX.G.aao ?_|refine SX.G.aa1 ?_|refine SX.G.build5 ?_|refine SX.G.amN ?_|refine SX.G.alE ?_|refine SX.G.amg ?_|refine SX.G.build ?_)
     |(refine SX.Go1.ab2 ?_;first|refine SX.G.store ?_|refine SX.G.agQ ?_|refine SX.G.afK ?_|refine SX.G.abn ?_|refine SX.G.qJ ?_|refine SX.G.aaz ?_)
     |(refine SX.Go1.isIx ?_;first|refine SX.G.rH ?_|refine SX.G.rE ?_|refine SX.G.lU ?_|refine SX.G.rG ?_|refine SX.G.kW ?_|refine SX.G.indexAddrA ?_|refine SX.G.indexAddrG ?_)
     |(refine SX.Go1.zh ?_;first|refine SX.G.lit0Own ?_|refine SX.G.litH ?_|refine SX.G.afU ?_|refine SX.G.al9 ?_|refine SX.G.lit2 ?_|refine SX.G.lit3 ?_|refine SX.G.anE ?_)
     |(refine SX.Go1.dO ?_;first|refine SX.G.minN ?_|refine SX.G.maxN ?_|refine SX.G.maxL ?_|refine SX.G.maxR ?_|refine SX.G.aof ?_|refine SX.G.apq ?_|refine SX.G.lenT ?_|refine SX.G.auC ?_|refine SX.G.aoG ?_|refine SX.G.abF ?_|refine SX.G.appendNilW ?_|refine SX.G.anz ?_|refine SX.G.sliceDataN ?_|refine SX.G.adp ?_|refine SX.G.unsafeStrN ?_|refine SX.G.acu ?_|refine SX.G.lenH ?_|refine SX.G.abz ?_|refine SX.G.axB ?_|refine SX.G.ayd ?_|refine SX.G.amw ?_|refine SX.G.ab4 ?_|refine SX.G.call ?_)
     |refine SX.G.move ?_|refine SX.G.assign ?_|refine SX.G.extract ?_|refine SX.G.boxN ?_|refine SX.G.box ?_|refine SX.G.adq ?_|refine SX.G.alloc ?_|refine SX.G.afu ?_|refine SX.G.nilCheckR ?_|refine SX.G.mkfn ?_|refine SX.G.aye ?_|refine SX.G.axD ?_|refine SX.G.axL ?_|refine SX.G.pick ?_|refine SX.R.al2 ?_|refine SX.R.amW ?_|refine SX.G.pickB ?_|refine SX.G.pickV ?_|refine SX.G.amd ?_|refine SX.G.ami ?_|refine SX.G.makeC ?_|refine SX.G.amP ?_|refine SX.G.conv ?_|refine SX.G.afH ?_|refine SX.G.ar8 ?_|refine SX.G.sliceH ?_|refine SX.G.zk ?_|refine SX.G.sliceLoW ?_|refine SX.G.uo ?_|refine SX.G.sliceLoR ?_|refine SX.G.sliceHiO ?_|refine SX.G.zB ?_|refine SX.G.xX ?_|refine SX.G.sliceLHT ?_|refine SX.G.ax1 ?_|refine SX.G.loadB15 ?_|refine SX.G.aml ?_|refine SX.G.lookM0 ?_|refine SX.G.putM ?_|refine SX.G.makeMap ?_|refine SX.G.ano ?_|refine SX.G.loadRT4 ?_|refine SX.G.loadRT2 ?_|refine SX.G.auG ?_|refine SX.G.agM ?_|refine SX.G.ug ?_|refine SX.G.uh ?_|refine SX.G.sliceLHS ?_|refine SX.G.acp ?_)
   |(refine SX.Reg.is ?_;first|refine SX.Reg.go ?_|refine SX.R.runT ?_|refine SX.R.runF ?_|refine SX.R.amU ?_|refine SX.R.alx ?_|refine SX.R.ae9 ?_|refine SX.Reg.nil ⟨yW,?_⟩|refine SX.Reg.nil ?_)
   |(refine WP.is ?_;first|refine WP.seq ?_|refine WP.ame (by rfl) ?_|refine WP.aiQ (by rfl) yW ?_|refine WP.block ?_|refine WP.skip ?_|refine WP.exit ?_|refine WP.ret ?_|refine WP.label ?_|refine SX.W.an6 ?_|refine SX.W.adK ?_)
   |refine SX.aiK ?_|refine SX.aty ?_|refine SX.ayc ?_|refine SX.aqM ?_|refine SX.arl ?_|refine SX.akp ?_|refine SX.aq0 rfl ?_|refine SX.retR ?_|refine SX.retN ?_|refine SX.axC ?_|refine SX.axQ ?_)
  exact h.out):p:=k ⟨h⟩
end
section
def B3(C:Ctx):Prop:=∀k,C.B k->k=C.E0.blk 81\/C.E0.sl 82= .map (some k)\/(C.E0.sl 84).ownBlock=some k
abbrev zn(t:TypeId)(cs:List Atom)(l:List (List UInt8×List CA))(t2:TypeId)(size n:Nat)(ag:List CA):List (Nat×Ent):=[(81,.box t cs),(82,.abs (iW l)),(84,.row t2 size n ag)]
def ak.fnM{fn:Func}{c:Code}{l:List (List UInt8×List CA)}{n:Nat}{out:Out}{nt:Nat}{rs:List ResultVar}(hf:P.funcs[f]? =some fn)(hres:fn.results=rs.toArray)(hnt:fn.ntmps=nt)(hb:fn.body=some c)(hn:(fn.name== "runtime.NumGoroutine")=false)(hna:Nat.ble ao.length nt=true)(p3:(ao.all fun v=>v.ids.all (jw [81,82,84]))=true)(p4:(cs.all fun a=>a.ids.all (jw [81,82,84]))=true)(p5:([81,82,84].all (jw (out.hp.map (·.1))))=true)(p6:((out.res.ids++out.hp.flatMap fun p=>p.2.ids).all fun i=>jw [81,82,84] i||jw (out.hp.map (·.1)) i)=true)(h:∀(w0:World) (T B:Nat->Prop) (E0:Env),B3 ⟨w0,T,B,nt,E0,fun b=>(lk (zn t cs l t2 size n ag) b).isSome⟩->WP P ⟨w0,T,B,nt,E0,fun b=>(lk (zn t cs l t2 size n ag) b).isSome⟩ c ⟨fun t=>ao[t]?,fun b=>match lk (zn t cs l t2 size n ag) b with|some e=> .ent e|none=> .free⟩ (aZ ⟨w0,T,B,nt,E0,fun b=>(lk (zn t cs l t2 size n ag) b).isSome⟩ P rs out)):ak P f ao (zn t cs l t2 size n ag) out:=by
 have e0:(zn t cs l t2 size n ag).map (·.1)=[81,82,84]:=rfl;have p1:nodupB ((zn t cs l t2 size n ag).map (·.1))=true:=rfl;have e1:(fun b=>((zn t cs l t2 size n ag).lookup b).isSome)=fun b=>(lk (zn t cs l t2 size n ag) b).isSome:=funext fun b=>by rw[gF]
 have e2:jA ao (zn t cs l t2 size n ag)=⟨fun t=>ao[t]?,fun b=>match lk (zn t cs l t2 size n ag) b with|some e=> .ent e|none=> .free⟩:=by
  unfold jA
  congr 1
  funext b
  rw[gF];cases lk (zn t cs l t2 size n ag) b <;> rfl
 have key:∀i,jw [81,82,84] i=true->((zn t cs l t2 size n ag).lookup i).isSome=true:=fun i hi=>by rw[gF];exact nX (fD.1 hi)
 have hm3:∀b e,(b,e)∈zn t cs l t2 size n ag->(b=81/\e= .box t cs)\/(b=82/\e= .abs (iW l))\/(b=84/\e= .row t2 size n ag):=fun b e hb=>by simpa using hb
 refine ak.fnH hf hres hnt hb hn hna (fun b e hb=>by rw[gF];exact agR p1 hb) (fun v hv i hi=>key i (zqh.1 (zqh.1 p3 v hv) i hi)) (fun b e hb i hi=>?_) (fun b e hb=>?_) (fun i hi=>?_) (fun w0 T B E0 hB hH=>?_)
 ·rcases hm3 b e hb with⟨rfl,rfl⟩|⟨rfl,rfl⟩|⟨rfl,rfl⟩
  ·obtain⟨a,ha,hi⟩:=zx9.1 (show i∈cs.flatMap Atom.ids from hi)
   exact key i (zqh.1 (zqh.1 p4 a ha) i hi)
  ·cases hi
  ·cases hi
 ·have hmem:b∈[81,82,84]:=by rw[<-e0];exact zqg.2 ⟨(b,e),hb,rfl⟩
  obtain⟨⟨b',s⟩,hs,rfl⟩:=zqg.1 (fD.1 (zqh.1 p5 b hmem));exact⟨s,hs⟩
 ·have hi':i∈out.res.ids++out.hp.flatMap fun p=>p.2.ids:=by
   rw[zyg];rcases hi with hi|⟨b,e,hb,hi⟩
   ·exact .inl hi
   ·exact .inr (zx9.2 ⟨(b,.ent e),hb,hi⟩)
  have:=zqh.1 p6 i hi';rw[Bool.or_eq_true]at this;rcases this with h|h
  ·exact .inl (key i h)
  ·obtain⟨⟨b',s⟩,hs,rfl⟩:=zqg.1 (fD.1 h);exact .inr ⟨s,hs⟩
 ·rw[e1,e2];refine WP.aZ (h w0 T B E0 fun k hk=>?_)
  obtain⟨b,e,hb,hk⟩:=hB k hk;obtain⟨S,w,hh⟩:=hH b e hb;rcases hm3 b e hb with⟨rfl,rfl⟩|⟨rfl,rfl⟩|⟨rfl,rfl⟩
  ·exact .inl (zy7 hk).symm
  ·obtain⟨r,es,clock,h1,h2,_⟩:=hh;exact .inr (.inl (by
    show E0.sl 82=_;rw[h1,(h2 k).1 hk]))
  ·exact .inr (.inr hk)
def St.anr{n:Nat}{l:List (List UInt8×List CA)}(hB:B3 C)(h81:st.hp 81= .ent (.box t1 cs))(h82:st.hp 82= .ent (.abs (iW l)))(h84:st.hp 84= .ent (.row t2 size2 n2 cells2))(f1:C.fix 81=true)(f2:C.fix 82=true)(f3:C.fix 84=true)(hne:(Nat.beq b 81||Nat.beq b 82||Nat.beq b 84)=false)(hb:st.hp b= .ent (.row t size n ag)):St.le C st (st.frz b size n ag):=
 St.agD (fun E S a w hs k hk=>((hs.blk b _ k hb hk).2).elim (fun hk'=>by
  have n1:b≠81:=fun e=>by subst e;simp at hne
  have n2:b≠82:=fun e=>by subst e;simp at hne
  have n3:b≠84:=fun e=>by subst e;simp at hne
  rcases hB k hk' with h|h|h
  ·refine absurd ?_ (hs.sep b 81 _ _ _ n1 hb h81 hk);show some (E.blk 81)=some k;rw[(hs.env 81 f1).1,h]
  ·refine absurd ?_ (hs.sep b 82 _ _ _ n2 hb h82 hk);obtain⟨r,es,clock,g1,g2,_⟩:=hs.hp 82 _ h82;rw[(hs.env 82 f2).2.1,h]at g1;show E.fp 82 k;rw[g2]
   injection g1 with g1
   exact zy7 g1
  ·refine absurd ?_ (hs.sep b 84 _ _ _ n3 hb h84 hk);show (E.sl 84).ownBlock=some k;rw[(hs.env 84 f3).2.1,h]) id) hb
def WP.al3{Q:Exit->St->Prop}{c:Code}(b:Nat){n:Nat}{l:List (List UInt8×List CA)}(hB:B3 C)(hb:st.hp b= .ent (.row t size n ag))(h81:st.hp 81= .ent (.box t1 cs))(h82:st.hp 82= .ent (.abs (iW l)))(h84:st.hp 84= .ent (.row t2 size2 n2 cells2))(h:WP P C c (st.frz b size n ag) Q)(f1:C.fix 81=true:=by rfl)(f2:C.fix 82=true:=by rfl)(f3:C.fix 84=true:=by rfl)(hne:(Nat.beq b 81||Nat.beq b 82||Nat.beq b 84)=false:=by rfl):WP P C c st Q:=
 WP.weaken (St.anr hB h81 h82 h84 f1 f2 f3 hne hb) h
def aJ.frzM{rs:List ResultVar}{out:Out}(b:Nat){n:Nat}{l:List (List UInt8×List CA)}(hB:B3 C)(hb:st.hp b= .ent (.row t size n ag))(h81:st.hp 81= .ent (.box t1 cs))(h82:st.hp 82= .ent (.abs (iW l)))(h84:st.hp 84= .ent (.row t2 size2 n2 cells2))(h:aJ C P rs out (st.frz b size n ag))(f1:C.fix 81=true:=by rfl)(f2:C.fix 82=true:=by rfl)(f3:C.fix 84=true:=by rfl)(hne:(Nat.beq b 81||Nat.beq b 82||Nat.beq b 84)=false:=by rfl):aJ C P rs out st:=by
 obtain⟨s',hl,hr⟩:=h;exact⟨s',fun a w hs=>hl a w (St.anr hB h81 h82 h84 f1 f2 f3 hne hb a w hs),hr⟩
def ak.bun{r:AV}{ag cells':List Atom}{R R':List (Nat×Ent)}(h:ak P f ao ((b,.box t ag)::R) ⟨r,(b,.ent (.box t cells'))::R'.map fun q=>(q.1,.ent q.2)⟩)(hargs:∀v∈ao,∀i∈v.ids,i=b)(hr:r.ids=[])(hbn:∀e,(b,e)∉R'):
  ak P f ao [(b,.abs (oO b (fun _:Unit=>True) t (fun _=>ag) (fun _=>R)))] ⟨r,[(b,.ent (.abs (oO b (fun _:Unit=>True) t (fun _=>cells') (fun _=>R'))))]⟩:=by
 obtain⟨h0,h⟩:=h;refine⟨h0,fun E S w vs hl hgl hall hpre hblk hsep=>?_⟩
 obtain⟨p,Ep,⟨hs1,hs2⟩,hB⟩:∃(p:Unit) (Ep:Env),(Ep.blk b=E.blk b/\Ep.sl b=E.sl b)/\acZ (fun _:Unit=>True) t (fun _=>ag) (fun _=>R) (E.blk b) (E.fp b) S w p Ep:=hpre b _ (zxi.2 rfl)
 have hX:∀k,E.fp b k->S k:=fun k hk=>hblk b _ k (zxi.2 rfl) hk
 have hmem:∀i e,(i,e)∈(b,Ent.box t ag)::R->(i=b/\e= .box t ag)\/(i,e)∈R:=fun i e hi=>by
  rcases zy3.1 hi with hi|hi
  ·cases hi;exact .inl ⟨rfl,rfl⟩
  ·exact .inr hi
 have hfp:∀i e k,(i,e)∈(b,Ent.box t ag)::R->e.at Ep i k->E.fp b k:=fun i e k hi hk=>by
  rcases hmem i e hi with⟨rfl,rfl⟩|hi
  ·have hk':some (Ep.blk i)=some k:=hk;rw[hs1]at hk';exact(hB.X k).2 (.inl (zy7 hk').symm)
  ·exact(hB.X k).2 (.inr ⟨i,e,hi,hk⟩)
 have hv:aM (AV.has Ep S w) ao vs:=hall.mono fun a v ha hav=>hav.step (fun i hi=>by rw[hargs a ha i hi];exact⟨hs1,hs2⟩) (Off.refl S w) (fun k hk=> .inl hk)
 refine(h Ep S w vs hl hgl hv (fun i e hi=>?_) (fun i e k hi hk=>hX k (hfp i e k hi hk)) (fun i i' e e' k hne hi hi' hk hk'=>?_)).mono fun e w' ⟨v,E2,S2,he,hE⟩=>?_
 ·rcases hmem i e hi with⟨rfl,rfl⟩|hi
  ·obtain⟨cs,g1,g2⟩:=hB.box;exact⟨cs,by rw[hs1];exact g1,g2⟩
  ·exact hB.ents i e hi
 ·rcases hmem i e hi with⟨e1,rfl⟩|hm
  ·rcases hmem i' e' hi' with⟨e2,rfl⟩|hm'
   ·exact hne (e1.trans e2.symm)
   ·have hk1:some (Ep.blk i)=some k:=hk;rw[e1,hs1]at hk1;exact hB.sepb i' e' hm' ((zy7 hk1)▸hk')
  ·rcases hmem i' e' hi' with⟨e2,rfl⟩|hm'
   ·have hk1:some (Ep.blk i')=some k:=hk';rw[e2,hs1]at hk1;exact hB.sepb i e hm ((zy7 hk1)▸hk)
   ·exact hB.sep i i' e e' k hne hm hm' hk hk'
 ·have hb2:Ep.at' E2 b:=hE.env b fun _=>⟨_,zq9⟩
  have hq:∀i e,(i,e)∈R'->(i,Slot.ent e)∈(b,Slot.ent (.box t cells'))::R'.map fun q=>(q.1,Slot.ent q.2):=fun i e hi=>zy2 _ (zqg.2 ⟨(i,e),hi,rfl⟩)
  have hbb:some (E2.blk b)=some (E.blk b):=by rw[hb2.1,hs1]
  have hfp2:∀k,(∃i e,(i,e)∈(b,Ent.box t ag)::R/\e.at Ep i k)->∃i e,(i,e)∈[(b,Ent.abs (oO b (fun _:Unit=>True) t (fun _=>ag) (fun _=>R)))]/\e.at E i k:=fun k ⟨i,e,hi,hk⟩=>⟨b,_,zxi.2 rfl,hfp i e k hi hk⟩
  have hX':∀k,(k=E.blk b\/∃i e,(i,e)∈R'/\e.at E2 i k)->S2 k/\((∃i e,(i,e)∈[(b,Ent.abs (oO b (fun _:Unit=>True) t (fun _=>ag) (fun _=>R)))]/\e.at E i k)\/w.heap.size<=k):=fun k hk=>by
   rcases hk with rfl|⟨i,e,hi,hk⟩
   ·have:=hE.blk b _ (E.blk b) zq9 hbb;exact⟨this.1,this.2.imp (hfp2 _) id⟩
   ·have:=hE.blk i e k (hq i e hi) hk;exact⟨this.1,this.2.imp (hfp2 _) id⟩
  have hone:∀i e',(i,Slot.ent e')∈[(b,Slot.ent (Ent.abs (oO b (fun _:Unit=>True) t (fun _=>cells') (fun _=>R'))))]->i=b/\e'= .abs (oO b (fun _:Unit=>True) t (fun _=>cells') (fun _=>R')):=fun i e' hi=>by simpa using hi
  refine⟨v,⟨E.blk,E.sl,upd E.fp b fun k=>k=E.blk b\/∃i e,(i,e)∈R'/\e.at E2 i k⟩,S2,he,
   {env:=fun i _=>⟨rfl,rfl⟩,fpe:=fun i hi=>upd_ne _ _ fun e=>hi (.ent (.abs (oO b (fun _:Unit=>True) t (fun _=>cells') (fun _=>R')))) (by simp[e]),sub:=hE.sub,new:=hE.new,lt:=hE.lt,off:=hE.off.mono hfp2,
    res:=hE.res.step (fun i hi=>by rw[hr]at hi;cases hi) (Off.refl _ _) (fun k hk=> .inl hk),ents:=fun i e' hi=>?_,blk:=fun i e' k hi hk=>?_,sep:=fun i i' e1 e2 k hne h1 h2=>?_}⟩
  ·obtain⟨rfl,rfl⟩:=hone i e' hi;show (oO i (fun _:Unit=>True) t (fun _=>cells') (fun _=>R')).has (E.blk i) (E.sl i) (upd E.fp i _ i) S2 w'
   rw[upd_same];obtain⟨cs,g1,g2⟩:=hE.ents i _ zq9;refine⟨(),E2,⟨hb2.1.trans hs1,hb2.2.trans hs2⟩,{φ:=trivial,box:=⟨cs,by rw[<-zy7 hbb];exact g1,g2⟩,ents:=fun j e hj=>hE.ents j e (hq j e hj),sep:=fun j j' e e' k hne hj hj'=>hE.sep j j' e e' k hne (hq j e hj) (hq j' e' hj'),sepb:=fun j e hj hk=>?_,X:=fun k=>Iff.rfl}⟩
   by_cases hji:j=i
   ·subst hji;exact hbn e hj
   ·exact hE.sep i j _ e (E.blk i) (fun e=>hji e.symm) zq9 (hq j e hj) hbb hk
  ·obtain⟨rfl,rfl⟩:=hone i e' hi;have hk':upd E.fp i _ i k:=hk;rw[upd_same]at hk';exact hX' k hk'
  ·obtain⟨rfl,_⟩:=hone _ _ h1;obtain⟨rfl,_⟩:=hone _ _ h2;exact absurd rfl hne
def auW:AV0->AV0
 | .one (.clo f [])=> .one (.c (.val (.func (.func f) #[] #[])))
 |x=>x
def asc{x:AV0}(h:x.has E S w v):(auW x).has E S w v:=by
 unfold auW
 split
 ·exact h
 ·exact h
def ahi{E:Env}{S:Nat->Prop}{w:World}:∀{l:List (Nat×AV0)} {us:List (Nat×Value)},aM (fun p q=>p.1=q.1/\p.2.has E S w q.2) l us->aM (fun p q=>p.1=q.1/\p.2.has E S w q.2) (l.map fun p=>(p.1,auW p.2)) us
 |[],[],_=>trivial
 |_::_,_::_,h=>⟨⟨h.1.1,asc h.1.2⟩,ahi h.2⟩
 |[],_::_,h=>h.elim
 |_::_,[],h=>h.elim
section
variable{P:Program}{C:Ctx}{st:St}
variable{ae aa:List Oper}{ab:List (List Nat×List Nat)}{K:List (List Nat×List Nat)->St->Prop}{an:Option Tmp}{d:Tmp}{ty t:TypeId}
def akw{o:Oper}{st':St}{a:Act}{n:Nat}{parts:Array (Nat×Operand)}{ps:List (Nat×AV0)}{m:List CA}[ht:bF P t e size][he:eZ P e zs bytes](hs:nZ C st' E S a w)(h3:o.op= .buildSlice t n parts){ps0:List (Nat×AV0)}(hp':evp st' parts.toList=some ps0)(hps:ps0.map (fun p=>(p.1,auW p.2))=ps)(h1:(ps.all fun p=>p.2.cells.all Atom.dN&&Nat.blt p.1 n)=true)(hn:Nat.ble (n*size) 16777216=true)(hfl:gq (placesOf n size) ((madeCells zs.toArray (n*size)).toList.map fun v=>Atom.c (.val v)) ps=some l)(hc:aV l=some m)(hm:Nat.beq m.length (n*size)=true):
  ∃us:List Value,(execOp a.eval o).run P w= .ok (.value (.slice (some ⟨w.heap.size,0,none⟩) n n)) (w.alloc (.cells us.toArray e))/\us.length=n*size/\aM (CA.has S w) m us/\n<=maxLen:=by
  obtain⟨hall0,hids⟩:=zD hs hp';have hall:=ahi hall0;rw[hps]at hall;obtain⟨i,z,hi,hz,hcz,hsz,hby⟩:=ru he ht.s;rw[zqh]at h1;rw[zva]at hn;obtain⟨us,hfill,hus⟩:=u7 (w:=w) (cs:=(madeCells zs.toArray (n*size)).toList) hall (fun p hp=>by have:=h1 p hp;simp only[zx4]at this;exact this.1) (lG _) hfl
  have hlen:us.length=n*size:=by
   have h6:=hus.length;rw[dU hc]at h6;simp at h6
   have:=Nat.eq_of_beq_eq_true hm;omega
  have hqi:∀q∈parts.toList.map (fun x=>(x.1,a.eval x.2)),(fun i=>(placesOf n size)[i]?) q.1=(fun i=>some (i*size,size)) q.1:=by
   intro q hq;obtain⟨j,hj⟩:=List.mem_iff_getElem?.1 hq;obtain⟨p,hpj,hpq,_⟩:=hall.get' hj;have:=h1 p (zq4 hpj);simp only[zx4,Nat.blt_eq]at this;have hlt:q.1 < n:=by rw[<-hpq];exact this.2
   simp[placesOf,hlt]
  rw[rU (p:=fun i=>(placesOf n size)[i]?) (p':=fun i=>some (i*size,size)) _ _ hqi]at hfill
  refine⟨us,?_,hlen,jq (by rw[<-dU hc];exact hus),?_⟩
  ·unfold execOp;rw[h3];have hparts:(parts.map fun x=>(x.1,a.eval x.2)).toList=parts.toList.map fun x=>(x.1,a.eval x.2):=by simp
   have hgt:¬n*size > 2 ^ 24:=zE
   simp only[Instr.buildSlice,Sem.run_bind,run_underlying ht.h,Result.andThen_ok,run_sizeOf ht.s,hparts];rw[if_neg hgt];by_cases h0:n*size=0
   ·have he0:(madeCells zs.toArray (n*size)).toList.toArray=(Array.range (n*size)).map ((#[]:Array Value)[· % (#[]:Array Value).size]!):=by rw[h0];simp[madeCells]
    rw[he0]at hfill;rw[if_pos h0];simp only[Sem.run_bind,Sem.run_pure,Result.andThen_ok];rw[hfill];simp[newRow]
   ·have he0:(madeCells zs.toArray (n*size)).toList.toArray=(Array.range (n*size)).map (zs.toArray[· % zs.toArray.size]!):=by rw[Array.toArray_toList];rfl
    rw[he0]at hfill;rw[if_neg h0];simp only[Sem.run_bind,Sem.run_pure,Result.andThen_ok,zeroValue,typeInfo,run_program,hi,hz,hcz];rw[hfill];simp[newRow]
  ·by_cases h0:n=0
   ·subst h0;simp[maxLen]
   ·have:=ht.p;have h7:n*1<=n*size:=zx8 _ this;simp only[maxLen];omega
def Go1.aiU{an:Option Tmp}{n:Nat}{parts:Array (Nat×Operand)}{ps:List (Nat×AV0)}{m:List CA}[ht:bF P t e size][he:eZ P e zs bytes](hd:aC an C.nt=true){ps0:List (Nat×AV0)}(hp:evp st parts.toList=some ps0)(hps:ps0.map (fun p=>(p.1,auW p.2))=ps)(h1:(ps.all fun p=>p.2.cells.all Atom.dN&&Nat.blt p.1 n)=true)(hn:Nat.ble (n*size) 16777216=true)(hfl:gq (placesOf n size) ((madeCells zs.toArray (n*size)).toList.map fun v=>Atom.c (.val v)) ps=some l)(hc:aV l=some m)(hm:Nat.beq m.length (n*size)=true)(ai:Reg P C ae aa (st.app an ⟨.r (aP size n m),[]⟩) (([],[])::ab) K):Go1 P C ae an (.buildSlice t n parts) ty aa st ab K:=by
 refine⟨[],⟨.r (aP size n m),[]⟩,fun o h2 h3 h4=>aT.eff [] [] (fun b hb=>?_) (h2▸dP hd) (fun b e hb=>by cases hb) (fun b e hb=>by cases hb) (fun b s hb=>by cases hb) (fun b s hb=>by cases hb) (fun st' E S a w hev hhp hs _ _=>?_),ai⟩
 ·rcases hb with⟨e,hb⟩|⟨e,hb⟩|⟨s,hb⟩ <;> cases hb
 ·have hp':evp st' parts.toList=some ps0:=by
   rw[nU (fun x hx=>hev x.2 (by rw[h3];simp[Op.operands];exact⟨x.1,by simpa using hx⟩))];exact hp
  obtain⟨us,hrun,hlen,hall,hmx⟩:=akw (ht:=ht) (he:=he) hs h3 hp' hps h1 hn hfl hc hm;refine⟨⟨fun i hi=>(by cases hi),fun b e hb=>by cases hb⟩,fun K Q hK=>?_⟩
  unfold Oper.wp;rw[hrun];refine hK _ _ E S {env:=fun _ _=>⟨rfl,rfl⟩,fpe:=fun _ _=>rfl,sub:=fun _ h=>h,new:=fun _ h=> .inl h,lt:=fun k hk=>zqf (hs.lt k hk) zp,off:=Off.alloc _ _ _,res:=?_,ents:=fun _ _ h=>(by cases h),blk:=fun _ _ _ h=>(by cases h),sep:=fun _ _ _ _ _ _ h=>(by cases h)}
  refine bQ.2 ⟨_,_,rfl,zq6 _,hmx,(fun h=>by cases h),(by rw[hall.length,hlen]),fun i c hc=>?_⟩
  obtain⟨u,hu,huc⟩:=hall.get hc;refine⟨w.heap.size,0,u,rfl,fun hS=>absurd (hs.lt _ hS) (Nat.lt_irrefl _),?_,huc.step (Off.alloc _ _ _) (fun k hk=> .inl hk)⟩
  have hcell:=cells_of_block (heap_alloc_new w (.cells us.toArray e)) 0 i u (by simpa using hu)
  simpa[Addr.add_lit]using hcell
end
end
end
section
open Go Go.RowKit Go.ChangeShapes Go.WideShapes Go.ChangeAt Go.Joins
section
variable{H:Type}{enc:TypeId×Value->H}{P:Program}{W:World}{base:Nat}{sp:Nat->Bool}{hd:Bool}
end
end
end SX
namespace Go.Proofs.YtcamgbgfelmbaaaGreatDoor
namespace FM
def ch:Nat->Nat->Nat
 |_,0=>1
 |0,_+1=>0
 |n+1,k+1=>ch n k+ch n (k+1)
def xS(n:Nat):ch n 0=1:=by cases n <;> rfl
def aeV:∀{n k:Nat},n < k->ch n k=0
 |0,k+1,_=>rfl
 |n+1,k+1,h=>by
  unfold ch;rw[aeV (show n < k by omega),aeV (show n < k+1 by omega)]
def amQ:∀n:Nat,ch n n=1
 |0=>rfl
 |n+1=>by unfold ch;rw[amQ n,aeV (Nat.lt_succ_self n)]
def agx:∀n k:Nat,(k+1)*ch (n+1) (k+1)=(n+1)*ch n k
 |0,0=>rfl
 |0,k+1=>by
  rw[aeV (show 0+1 < k+1+1 by omega),aeV (show 0 < k+1 by omega)];rfl
 |n+1,0=>by
  have ih:=agx n 0;show (0+1)*(ch (n+1) 0+ch (n+1) (0+1))=_;rw[Nat.mul_add,ih,xS,xS];omega
 |n+1,k+1=>by
  have i1:=agx n (k+1);have i2:=agx n k;have e1:ch (n+1+1) (k+1+1)=ch (n+1) (k+1)+ch (n+1) (k+1+1):=rfl;have e2:ch (n+1) (k+1)=ch n k+ch n (k+1):=rfl;rw[e1,Nat.mul_add,i1];have e3:(k+1+1)*ch (n+1) (k+1)=(n+1)*ch n k+ch (n+1) (k+1):=by rw[<-i2,zv8 (k+1)]
  rw[e3];have e4:(n+1)*ch n k+(n+1)*ch n (k+1)=(n+1)*ch (n+1) (k+1):=by rw[e2,Nat.mul_add]
  have e5:(n+1+1)*ch (n+1) (k+1)=(n+1)*ch (n+1) (k+1)+ch (n+1) (k+1):=zv8 _ _;omega
def bs(f:Nat->Nat):Nat->Nat
 |0=>0
 |m+1=>bs f m+f m
def agP(f:Nat->Nat)(m:Nat):bs f (m+1)=bs f m+f m:=rfl
def aiz{f g:Nat->Nat}:∀{m:Nat},(∀k,k < m->f k=g k)->bs f m=bs g m
 |0,_=>rfl
 |m+1,h=>by unfold bs;rw[aiz fun k hk=>h k zE,h m zE]
def aqI(f g:Nat->Nat):∀m,bs (fun k=>f k+g k) m=bs f m+bs g m
 |0=>rfl
 |m+1=>by unfold bs;rw[aqI f g m];omega
def auR(a:Nat)(f:Nat->Nat):∀m,bs (fun k=>a*f k) m=a*bs f m
 |0=>rfl
 |m+1=>by unfold bs;rw[auR a f m,Nat.mul_add]
def yO(f:Nat->Nat):∀m,bs f (m+1)=f 0+bs (fun k=>f (k+1)) m
 |0=>by unfold bs bs;omega
 |m+1=>by
  have:=yO f m;rw[agP f (m+1),agP (fun k=>f (k+1)) m]
  omega
def asL(a:Nat):∀n,bs (fun k=>ch n k*a ^ k) (n+1)=(a+1) ^ n
 |0=>by unfold bs bs;rfl
 |n+1=>by
  rw[yO];have e1:bs (fun k=>ch (n+1) (k+1)*a ^ (k+1)) (n+1)=bs (fun k=>a*(ch n k*a ^ k)+ch n (k+1)*a ^ (k+1)) (n+1):=aiz fun k _=>by
   show (ch n k+ch n (k+1))*a ^ (k+1)=_;rw[zy5,zyf,<-Nat.mul_assoc,zxj (ch n k*a ^ k) a]
  rw[e1,aqI,auR,asL a n];have e2:=yO (fun k=>ch n k*a ^ k) (n+1)
  have e3:bs (fun k=>ch n k*a ^ k) (n+1+1)=(a+1) ^ n:=by
   show bs (fun k=>ch n k*a ^ k) (n+1)+ch n (n+1)*a ^ (n+1)=_
   rw[asL a n,aeV (Nat.lt_succ_self n),zw3,zvi]
  rw[e3]at e2;have e4:ch (n+1) 0*a ^ 0=ch n 0*a ^ 0:=by rw[xS,xS]
  rw[e4,zyf,Nat.mul_add,Nat.mul_one,zxj ((a+1) ^ n) a];have e2':(a+1) ^ n=ch n 0*a ^ 0+bs (fun k=>ch n (k+1)*a ^ (k+1)) (n+1):=e2
  omega
section
variable{p:Nat}(hp:∀d,d ∣ p->d=1\/d=p)(h2:2<=p)
include hp h2
theorem cop{a:Nat}(ha:¬p ∣ a):Nat.Coprime p a:=by
 rcases hp (Nat.gcd p a) (Nat.gcd_dvd_left p a)with h|h
 ·exact h
 ·exact absurd (h▸Nat.gcd_dvd_right p a) ha
theorem p_ch{k:Nat}(h1:1<=k)(hk:k < p):p ∣ ch p k:=by
 obtain⟨n,rfl⟩:∃n,p=n+1:=⟨p - 1,zE⟩
 obtain⟨j,rfl⟩:∃j,k=j+1:=⟨k - 1,zE⟩
 have h:=agx n j;have hd:(n+1) ∣ (j+1)*ch (n+1) (j+1):=⟨ch n j,h⟩;exact(cop hp h2 (fun h=>absurd (Nat.le_of_dvd zE h) zE)).dvd_of_dvd_mul_left hd
theorem p_bs{a:Nat}:∀m,m < p->p ∣ bs (fun k=>ch p (k+1)*a ^ (k+1)) m
 |0,_=>⟨0,rfl⟩
 |m+1,h=>by
  unfold bs;exact Nat.dvd_add (p_bs m zE) (Nat.dvd_trans (p_ch hp h2 zE h) ⟨_,rfl⟩)
theorem frob(a:Nat):(a+1) ^ p % p=(a ^ p+1) % p:=by
 rw[<-asL a p,yO,xS];obtain⟨n,hn⟩:∃n,p=n+1:=⟨p - 1,zE⟩
 have e:bs (fun k=>ch p (k+1)*a ^ (k+1)) p=bs (fun k=>ch p (k+1)*a ^ (k+1)) n+a ^ p:=by
  have e2:=agP (fun k=>ch p (k+1)*a ^ (k+1)) n
  rw[<-hn]at e2;rw[e2,amQ,Nat.one_mul]
 rw[e];obtain⟨q,hq⟩:=p_bs hp h2 (a:=a) n zE
 rw[hq,show 1*a ^ 0+(p*q+a ^ p)=(a ^ p+1)+p*q by rw[Nat.pow_zero];omega,Nat.add_mul_mod_self_left]
theorem ahD:∀a:Nat,a ^ p % p=a % p
 |0=>by rw[Nat.zero_pow zE]
 |a+1=>by rw[frob hp h2,Nat.add_mod,ahD a,<-Nat.add_mod]
theorem a0r{a:Nat}(ha:¬p ∣ a):a ^ (p - 1) % p=1:=by
 have h:=ahD hp h2 a;have e:a ^ p=a ^ (p - 1)*a:=by rw[<-zyf];congr 1;omega
 have hpos:1<=a ^ (p - 1):=Nat.pow_pos (Nat.pos_of_ne_zero fun h0=>ha (h0▸⟨0,rfl⟩))
 have hd:p ∣ (a ^ (p - 1) - 1)*a:=by
  have:p ∣ a ^ p - a:=Nat.dvd_of_mod_eq_zero (Nat.sub_mod_eq_zero_of_mod_eq h);rw[Nat.sub_mul,Nat.one_mul,<-e];exact this
 have hq:=(cop hp h2 ha).dvd_of_dvd_mul_right hd;obtain⟨q,hq⟩:=hq;have:a ^ (p - 1)=1+p*q:=zE
 rw[this,Nat.add_mul_mod_self_left,zw4 zE]
end
end FM
end Go.Proofs.YtcamgbgfelmbaaaGreatDoor
namespace SX
open Go Go.RowKit
variable{C:SX.Ctx}{js l:List Nat}{am b c g i o u:Nat}{st:SX.St}{e tI tO:Go.TypeId}{w:Go.World}
section
def wdL(l:List Nat):List Value:=l.map fun x:Nat=>Value.int .u64 (x:Int)
def kE(tI:TypeId)(g am:Nat)(l:List Nat):kL where
 has _ _ X S w:=(∀k,X k↔(0 < l.length/\k=g))/\(0 < l.length->w.ownsRow 0 tI 1 (.slice (some ⟨g,0,none⟩) l.length am) l.length (wdL l))
 step:=fun {b v X S S' w w'} h ho hs hX=>⟨h.1,fun h0=>eD (h.2 h0) fun k hk=>by
  have hk:some g=some k:=hk;exact hX k ((h.1 k).2 ⟨h0,(zy7 hk).symm⟩)⟩
def hdV(g am n j:Nat):Value:= .slice (some ⟨g,j*n,none⟩) n (am - j*n)
def hdC(g am n j:Nat):List CA:=[.val (hdV g am n j)]
instance{g am n:Nat}:dY (hdC g am n) 1:=⟨fun _=>rfl⟩
def alK{S:Nat->Prop}{w:World}{g am n:Nat}:∀js:List Nat,aM (CA.has S w) (js.flatMap (hdC g am n)) (js.map (hdV g am n))
 |[]=>trivial
 |j::js=>⟨rfl,alK js⟩
def aqb{S:Nat->Prop}{w:World}{g am n:Nat}:∀{js:List Nat} {vs:List Value},aM (CA.has S w) (js.flatMap (hdC g am n)) vs->vs=js.map (hdV g am n)
 |[],[],_=>rfl
 |[],_::_,h=>h.elim
 |_::_,[],h=>h.elim
 |j::js,v::vs,h=>by
  have h1:v=hdV g am n j:=h.1;rw[h1,aqb (js:=js) (vs:=vs) h.2];rfl
structure agh(tO tI:TypeId)(n:Nat)(js l:List Nat)(v:Value)(X:Nat->Prop)(w:World)(g am:Nat):Prop where
 out:w.ownsRow 0 tO 1 v js.length (js.map (hdV g am n))
 inn:0 < l.length->w.ownsRow 0 tI 1 (.slice (some ⟨g,0,none⟩) l.length am) l.length (wdL l)
 sep:0 < l.length->v.ownBlock≠some g
 X:∀k,X k↔(v.ownBlock=some k\/(0 < l.length/\k=g))
def ad3(tO tI:TypeId)(n:Nat)(js l:List Nat):kL where
 has _ v X S w:=∃g am,agh tO tI n js l v X w g am
 step:=fun {b v X S S' w w'} ⟨g,am,h⟩ ho hs hX=>⟨g,am,eD h.out fun k hk=>hX k ((h.X k).2 (.inl hk)),fun h0=>eD (h.inn h0) fun k hk=>by
  have hk:some g=some k:=hk;exact hX k ((h.X k).2 (.inr ⟨h0,(zy7 hk).symm⟩)),h.sep,h.X⟩
section
variable{P:Program}{C:Ctx}{st:St}
variable{ae aa:List Oper}{ab:List (List Nat×List Nat)}{K:List (List Nat×List Nat)->St->Prop}{an:Option Tmp}{d:Tmp}{op:Op}{ty t t':TypeId}{x y z:Operand}{k k':IntKind}
def Go1.ayA{n j:Nat}[ht:bF P t e 1](hd:aC an C.nt=true)(hx:st.ev x=some (.v (.slice (some ⟨g,0,none⟩) n am)))(hy:st.ev y=some (.v (.int k (i:Int))))(hz:st.ev z=some (.v (.int k' (j:Int))))(h1:i<=j)(h2:j<=am)(h3:i < am)(ai:Reg P C ae aa (st.app an ⟨.v (.slice (some ⟨g,i,none⟩) (j - i) (am - i)),[]⟩) (([],[])::ab) K):Go1 P C ae an (.slice t x (some y) (some z) none) ty aa st ab K:=
 Go1.dz [] [] zp hd zp (fun oo ho _ st' E S a w hev hs _=>by
  have hxv:a.eval x= .slice (some ⟨g,0,none⟩) n am:=(hs.ev ((hev x (by simp[ho,Op.operands])).trans hx)).1
  have hyv:a.eval y= .int k (i:Int):=(hs.ev ((hev y (by simp[ho,Op.operands])).trans hy)).1
  have hzv:a.eval z= .int k' (j:Int):=(hs.ev ((hev z (by simp[ho,Op.operands])).trans hz)).1
  refine⟨fun i hi=>(by cases hi),.slice (some ⟨g,i,none⟩) (j - i) (am - i),?_,rfl⟩
  unfold execOp;rw[ho];simp only[Option.map_some,Option.map_none,hxv,hyv,hzv];have hr:=sP (a:=some ⟨g,0,none⟩) ht.h ht.s (ao8 (P:=P) (w:=w) (b:=true) (n:=n) (am:=am) (k:=k) (k':=k') (show (0:Int)<=(i:Int)by omega) (show (i:Int)<=(j:Int)by omega) (show (j:Int)<=(am:Int)by omega))
  simp only[zw8]at hr;rw[if_neg zE]at hr
  simp[hr,Addr.add]
  try omega) ai
def Go1.amu[ht:iT P t](hd:aC an C.nt=true)(hx:st.ev x=some (.v (.pointer (some ⟨g,o,none⟩))))(hb:st.hp b= .ent (.abs (kE tI g am l)))(hq:l[o]? =some u)(ai:Reg P C ae aa (st.app an ⟨.v (.int .u64 (u:Int)),[]⟩) (([b],[])::ab) K):Go1 P C ae an (.load t x) ty aa st ab K:=
 Go1.dz [(b,.abs (kE tI g am l))] [b] (fun c e' hc=>by simp at hc;simp[hc.1]) hd (fun c e' hc=>by simp at hc;obtain⟨rfl,rfl⟩:=hc;exact hb) (fun oo ho _ st' E S a w hev hs hrd=>by
  have hv:a.eval x= .pointer (some ⟨g,o,none⟩):=(hs.ev ((hev x (by simp[ho,Op.operands])).trans hx)).1
  have hh:(∀k,E.fp b k↔(0 < l.length/\k=g))/\(0 < l.length->w.ownsRow 0 tI 1 (.slice (some ⟨g,0,none⟩) l.length am) l.length (wdL l)):=hs.hp b _ (hrd b _ zq9);have h0:0 < l.length:=by
   rcases zye l.length with h|h
   ·rw[zx5 h]at hq;cases hq
   ·exact h
  have hcell:=(hh.2 h0).cells (g:=g) rfl;have g2:=hcell o (.int .u64 (u:Int)) (by unfold wdL;rw[zqa,hq];rfl)
  refine⟨fun j hj=>(by cases hj),.int .u64 (u:Int),?_,rfl⟩
  unfold execOp;rw[ho];have g2':w.cell? ⟨g,o,none⟩=some (.int .u64 (u:Int)):=by simpa[Addr.add_lit]using g2
  simp[hv,Instr.loadAt,Instr.sureAddr,loadVar,ig ht.h,g2']) ai
def Go1.agV(hs:(P.info? t).map (·.size)=some 1)(hx:st.ev x=some (.v (.pointer (some ⟨g,o,none⟩))))(hy:st.ev y=some (.v (.int .u64 (u:Int))))(hb:st.hp b= .ent (.abs (kE tI g am l)))(hq:o < l.length)(ai:Reg P C ae aa (st.app none ⟨.v undef,[(b,.ent (.abs (kE tI g am (l.set o u))))]⟩) (([b],[b])::ab) K):Go1 P C ae none (.store t x y) ty aa st ab K:=by
 refine⟨[b],⟨.v undef,[(b,.ent (.abs (kE tI g am (l.set o u))))]⟩,fun o' h2 h3 h4=>aT.eff [] [(b,.abs (kE tI g am l))] (fun i hi=>?_) (h2▸(fun x hx=>by cases hx)) (fun b e hb=>by cases hb) (fun i e hi=>?_) (fun i s hi=>?_) (fun i s hi=>?_) (fun st' E S a w hev hhp hse _ hpre=>?_),ai⟩
 ·rcases hi with⟨e,hi⟩|⟨e,hi⟩|⟨s,hi⟩
  ·cases hi
  ·simp at hi;simp[hi.1]
  ·simp at hi;simp[hi.1]
 ·simp at hi
  obtain⟨rfl,rfl⟩:=hi;exact⟨hb,_,by simp;rfl⟩
 ·simp at hi;obtain⟨rfl,_⟩:=hi;exact .inl ⟨_,by simp;rfl⟩
 ·simp at hi;rw[hi.2];rfl
 ·have hv:a.eval x= .pointer (some ⟨g,o,none⟩):=(hse.ev ((hev x (by simp[h3,Op.operands])).trans hx)).1
  have hyv:a.eval y= .int .u64 (u:Int):=(hse.ev ((hev y (by simp[h3,Op.operands])).trans hy)).1
  have hb':=hpre b (.abs (kE tI g am l)) zp
  have hh:(∀k,E.fp b k↔(0 < l.length/\k=g))/\(0 < l.length->w.ownsRow 0 tI 1 (.slice (some ⟨g,0,none⟩) l.length am) l.length (wdL l)):=hse.hp b _ hb';have h0:0 < l.length:=zE
  have hX:∀k,E.fp b k->S k:=fun k hk=>(hse.blk b _ k hb' hk).1
  obtain⟨cs,hrun,hown,hlt⟩:=aav (P:=P) (t:=t) (m:=1) (size:=1) (off:=o) (u:= .int .u64 (u:Int)) (us:=[.int .u64 (u:Int)]) hs (hh.2 h0) rfl rfl rfl (fun x hx=>by rw[zxi.1 hx];rfl) zE
  have hg:E.fp b g:=(hh.1 g).2 ⟨h0,rfl⟩;refine⟨⟨fun i hi=>(by cases hi),fun i e hi j hj=>?_⟩,fun K Q hK=>?_⟩
  ·simp at hi
   obtain⟨rfl,rfl⟩:=hi;cases hj
  ·unfold Oper.wp execOp;rw[h3];simp only[show a.eval x=_ from hv,show a.eval y=_ from hyv,Instr.storeAt,Instr.sureAddr,Sem.run_bind,Sem.run_pure,Result.andThen_ok,hrun]
   refine hK undef _ _ _ (Eff.tX hse.lt hX hg ?_);refine⟨fun k=>by rw[zvf];exact hh.1 k,fun _=>?_⟩
   rw[zvf];have e:wdL (l.set o u)=spl (wdL l) o [.int .u64 (u:Int)]:=(yj (fun x:Nat=>Value.int .u64 (x:Int)) l o u hq).symm
   rw[e];exact hown
def G.idxV{n:Nat}[ht:bF P t e 1](ai:Reg P C ae aa (st.app an ⟨.v (.pointer (some ⟨g,o+i,none⟩)),[]⟩) (([],[])::ab) K)(hd:aC an C.nt=true:=by rfl)(hx:st.ev x=some (.v (.slice (some ⟨g,o,none⟩) n am)):=by rfl)(hy:st.ev y=some (.v (.int k (i:Int))):=by rfl)(hi:i < n:=by first|assumption|omega):Go1 P C ae an (.indexAddr t x y) ty aa st ab K:=
 Go1.dz [] [] zp hd zp (fun oo ho _ st' E S a w hev hs _=>by
  have hxv:a.eval x= .slice (some ⟨g,o,none⟩) n am:=(hs.ev ((hev x (by simp[ho,Op.operands])).trans hx)).1
  have hyv:a.eval y= .int k (i:Int):=(hs.ev ((hev y (by simp[ho,Op.operands])).trans hy)).1
  have hsz:=run_sizeOf ht.s w;refine⟨fun i hi=>(by cases hi),.pointer (some ⟨g,o+i,none⟩),?_,rfl⟩
  unfold execOp;rw[ho];simp[hxv,hyv,Instr.indexAt,asIntOf,run_underlying ht.h,hsz,Addr.add,hi]) ai
def G.amu{tI:TypeId}(b:Nat){g am o u:Nat}{l:List Nat}[ht:iT P t](ai:Reg P C ae aa (st.app an ⟨.v (.int .u64 (u:Int)),[]⟩) (([b],[])::ab) K)(hd:aC an C.nt=true:=by rfl)(hx:st.ev x=some (.v (.pointer (some ⟨g,o,none⟩))):=by rfl)(hb:st.hp b= .ent (.abs (kE tI g am l)):=by rfl)(hq:l[o]? =some u:=by assumption):Go1 P C ae an (.load t x) ty aa st ab K:=
 Go1.amu hd hx hb hq ai
def G.agV{tI:TypeId}(b:Nat){g am o u:Nat}{l:List Nat}(ai:Reg P C ae aa (st.app none ⟨.v undef,[(b,.ent (.abs (kE tI g am (l.set o u))))]⟩) (([b],[b])::ab) K)(hs:(P.info? t).map (·.size)=some 1:=by kernel_rfl)(hx:st.ev x=some (.v (.pointer (some ⟨g,o,none⟩))):=by rfl)(hy:st.ev y=some (.v (.int .u64 (u:Int))):=by rfl)(hb:st.hp b= .ent (.abs (kE tI g am l)):=by rfl)(hq:o < l.length:=by first|assumption|omega|(rw[zvf];first|assumption|omega)):Go1 P C ae none (.store t x y) ty aa st ab K:=
 Go1.agV hs hx hy hb hq ai
end
def goW{p q:Prop}(h:q)(k:HeldM q->p:=by
  intro h;repeat(first|refine zg ?_|refine SX.G.idxV ?_|refine SX.G.lenV ?_|refine SX.G.amu 93 ?_|refine SX.G.amu 94 ?_|refine SX.G.agV 93 ?_|refine SX.G.agV 94 ?_)
  exact h.out):p:=k ⟨h⟩
end
def koA(b:Nat)(u:Value):Atom->Atom
 | .own c=>match Nat.beq c b with
  |true=> .c (.val u)
  |false=> .own c
 |a=>a
def atO(st:St)(b:Nat)(u:Value)(A:kL):St:=
 ⟨fun t=>match st.tm t with|some v=>some (v.mp (koA b u))|none=>none,upd (fun c=>(st.hp c).mp (koA b u)) b (.ent (.abs A))⟩
def alV(b:Nat)(u:Value)(a:Atom):∀i∈(koA b u a).ids,i∈a.ids:=by
 intro i hi;cases a with
 |own c=>
  unfold koA at hi;cases h:Nat.beq c b with
  |true=>simp only[h]at hi;cases hi
  |false=>simp only[h]at hi;exact hi
 |_=>exact hi
def ana{E:Env}{S:Nat->Prop}(a:Atom)(v:Value)(h:Atom.has E S w a v):(koA b (E.sl b) a).has E S w v:=by
 cases a with
 |own c=>
  show Atom.has E S w (match Nat.beq c b with|true=> .c (.val (E.sl b))|false=> .own c) v
  cases hc:Nat.beq c b with
  |true=>
   obtain rfl:c=b:=Nat.eq_of_beq_eq_true hc;exact h.1
  |false=>exact h
 |_=>exact h
def Sat.arq{a:Act}{n:Nat}{ag:List CA}(h:Sat C st a w)(hb:st.hp b= .ent (.row tI 1 n ag))(hn:n=l.length)(hc:∀S w vs,aM (CA.has S w) ag vs->vs=wdL l):
  ∃u g am,(0 < l.length->u= .slice (some ⟨g,0,none⟩) l.length am/\l.length<=am)/\Sat C (atO st b u (kE tI g am l)) a w:=by
 obtain⟨E,S,hs⟩:=h;obtain⟨vs,hown,hvs⟩:=hs.hp b _ hb;obtain rfl:=hc S w vs hvs;subst hn;obtain⟨g,am,hu,hg⟩:∃g am,(0 < l.length->E.sl b= .slice (some ⟨g,0,none⟩) l.length am/\l.length<=am)/\(0 < l.length->(E.sl b).ownBlock=some g):=by
  rcases hown.2 with⟨_,h0⟩|⟨g,am,cur,hv,_,_,hle,_⟩
  ·exact⟨0,0,fun h=>zE,fun h=>zE⟩
  ·exact⟨g,am,fun _=>⟨hv,hle⟩,fun _=>by rw[hv];rfl⟩
 refine⟨E.sl b,g,am,hu,?_⟩;have hkey:∀c e',(atO st b (E.sl b) (kE tI g am l)).hp c= .ent e'->(c=b/\e'= .abs (kE tI g am l))\/(c≠b/\∃e0,st.hp c= .ent e0/\e'=e0.mp (koA b (E.sl b))):=by
  intro c e' hc;have hc':upd (fun c=>(st.hp c).mp (koA b (E.sl b))) b (.ent (.abs (kE tI g am l))) c= .ent e':=hc
  by_cases hcb:c=b
  ·subst hcb;rw[upd_same]at hc';cases hc';exact .inl ⟨rfl,rfl⟩
  ·rw[upd_ne _ _ hcb]at hc';refine .inr ⟨hcb,?_⟩;cases h1:st.hp c with
   |ent e0=>rw[h1]at hc';simp only[Slot.mp]at hc';cases hc';exact⟨e0,rfl,rfl⟩
   |free=>rw[h1]at hc';cases hc'
   |gone=>rw[h1]at hc';cases hc'
 have hused:∀c,(st.hp c).used=true->((atO st b (E.sl b) (kE tI g am l)).hp c).used=true:=by
  intro c hc;show (upd (fun c=>(st.hp c).mp (koA b (E.sl b))) b (.ent (.abs (kE tI g am l))) c).used=true
  by_cases hcb:c=b
  ·subst hcb;rw[upd_same];rfl
  ·rw[upd_ne _ _ hcb];cases h1:st.hp c with
   |ent e0=>rfl
   |free=>rw[h1]at hc;cases hc
   |gone=>rfl
 have htm:∀t v,(atO st b (E.sl b) (kE tI g am l)).tm t=some v->∃v0,st.tm t=some v0/\v=v0.mp (koA b (E.sl b)):=by
  intro t v ht;have ht':(match st.tm t with|some v=>some (v.mp (koA b (E.sl b)))|none=>none)=some v:=ht
  cases h1:st.tm t with
  |none=>rw[h1]at ht';cases ht'
  |some v0=>rw[h1]at ht';cases ht';exact⟨v0,rfl,rfl⟩
 have hblk:∀(e0:Ent) (E:Env) c,(e0.mp (koA b (E.sl b))).at E c=e0.at E c:=fun e0 E c=>by cases e0 <;> rfl
 let E':Env:=⟨E.blk,E.sl,upd E.fp b (fun k=>0 < l.length/\k=g)⟩
 have fpn:∀c,c≠b->E'.fp c=E.fp c:=fun c hc=>upd_ne _ _ hc
 have fpb:E'.fp b=fun k=>0 < l.length/\k=g:=upd_same _ _ _
 have atn:∀(e0:Ent) c,c≠b->e0.at E' c=e0.at E c:=fun e0 c hc=>by
  cases e0 with
  |abs A=>exact fpn c hc
  |_=>rfl
 have atm:∀(e0:Ent) c,(e0.mp (koA b (E.sl b))).at E' c=e0.at E' c:=fun e0 c=>by cases e0 <;> rfl
 have hX:∀k,(0 < l.length/\k=g)->(E.sl b).ownBlock=some k:=fun k hk=>by rw[hg hk.1,hk.2]
 refine⟨E',S,{dfr:=hs.dfr,nt:=hs.nt,cT:=hs.cT,cT0:=hs.cT0,cS:=hs.cS,lt:=hs.lt,tm:=fun t v ht=>?_,tid:=fun t v ht i hi=>?_,hp:=fun c e' hc=>?_,aq:=fun c e' hc i hi=>?_,blk:=fun c e' k hc hk=>?_,sep:=fun c c' e1 e2 k hne hc hc' hk hk'=>?_,off:=hs.off,env:=fun c hc=>?_,gl:=hs.gl}⟩
 ·obtain⟨v0,h1,rfl⟩:=htm t v ht;exact(AV.has.mp (fun a v h=>ana a v h) (hs.tm t v0 h1)).step (fun _ _=>⟨rfl,rfl⟩) (Off.refl S w) (fun k hk=> .inl hk)
 ·obtain⟨v0,h1,rfl⟩:=htm t v ht;exact hused i (hs.tid t v0 h1 i (v0.uV (alV b _) i hi))
 ·rcases hkey c e' hc with⟨rfl,rfl⟩|⟨hcb,e0,h1,rfl⟩
  ·refine⟨fun k=>by rw[fpb],fun h0=>?_⟩
   have:=hown;rw[(hu h0).1]at this;exact this
  ·exact(Ent.has.mp (S':=S) (fun a v h=>ana a v h) (fun k hk=>hk) (hs.hp c e0 h1)).step (fun _ _=>⟨rfl,rfl⟩) ⟨rfl,rfl⟩ (Off.refl S w) (fun k hk=> .inl hk) (fun _ _=>rfl) (fpn c hcb)
 ·rcases hkey c e' hc with⟨rfl,rfl⟩|⟨hcb,e0,h1,rfl⟩
  ·cases hi
  ·exact hused i (hs.aq c e0 h1 i (e0.uV (alV b _) i hi))
 ·rcases hkey c e' hc with⟨rfl,rfl⟩|⟨hcb,e0,h1,rfl⟩
  ·have hk:E'.fp c k:=hk;rw[fpb]at hk;exact hs.blk c _ k hb (hX k hk)
  ·rw[atm,atn e0 c hcb]at hk;exact hs.blk c e0 k h1 hk
 ·rcases hkey c e1 hc with⟨rfl,rfl⟩|⟨hcb,e3,h1,rfl⟩
  ·have hk:E'.fp c k:=hk;rw[fpb]at hk;rcases hkey c' e2 hc' with⟨rfl,_⟩|⟨hcb',e4,h2,rfl⟩
   ·exact hne rfl
   ·rw[atm,atn e4 c' hcb']at hk';exact hs.sep c c' _ e4 k hne hb h2 (hX k hk) hk'
  ·rw[atm,atn e3 c hcb]at hk;rcases hkey c' e2 hc' with⟨rfl,rfl⟩|⟨hcb',e4,h2,rfl⟩
   ·have hk':E'.fp c' k:=hk';rw[fpb]at hk';exact hs.sep c c' e3 _ k hne h1 hb hk (hX k hk')
   ·rw[atm,atn e4 c' hcb']at hk';exact hs.sep c c' e3 e4 k hne h1 h2 hk hk'
 ·obtain⟨g1,g2,g3⟩:=hs.env c hc;exact⟨g1,g2,hused c g3⟩
def WP.arq{P:Program}{C:Ctx}{st:St}{Q:Exit->St->Prop}{cd:Code}(b:Nat){n:Nat}{tI:TypeId}{ag:List CA}{l:List Nat}(hb:st.hp b= .ent (.row tI 1 n ag))(hn:n=l.length)(hc:∀S w vs,aM (CA.has S w) ag vs->vs=wdL l)
  (h:∀u g am,(0 < l.length->u= .slice (some ⟨g,0,none⟩) l.length am/\l.length<=am)->WP P C cd (atO st b u (kE tI g am l)) Q):WP P C cd st Q:=fun a w hs=>by
 obtain⟨u,g,am,h1,h2⟩:=Sat.arq hs hb hn hc;exact h u g am h1 a w h2
def osSt(st:St)(b c:Nat)(tO tI:TypeId)(n g am:Nat)(js l:List Nat):St:=⟨st.tm,fH st.hp [(b,.ent (.row tO 1 js.length (js.flatMap (hdC g am n)))),(c,.ent (.abs (kE tI g am l)))]⟩
def uH{s1 s2:Slot}{e:Ent}(hbc:b≠c)(h:fH st.hp [(b,s1),(c,s2)] i= .ent e):(i=b/\s1= .ent e)\/(i=c/\s2= .ent e)\/(i≠b/\i≠c/\st.hp i= .ent e):=by
 have h:upd (upd st.hp b s1) c s2 i= .ent e:=h;by_cases hc:i=c
 ·subst hc;rw[upd_same]at h;exact .inr (.inl ⟨rfl,h⟩)
 ·rw[upd_ne _ _ hc]at h;by_cases hb:i=b
  ·subst hb;rw[upd_same]at h;exact .inl ⟨rfl,h⟩
  ·rw[upd_ne _ _ hb]at h;exact .inr (.inr ⟨hb,hc,h⟩)
def an5{s1 s2:Slot}(h1:s1.used=true)(h2:s2.used=true)(h:(st.hp i).used=true):(fH st.hp [(b,s1),(c,s2)] i).used=true:=by
 show (upd (upd st.hp b s1) c s2 i).used=true;by_cases hc:i=c
 ·subst hc;rw[upd_same];exact h2
 ·rw[upd_ne _ _ hc];by_cases hb:i=b
  ·subst hb;rw[upd_same];exact h1
  ·rw[upd_ne _ _ hb];exact h
def Sat.asu{a:Act}{n:Nat}(h:Sat C st a w)(hb:st.hp b= .ent (.abs (ad3 tO tI n js l)))(hf:st.hp c= .free):
  ∃g am,Sat C (osSt st b c tO tI n g am js l) a w:=by
 obtain⟨E,S,hs⟩:=h;have hbc:b≠c:=by rintro rfl;rw[hb]at hf;cases hf
 obtain⟨g,am,hg⟩:∃g am,agh tO tI n js l (E.sl b) (E.fp b) w g am:=hs.hp b _ hb;refine⟨g,am,?_⟩
 let E':Env:=⟨E.blk,E.sl,upd E.fp c (fun k=>0 < l.length/\k=g)⟩
 have fpn:∀i,i≠c->E'.fp i=E.fp i:=fun i hi=>upd_ne _ _ hi
 have fpc:E'.fp c=fun k=>0 < l.length/\k=g:=upd_same _ _ _
 have atn:∀(e0:Ent) i,i≠c->e0.at E' i=e0.at E i:=fun e0 i hi=>by
  cases e0 with
  |abs A=>exact fpn i hi
  |_=>rfl
 have hXb:∀k,(Ent.row tO 1 js.length (js.flatMap (hdC g am n))).at E' b k->E.fp b k:=fun k hk=>(hg.X k).2 (.inl hk)
 have hXc:∀k,(Ent.abs (kE tI g am l)).at E' c k->E.fp b k:=fun k hk=>by
  have hk:E'.fp c k:=hk;rw[fpc]at hk;exact(hg.X k).2 (.inr hk)
 have hbcs:∀k,(Ent.row tO 1 js.length (js.flatMap (hdC g am n))).at E' b k->(Ent.abs (kE tI g am l)).at E' c k->False:=fun k h1 h2=>by
  have h2:E'.fp c k:=h2;rw[fpc]at h2;have h1:(E.sl b).ownBlock=some k:=h1;exact hg.sep h2.1 (by rw[h1,h2.2])
 have hused:∀i,(st.hp i).used=true->((osSt st b c tO tI n g am js l).hp i).used=true:=fun i hi=>an5 rfl rfl hi
 refine⟨E',S,{dfr:=hs.dfr,nt:=hs.nt,cT:=hs.cT,cT0:=hs.cT0,cS:=hs.cS,lt:=hs.lt,tm:=fun t v ht=>?_,tid:=fun t v ht i hi=>hused i (hs.tid t v ht i hi),hp:=fun i e hi=>?_,aq:=fun i e hi j hj=>?_,blk:=fun i e k hi hk=>?_,sep:=fun i i' e1 e2 k hne hi hi' hk hk'=>?_,off:=hs.off,env:=fun i hi=>?_,gl:=hs.gl}⟩
 ·exact(hs.tm t v ht).step (fun _ _=>⟨rfl,rfl⟩) (Off.refl S w) (fun k hk=> .inl hk)
 ·rcases uH hbc hi with⟨rfl,h1⟩|⟨rfl,h1⟩|⟨hib,hic,h1⟩
  ·cases h1;exact⟨_,hg.out,alK js⟩
  ·cases h1;exact⟨fun k=>by rw[fpc],hg.inn⟩
  ·exact(hs.hp i e h1).step (fun _ _=>⟨rfl,rfl⟩) ⟨rfl,rfl⟩ (Off.refl S w) (fun k hk=> .inl hk) (fun _ _=>rfl) (fpn i hic)
 ·rcases uH hbc hi with⟨rfl,h1⟩|⟨rfl,h1⟩|⟨hib,hic,h1⟩
  ·cases h1;cases hj
  ·cases h1;cases hj
  ·exact hused j (hs.aq i e h1 j hj)
 ·rcases uH hbc hi with⟨rfl,h1⟩|⟨rfl,h1⟩|⟨hib,hic,h1⟩
  ·cases h1;exact hs.blk i _ k hb (hXb k hk)
  ·cases h1;exact hs.blk b _ k hb (hXc k hk)
  ·rw[atn e i hic]at hk;exact hs.blk i e k h1 hk
 ·rcases uH hbc hi with⟨rfl,h1⟩|⟨rfl,h1⟩|⟨hib,hic,h1⟩
  ·cases h1;rcases uH hbc hi' with⟨rfl,_⟩|⟨rfl,h2⟩|⟨hib',hic',h2⟩
   ·exact hne rfl
   ·cases h2;exact hbcs k hk hk'
   ·rw[atn e2 i' hic']at hk';exact hs.sep i i' _ e2 k hne hb h2 (hXb k hk) hk'
  ·cases h1;rcases uH hbc hi' with⟨rfl,h2⟩|⟨rfl,_⟩|⟨hib',hic',h2⟩
   ·cases h2;exact hbcs k hk' hk
   ·exact hne rfl
   ·rw[atn e2 i' hic']at hk';exact hs.sep b i' _ e2 k (fun e=>hib' e.symm) hb h2 (hXc k hk) hk'
  ·rw[atn e1 i hic]at hk;rcases uH hbc hi' with⟨rfl,h2⟩|⟨rfl,h2⟩|⟨hib',hic',h2⟩
   ·cases h2;exact hs.sep i i' e1 _ k hne h1 hb hk (hXb k hk')
   ·cases h2;exact hs.sep i b e1 _ k hib h1 hb hk (hXc k hk')
   ·rw[atn e2 i' hic']at hk';exact hs.sep i i' e1 e2 k hne h1 h2 hk hk'
 ·obtain⟨g1,g2,g3⟩:=hs.env i hi;exact⟨g1,g2,hused i g3⟩
def WP.asu{P:Program}{C:Ctx}{st:St}{Q:Exit->St->Prop}{cd:Code}(b c:Nat){n:Nat}{tO tI:TypeId}{js l:List Nat}(hb:st.hp b= .ent (.abs (ad3 tO tI n js l)))(hf:st.hp c= .free)
  (h:∀g am,WP P C cd (osSt st b c tO tI n g am js l) Q):WP P C cd st Q:=fun a w hs=>by
 obtain⟨g,am,h2⟩:=Sat.asu hs hb hf;exact h g am a w h2
def ake(st:St)(b c:Nat)(tO tI:TypeId)(n:Nat)(js l:List Nat):St:=⟨st.tm,fH st.hp [(b,.ent (.abs (ad3 tO tI n js l))),(c,.gone)]⟩
def St.acW(b c:Nat){n m:Nat}(hb:st.hp b= .ent (.row tO 1 m (js.flatMap (hdC g am n))))(hc:st.hp c= .ent (.abs (kE tI g am l)))(hm:m=js.length):St.le C st (ake st b c tO tI n js l):=by
 intro a w ⟨E,S,hs⟩;subst hm;have hbc:b≠c:=by rintro rfl;rw[hb]at hc;cases hc
 obtain⟨vs,hown,hvs⟩:=hs.hp b _ hb;obtain rfl:=aqb hvs;have hk:(∀k,E.fp c k↔(0 < l.length/\k=g))/\(0 < l.length->w.ownsRow 0 tI 1 (.slice (some ⟨g,0,none⟩) l.length am) l.length (wdL l)):=hs.hp c _ hc
 let E':Env:=⟨E.blk,E.sl,upd E.fp b (fun k=>(E.sl b).ownBlock=some k\/(0 < l.length/\k=g))⟩
 have fpn:∀i,i≠b->E'.fp i=E.fp i:=fun i hi=>upd_ne _ _ hi
 have fpb:E'.fp b=fun k=>(E.sl b).ownBlock=some k\/(0 < l.length/\k=g):=upd_same _ _ _
 have atn:∀(e0:Ent) i,i≠b->e0.at E' i=e0.at E i:=fun e0 i hi=>by
  cases e0 with
  |abs A=>exact fpn i hi
  |_=>rfl
 have hX:∀k,(Ent.abs (ad3 tO tI n js l)).at E' b k->(Ent.row tO 1 js.length (js.flatMap (hdC g am n))).at E b k\/(Ent.abs (kE tI g am l)).at E c k:=fun k h=>by
  have h:E'.fp b k:=h;rw[fpb]at h;exact h.imp id (fun h=>(hk.1 k).2 h)
 have hused:∀i,(st.hp i).used=true->((ake st b c tO tI n js l).hp i).used=true:=fun i hi=>an5 rfl rfl hi
 have hkey:∀i e,(ake st b c tO tI n js l).hp i= .ent e->(i=b/\e= .abs (ad3 tO tI n js l))\/(i≠b/\i≠c/\st.hp i= .ent e):=fun i e hi=>by
  rcases uH hbc hi with⟨rfl,h1⟩|⟨rfl,h1⟩|h
  ·cases h1;exact .inl ⟨rfl,rfl⟩
  ·cases h1
  ·exact .inr h
 refine⟨E',S,{dfr:=hs.dfr,nt:=hs.nt,cT:=hs.cT,cT0:=hs.cT0,cS:=hs.cS,lt:=hs.lt,tm:=fun t v ht=>?_,tid:=fun t v ht i hi=>hused i (hs.tid t v ht i hi),hp:=fun i e hi=>?_,aq:=fun i e hi j hj=>?_,blk:=fun i e k hi hk=>?_,sep:=fun i i' e1 e2 k hne hi hi' hk hk'=>?_,off:=hs.off,env:=fun i hi=>?_,gl:=hs.gl}⟩
 ·exact(hs.tm t v ht).step (fun _ _=>⟨rfl,rfl⟩) (Off.refl S w) (fun k hk=> .inl hk)
 ·rcases hkey i e hi with⟨rfl,rfl⟩|⟨hib,hic,h1⟩
  ·exact⟨g,am,hown,hk.2,fun h0 hg=>hs.sep i c _ _ g hbc hb hc hg ((hk.1 g).2 ⟨h0,rfl⟩),fun k=>by rw[fpb]⟩
  ·exact(hs.hp i e h1).step (fun _ _=>⟨rfl,rfl⟩) ⟨rfl,rfl⟩ (Off.refl S w) (fun k hk=> .inl hk) (fun _ _=>rfl) (fpn i hib)
 ·rcases hkey i e hi with⟨rfl,rfl⟩|⟨hib,hic,h1⟩
  ·cases hj
  ·exact hused j (hs.aq i e h1 j hj)
 ·rcases hkey i e hi with⟨rfl,rfl⟩|⟨hib,hic,h1⟩
  ·exact(hX k hk).elim (hs.blk i _ k hb) (hs.blk c _ k hc)
  ·rw[atn e i hib]at hk;exact hs.blk i e k h1 hk
 ·rcases hkey i e1 hi with⟨rfl,rfl⟩|⟨hib,hic,h1⟩
  ·rcases hkey i' e2 hi' with⟨rfl,_⟩|⟨hib',hic',h2⟩
   ·exact hne rfl
   ·rw[atn e2 i' hib']at hk';exact(hX k hk).elim (fun h=>hs.sep i i' _ e2 k hne hb h2 h hk') (fun h=>hs.sep c i' _ e2 k (fun e=>hic' e.symm) hc h2 h hk')
  ·rw[atn e1 i hib]at hk;rcases hkey i' e2 hi' with⟨rfl,rfl⟩|⟨hib',hic',h2⟩
   ·exact(hX k hk').elim (fun h=>hs.sep i i' e1 _ k hne h1 hb hk h) (fun h=>hs.sep i c e1 _ k hic h1 hc hk h)
   ·rw[atn e2 i' hib']at hk';exact hs.sep i i' e1 e2 k hne h1 h2 hk hk'
 ·obtain⟨g1,g2,g3⟩:=hs.env i hi;exact⟨g1,g2,hused i g3⟩
def ak.segTo{P:Program}{f:FuncId}{ao:List AV}{n s:Nat}(h:ak P f ao [] ⟨.own s,[(s,.ent (.abs (ad3 tO tI n js l)))]⟩)(d:Nat):ak P f ao [] ⟨.own d,[(d,.ent (.abs (ad3 tO tI n js l)))]⟩:=by
 refine⟨h.1,fun E S w vs hl hg hv h1 h2 h3=>(h.2 E S w vs hl hg hv (fun b e hb=>by cases hb) (fun b e k hb=>by cases hb) (fun b b' e e' k _ hb=>by cases hb)).mono ?_⟩
 rintro e w' ⟨v,E',S',rfl,hE⟩;have hres:v=E'.sl s/\v.oneCell'=true:=hE.res;have hent:∃g am,agh tO tI n js l (E'.sl s) (E'.fp s) w' g am:=hE.ents s (.abs (ad3 tO tI n js l)) zp
 refine⟨v,⟨E.blk,upd E.sl d (E'.sl s),upd E.fp d (E'.fp s)⟩,S',rfl,{env:=fun b hb=>?_,fpe:=fun b hb=>?_,sub:=hE.sub,new:=hE.new,lt:=hE.lt,off:=hE.off,res:=?_,ents:=fun b e hb=>?_,blk:=fun b e k hb hk=>?_,sep:=fun b b' e e' k hne hb hb'=>?_}⟩
 ·by_cases hbd:b=d
  ·subst hbd;obtain⟨e,he⟩:=hb ⟨_,by simp;rfl⟩
   cases he
  ·exact⟨rfl,upd_ne _ _ hbd⟩
 ·refine upd_ne _ _ fun hbd=>?_
  subst hbd;exact hb _ (by simp;rfl)
 ·show v=upd E.sl d (E'.sl s) d/\_;rw[upd_same];exact hres
 ·simp at hb;obtain⟨rfl,rfl⟩:=hb
  show∃g am,agh tO tI n js l (upd E.sl b (E'.sl s) b) (upd E.fp b (E'.fp s) b) w' g am;rw[upd_same,upd_same];exact hent
 ·simp at hb;obtain⟨rfl,rfl⟩:=hb
  have hk':upd E.fp b (E'.fp s) b k:=hk;rw[upd_same]at hk';exact hE.blk s (.abs (ad3 tO tI n js l)) k zp hk'
 ·simp at hb hb';exact absurd (hb.1.trans hb'.1.symm) hne
