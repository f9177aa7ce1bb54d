import Derived.Test.YthnkfhfcgjoieaaGreatDoorO5
import Derived.Lib.SliceRun
import Derived.Test.YthnkfhfcgjoieaaGreatDoorO3
import Derived.MapKept
import Derived.Test.YthnkfhfcgjoieaaGreatDoorO30
set_option linter.unusedVariables false
set_option linter.unusedSimpArgs false
namespace SX
section
open Go Go.RowKit
section
section
variable{P:Program}{C:Ctx}{st:St}
variable{ops rest:List Oper}{acc:List (List Nat×List Nat)}{K:List (List Nat×List Nat)->St->Prop}{dst:Option Tmp}{d:Tmp}{op:Op}{ty t t':TypeId}{x y z:Operand}
theorem G.aox{b off:Nat}{T:TypeId}{cells:List Atom}{a1 a2 a3 a4 a5 a6 a7 a8 a9 a10 a11 a12 a13 a14 a15:Atom}[ht:gH P t 15](next:Reg P C ops rest (st.app (some d) ⟨.agg [a1,a2,a3,a4,a5,a6,a7,a8,a9,a10,a11,a12,a13,a14,a15],[]⟩) (([b],[])::acc) K)(hd:aC (some d) C.nt=true:=by rfl)(hx:st.ev x=some (.ptr b off):=by rfl)(hb:st.hp b= .ent (.box T cells):=by rfl)(hr:(cells.drop off).take 15=[a1,a2,a3,a4,a5,a6,a7,a8,a9,a10,a11,a12,a13,a14,a15]:=by rfl):Go1 P C ops (some d) (.load t x) ty rest st acc K:=
 Go1.vk hd hx hb (by have:=congrArg List.length hr;simp at this;rw[zva];omega) hr next
theorem G.ai5{c1 c2 c3 c4 c5 c6 c7 c8 c9 c10 c11 c12 c13 c14 c15:CA}{cells:List CA}[ht:gH P t 15](next:Reg P C ops rest (st.app dst ⟨.agg [.c c1,.c c2,.c c3,.c c4,.c c5,.c c6,.c c7,.c c8,.c c9,.c c10,.c c11,.c c12,.c c13,.c c14,.c c15],[]⟩) (([],[])::acc) K)(hd:aC dst C.nt=true:=by rfl)(hx:st.ev x=some (.r (dK cells)):=by rfl)(hl:cells=[c1,c2,c3,c4,c5,c6,c7,c8,c9,c10,c11,c12,c13,c14,c15]:=by rfl):Go1 P C ops dst (.load t x) ty rest st acc K:=by
 subst hl;exact Go1.sO hd hx rfl next
theorem G.ajG{pl:List (Nat×Nat)}{zs:List Value}{parts:Array (Nat×Operand)}{ps:List (Nat×AV0)}{a1 a2 a3 a4 a5 a6 a7 a8 a9 a10 a11 a12 a13 a14 a15:Atom}[ht:dU P t pl][hz:gu P t zs](next:Reg P C ops rest (st.app (some d) ⟨.agg [a1,a2,a3,a4,a5,a6,a7,a8,a9,a10,a11,a12,a13,a14,a15],[]⟩) (([],[])::acc) K)(hd:aC (some d) C.nt=true:=by rfl)(hp:evp st parts.toList=some ps:=by rfl)(h1:(ps.all fun p=>p.2.cells.all Atom.eO)=true:=by rfl)(hf:fV pl (zs.map fun v=>Atom.c (.val v)) ps=some [a1,a2,a3,a4,a5,a6,a7,a8,a9,a10,a11,a12,a13,a14,a15]:=by rfl):Go1 P C ops (some d) (.build t parts) ty rest st acc K:=
 Go1.build hd hp h1 hf next
theorem ak.gL{t:Tmp}{T T':TypeId}{b off:Nat}{cells:List Atom}{a1 a2 a3 a4 a5 a6 a7 a8 a9 a10 a11 a12 a13 a14 a15:Atom}[ht:gH P T 15](h:st.tm t=some (.ptr b off):=by rfl)(hb:st.hp b= .ent (.box T' cells):=by rfl)(hr:(cells.drop off).take 15=[a1,a2,a3,a4,a5,a6,a7,a8,a9,a10,a11,a12,a13,a14,a15]:=by rfl):ak P st (.cell t T) (.agg [a1,a2,a3,a4,a5,a6,a7,a8,a9,a10,a11,a12,a13,a14,a15]):=
 ak.agg h hb (by have:=congrArg List.length hr;simp at this;rw[zva];omega) hr
end
end
section
class agO(zs:List Value)(cells:outParam (List CA)):Prop where
 h:∀S w,aK (CA.has S w) cells zs
theorem ags{S:Nat->Prop}{w:World}{cells:List CA}{zs:List Value}(h:aK (CA.has S w) cells zs):∀n:Nat,aK (CA.has S w) (List.replicate n cells).flatten (List.replicate n zs).flatten
 |0=>trivial
 |n+1=>by
  rw[List.replicate_succ,List.replicate_succ,List.flatten_cons,List.flatten_cons];exact h.append (ags h n)
theorem anh(zs:List Value)(h0:0 < zs.length)(n:Nat):(madeCells zs.toArray (n*zs.length)).toList=(List.replicate n zs).flatten:=by
 induction n with
 |zero=>simp[madeCells]
 |succ n ih=>
  rw[show List.replicate (n+1) zs=List.replicate n zs++[zs]by rw[List.replicate_succ'],List.flatten_append,<-ih]
  apply zyb
  intro j;have hsz:∀m,(madeCells zs.toArray m).toList.length=m:=fun m=>by rw[zw6,size_madeCells]
  by_cases h1:j < n*zs.length
  ·rw[zyj (by rw[hsz];exact h1)]
   have h2:j < (n+1)*zs.length:=by rw[zy5];omega
   simp[madeCells,h1,h2]
  ·rw[zv6 (by rw[hsz];omega),hsz]
   by_cases h2:j < (n+1)*zs.length
   ·have h3:j - n*zs.length < zs.length:=by rw[zy5]at h2;omega
    have h4:j % zs.length=j - n*zs.length:=by
     have:j=(j - n*zs.length)+zs.length*n:=by rw[zxj zs.length n];omega
     rw[this,Nat.add_mul_mod_self_left,zw4 h3];rw[zxj zs.length n];omega
    simp[madeCells,h2,h4,h3]
   ·have h3:¬j - n*zs.length < zs.length:=by rw[zy5]at h2;omega
    simp[madeCells,h2]
    omega
section
variable{P:Program}{C:Ctx}{st:St}
variable{ops rest:List Oper}{acc:List (List Nat×List Nat)}{K:List (List Nat×List Nat)->St->Prop}{dst:Option Tmp}{d:Tmp}{op:Op}{ty t t':TypeId}{x y z:Operand}
theorem Go1.aiK{e:TypeId}{n bytes size:Nat}{k k':IntKind}{zs:List Value}{cells:List CA}[ht:bT P t e size][he:fH P e zs bytes][hz:agO zs cells](hd:aC (some d) C.nt=true)(hx:st.ev x=some (.v (.int k (n:Int))))(hy:st.ev y=some (.v (.int k' (n:Int))))(hf:st.hp d= .free)
  (hb:n*bytes<=140737488355328) (hm:n<=9223372036854775807) (hs:zs.length=size)
  (next:Reg P C ops rest (st.app (some d) ⟨.own d,[(d,.ent (.row e size n (List.replicate n cells).flatten))]⟩) (([d],[d])::acc) K):Go1 P C ops (some d) (.makeSlice t x y) ty rest st acc K:=
 ⟨[d],⟨.own d,[(d,.ent (.row e size n (List.replicate n cells).flatten))]⟩,fun o h2 h3 h4=>aT.newRow h2 hd hf [] (fun b e hb=>by cases hb) (fun st' E S a w hev hs' _=>by
  have hxv:a.eval x= .int k (n:Int):=(hs'.ev ((hev x (by simp[h3,Op.operands])).trans hx)).1
  have hyv:a.eval y= .int k' (n:Int):=(hs'.ev ((hev y (by simp[h3,Op.operands])).trans hy)).1
  obtain⟨i,z',hi,hz',hc,hsz,hby⟩:=oP he ht.s;obtain⟨w',hrun,hown,hgr⟩:=run_make_full (P:=P) w 0 t e i z' size ht.h hi hz' hsz k k' n (by rw[hby,zxj];omega) (by simp[maxLen];omega) (zq8 _)
  refine⟨.slice (some ⟨w.heap.size,0,none⟩) n n,w',(List.replicate n zs).flatten,?_,?_,mX hgr (fun k hk=>by cases hk),fun k hk=>by simp[Value.ownBlock]at hk;omega,ags (hz.h _ _) n⟩
  ·unfold execOp;rw[h3];simp[hxv,hyv,hrun]
  ·have hl:(madeCells z'.cells (n*size)).toList=(List.replicate n zs).flatten:=by rw[hc,<-hs];exact anh zs (by rw[hs];exact ht.p) n
   rw[<-hl];exact hown),next⟩
theorem G.aiK{e:TypeId}{n bytes size:Nat}{k k':IntKind}{zi zj:Int}{zs:List Value}{cells:List CA}[ht:bT P t e size][he:fH P e zs bytes][hz:agO zs cells](next:Reg P C ops rest (st.app (some d) ⟨.own d,[(d,.ent (.row e size n (List.replicate n cells).flatten))]⟩) (([d],[d])::acc) K)(hd:aC (some d) C.nt=true:=by rfl)(hx:st.ev x=some (.v (.int k zi)):=by rfl)(hx0:zi=(n:Int):=by first|with_reducible rfl|exact SX.jE _|rfl)(hy:st.ev y=some (.v (.int k' zj)):=by rfl)(hy0:zj=(n:Int):=by first|with_reducible rfl|exact SX.jE _|rfl)(hf:st.hp d= .free:=by rfl)
  (hb:n*bytes<=140737488355328:=by omega) (hm:n<=9223372036854775807:=by omega) (hs:zs.length=size:=by rfl):Go1 P C ops (some d) (.makeSlice t x y) ty rest st acc K:=by
 subst hx0;subst hy0;exact Go1.aiK hd hx hy hf hb hm hs next
theorem G.apZ{b off:Nat}{T:TypeId}{cells:List Atom}{a1:Atom}[ht:gH P t 1](next:Reg P C ops rest (st.app (some d) ⟨.agg [a1],[]⟩) (([b],[])::acc) K)(hd:aC (some d) C.nt=true:=by rfl)(hx:st.ev x=some (.ptr b off):=by rfl)(hb:st.hp b= .ent (.box T cells):=by rfl)(hr:(cells.drop off).take 1=[a1]:=by rfl):Go1 P C ops (some d) (.load t x) ty rest st acc K:=
 Go1.vk hd hx hb (by have:=congrArg List.length hr;simp at this;rw[zva];omega) hr next
theorem G.ai2{c1:CA}{cells:List CA}[ht:gH P t 1](next:Reg P C ops rest (st.app dst ⟨.agg [.c c1],[]⟩) (([],[])::acc) K)(hd:aC dst C.nt=true:=by rfl)(hx:st.ev x=some (.r (dK cells)):=by rfl)(hl:cells=[c1]:=by rfl):Go1 P C ops dst (.load t x) ty rest st acc K:=by
 subst hl;exact Go1.sO hd hx rfl next
theorem G.apG{pl:List (Nat×Nat)}{zs:List Value}{parts:Array (Nat×Operand)}{ps:List (Nat×AV0)}{a1:Atom}[ht:dU P t pl][hz:gu P t zs](next:Reg P C ops rest (st.app (some d) ⟨.agg [a1],[]⟩) (([],[])::acc) K)(hd:aC (some d) C.nt=true:=by rfl)(hp:evp st parts.toList=some ps:=by rfl)(h1:(ps.all fun p=>p.2.cells.all Atom.eO)=true:=by rfl)(hf:fV pl (zs.map fun v=>Atom.c (.val v)) ps=some [a1]:=by rfl):Go1 P C ops (some d) (.build t parts) ty rest st acc K:=
 Go1.build hd hp h1 hf next
theorem ak.agg1{t:Tmp}{T T':TypeId}{b off:Nat}{cells:List Atom}{a1:Atom}[ht:gH P T 1](h:st.tm t=some (.ptr b off):=by rfl)(hb:st.hp b= .ent (.box T' cells):=by rfl)(hr:(cells.drop off).take 1=[a1]:=by rfl):ak P st (.cell t T) (.agg [a1]):=
 ak.agg h hb (by have:=congrArg List.length hr;simp at this;rw[zva];omega) hr
end
end
section
section
variable{P:Program}{C:Ctx}{st:St}
variable{ops rest:List Oper}{acc:List (List Nat×List Nat)}{K:List (List Nat×List Nat)->St->Prop}{dst:Option Tmp}{d:Tmp}{op:Op}{ty t t':TypeId}{x y z:Operand}
end
structure HeldK(q:Prop):Prop where
 out:q
end
section
section
variable{P:Program}{C:Ctx}{st:St}
variable{ops rest:List Oper}{acc:List (List Nat×List Nat)}{K:List (List Nat×List Nat)->St->Prop}{dst:Option Tmp}{d:Tmp}{op:Op}{ty t t':TypeId}{x y z:Operand}
end
end
section
section
variable{P:Program}{C:Ctx}{st:St}
variable{ops rest:List Oper}{acc:List (List Nat×List Nat)}{K:List (List Nat×List Nat)->St->Prop}{dst:Option Tmp}{d:Tmp}{op:Op}{ty t t':TypeId}{x y z:Operand}
theorem G.aoH{i:Int}{e:TypeId}{b n size:Nat}{k:IntKind}{cells:List CA}[ht:bT P t e size](next:Reg P C ops rest (st.app (some d) ⟨.own d,[(b,.gone),(d,.ent (.row e size i.toNat (cells.take (i.toNat*size))))]⟩) (([b,d],[b,d])::acc) K)(hd:aC (some d) C.nt=true:=by rfl)(hx:st.ev x=some (.own b):=by rfl)(hb:st.hp b= .ent (.row e size n cells):=by rfl)(hf:st.hp d= .free:=by rfl)(hy:st.ev y=some (.v (.int k i)):=by rfl)(h0:0<=i:=by omega)(h1:i<=(n:Int):=by omega):Go1 P C ops (some d) (.slice t x none (some y) none) ty rest st acc K:=
 Go1.sG hd hx hb hf hy h0 h1 next
end
end
section
def nu(S:Nat->Prop)(w:World)(p:List UInt8×List CA)(e:MapEntry):Prop:=e.key=str p.1/\∃us:List Value,e.val= .agg us.toArray/\aK (CA.has S w) p.2 us
theorem nu.step{S S':Nat->Prop}{w w':World}{p:List UInt8×List CA}{e:MapEntry}(h:nu S w p e)(ho:Off S w w')(hs:∀k,S' k->S k\/w.heap.size<=k):nu S' w' p e:=by
 obtain⟨h1,us,h2,h3⟩:=h;exact⟨h1,us,h2,h3.mono fun a u _ ha=>ha.step ho hs⟩
def iT(l:List (List UInt8×List CA)):mF where
 has _ v X S w:=∃r es clock,v= .map (some r)/\(∀k,X k↔k=r)/\w.heap[r]? =some (.map es clock)/\aK (nu S w) l es.toList
 step:=fun {b v X S S' w w'} ⟨r,es,clock,h1,h2,h3,h4⟩ ho hs hX=>
  ⟨r,es,clock,h1,h2,by rw[hX r ((h2 r).2 rfl)];exact h3,h4.mono fun a u _ ha=>ha.step ho hs⟩
def fT{β:Type}:List (List UInt8×β)->List UInt8->Option β
 |[],_=>none
 |(k,c)::l,s=>if s=k then some c else fT l s
def jw{β:Type}:List (List UInt8×β)->List UInt8->β->List (List UInt8×β)
 |[],s,c=>[(s,c)]
 |(k,d)::l,s,c=>if s=k then(k,c)::l else(k,d)::jw l s c
theorem wV(s t:List UInt8):Instr.sameNow .string (str s) (str t)=some (decide (s=t)):=by
 show some ((⟨⟨s⟩⟩:ByteArray)==⟨⟨t⟩⟩)=_;have e:((⟨⟨s⟩⟩:ByteArray)==⟨⟨t⟩⟩)=((⟨s⟩:Array UInt8)==⟨t⟩):=rfl;rw[e]
 congr 1
 rw[zyc,beq_iff_eq,decide_eq_true_iff];constructor
 ·intro h;injection h
 ·rintro rfl;rfl
theorem aco{S:Nat->Prop}{w:World}{s:List UInt8}:∀{l:List (List UInt8×List CA)} {es:List MapEntry} (i:Nat),aK (nu S w) l es->fT l s=none->Instr.findNow .string (str s) es i=some none
 |[],[],_,_,_=>rfl
 |(k,c)::l,e::es,i,h,hn=>by
  obtain⟨⟨h1,_⟩,h2⟩:=h;unfold fT at hn;by_cases hk:s=k
  ·rw[if_pos hk]at hn;cases hn
  ·rw[if_neg hk]at hn;unfold Instr.findNow;rw[h1];show (match Instr.sameNow .string (str s) (str k)with|some true=>some (some (i,e.val))|some false=>Instr.findNow .string (str s) es (i+1)|none=>none)=_
   rw[wV,decide_eq_false hk];exact aco (i+1) h2 hn
 |[],_::_,_,h,_=>h.elim
 |_::_,[],_,h,_=>h.elim
theorem acW{S:Nat->Prop}{w:World}{s:List UInt8}{c:List CA}:∀{l:List (List UInt8×List CA)} {es:List MapEntry} (i:Nat),aK (nu S w) l es->fT l s=some c->∃j us,Instr.findNow .string (str s) es i=some (some (i+j,.agg us))/\aK (CA.has S w) c us.toList/\(∃e,es[j]? =some e/\e.key=str s)
 |[],[],_,_,hn=>by cases hn
 |(k,d)::l,e::es,i,h,hn=>by
  obtain⟨⟨h1,us,h3,h4⟩,h2⟩:=h;unfold fT at hn;by_cases hk:s=k
  ·rw[if_pos hk]at hn;cases hn;refine⟨0,us.toArray,?_,by simpa using h4,e,rfl,by rw[h1,hk]⟩
   unfold Instr.findNow;rw[h1];show (match Instr.sameNow .string (str s) (str k)with|some true=>some (some (i,e.val))|some false=>Instr.findNow .string (str s) es (i+1)|none=>none)=_
   rw[wV,decide_eq_true hk,h3];rfl
  ·rw[if_neg hk]at hn;obtain⟨j,vs,g1,g2,e',g3,g4⟩:=acW (i+1) h2 hn;refine⟨j+1,vs,?_,g2,e',g3,g4⟩;unfold Instr.findNow;rw[h1];show (match Instr.sameNow .string (str s) (str k)with|some true=>some (some (i,e.val))|some false=>Instr.findNow .string (str s) es (i+1)|none=>none)=_
   rw[wV,decide_eq_false hk];show Instr.findNow .string (str s) es (i+1)=_;rw[g1,show i+1+j=i+(j+1)by omega]
 |[],_::_,_,h,_=>h.elim
 |_::_,[],_,h,_=>h.elim
theorem afX{S:Nat->Prop}{w:World}{s:List UInt8}{c:List CA}{e:MapEntry}(he:nu S w (s,c) e):∀{l:List (List UInt8×List CA)} {es:List MapEntry},aK (nu S w) l es->fT l s=none->aK (nu S w) (jw l s c) (es++[e])
 |[],[],_,_=>⟨he,trivial⟩
 |(k,d)::l,f::es,h,hn=>by
  unfold fT at hn;by_cases hk:s=k
  ·rw[if_pos hk]at hn;cases hn
  ·rw[if_neg hk]at hn;unfold jw;rw[if_neg hk];exact⟨h.1,afX he h.2 hn⟩
 |[],_::_,h,_=>h.elim
 |_::_,[],h,_=>h.elim
theorem afq{S:Nat->Prop}{w:World}{s:List UInt8}{c d:List CA}:∀{l:List (List UInt8×List CA)} {es:List MapEntry} (i:Nat),aK (nu S w) l es->fT l s=some d->
  ∃j v,Instr.findNow .string (str s) es i=some (some (i+j,v))/\(∃e,es[j]? =some e/\e.key=str s)/\∀e,nu S w (s,c) e->aK (nu S w) (jw l s c) (es.set j e)
 |[],[],_,_,hn=>by cases hn
 |(k,d)::l,e::es,i,h,hn=>by
  obtain⟨⟨h1,us,h3,h4⟩,h2⟩:=h;unfold fT at hn;by_cases hk:s=k
  ·rw[if_pos hk]at hn;refine⟨0,e.val,?_,⟨e,rfl,by rw[h1,hk]⟩,fun f hf=>?_⟩
   ·unfold Instr.findNow;rw[h1];show (match Instr.sameNow .string (str s) (str k)with|some true=>some (some (i,e.val))|some false=>Instr.findNow .string (str s) es (i+1)|none=>none)=_
    rw[wV,decide_eq_true hk];rfl
   ·unfold jw;rw[if_pos hk];subst hk;exact⟨hf,h2⟩
  ·rw[if_neg hk]at hn;obtain⟨j,v,g1,⟨e',g3,g4⟩,g5⟩:=afq (c:=c) (i+1) h2 hn;refine⟨j+1,v,?_,⟨e',g3,g4⟩,fun f hf=>?_⟩
   ·unfold Instr.findNow;rw[h1];show (match Instr.sameNow .string (str s) (str k)with|some true=>some (some (i,e.val))|some false=>Instr.findNow .string (str s) es (i+1)|none=>none)=_
    rw[wV,decide_eq_false hk];show Instr.findNow .string (str s) es (i+1)=_;rw[g1,show i+1+j=i+(j+1)by omega]
   ·unfold jw;rw[if_neg hk];exact⟨⟨h1,us,h3,h4⟩,g5 f hf⟩
 |[],_::_,_,h,_=>h.elim
 |_::_,[],_,h,_=>h.elim
class alu(P:Program)(t:TypeId)(zs:outParam (List Value)):Prop where
 h:∃k e,P.underlying t=some (.map k e)/\P.underlying k=some .string/\(P.info? e).map (·.zero)=some (some (.agg zs.toArray))
theorem tX(s:List UInt8):Go.MapKept.IsKey .string (str s):=by
 first|exact trivial|simp[Go.MapKept.IsKey,str]
section
variable{P:Program}{t:TypeId}{zs:List Value}[ht:alu P t zs]{w:World}{r:Nat}{es:Array MapEntry}{clock:Nat}{S:Nat->Prop}{l:List (List UInt8×List CA)}{s:List UInt8}
include ht
theorem aeh{c:List CA}(hb:w.heap[r]? =some (.map es clock))(ha:aK (nu S w) l es.toList)(hl:fT l s=some c):
  ∃us:List Value,(Instr.lookup t (.map (some r)) (str s) true).run P w= .ok (.tuple #[.agg us.toArray,.bool true]) w/\aK (CA.has S w) c us:=by
 obtain⟨k,e,hm,hk,hz⟩:=ht.h;obtain⟨j,us,h1,h2,_⟩:=acW 0 ha hl;refine⟨us.toList,?_,h2⟩;unfold Instr.lookup;simp[run_underlying hm,Go.MapKept.run_getObj_map hb,Go.MapKept.run_checkKey hk (tX s),Go.MapKept.run_findKey hk h1]
theorem amF{c:List CA}{us:List Value}(hb:w.heap[r]? =some (.map es clock))(ha:aK (nu S w) l es.toList)(hu:aK (CA.has S w) c us):
  ∃es' clock',(Instr.mapUpdate t (.map (some r)) (str s) (.agg us.toArray)).run P w= .ok () {w with heap:=w.heap.setIfInBounds r (.map es' clock')}/\aK (nu S w) (jw l s c) es'.toList:=by
 obtain⟨k,e,hm,hk,hz⟩:=ht.h;cases hl:fT l s with
 |none=>
  have h1:=aco (s:=s) 0 ha hl;refine⟨es.push {key:=str s,val:= .agg us.toArray,born:=clock},clock+1,?_,?_⟩
  ·unfold Instr.mapUpdate;simp[run_underlying hm,Go.MapKept.run_getObj_map hb,Go.MapKept.run_checkKey hk (tX s),Go.MapKept.run_findKey hk h1,Go.MapKept.run_setObj_map _ hb]
  ·rw[Array.toList_push];exact afX ⟨rfl,us,rfl,hu⟩ ha hl
 |some d=>
  obtain⟨j,v,h1,⟨f,h3,h4⟩,h5⟩:=afq (c:=c) 0 ha hl;rw[zv7]at h1;have h3':es[j]? =some f:=by rw[<-h3,zw2]
  refine⟨es.modify j fun e=>{e with key:=str s,val:= .agg us.toArray},clock,?_,?_⟩
  ·unfold Instr.mapUpdate;simp[run_underlying hm,Go.MapKept.run_getObj_map hb,Go.MapKept.run_checkKey hk (tX s),Go.MapKept.run_findKey hk h1,Go.MapKept.run_setObj_map _ hb,h3',h4,Go.MapKept.run_keyThatStays (tX s)]
  ·have e9:(es.modify j fun e=>{e with key:=str s,val:= .agg us.toArray}).toList=es.toList.set j {f with key:=str s,val:= .agg us.toArray}:=by
    apply zyb;intro i
    rw[zv2]
    simp only[Array.toList_modify,List.getElem?_modify]
    by_cases hi:j=i
    ·subst hi;obtain⟨hlt,_⟩:=zxg.1 h3
     rw[if_pos rfl,if_pos hlt,h3];simp
    ·rw[if_neg hi];simp[hi]
   rw[e9];exact h5 _ ⟨rfl,us,rfl,hu⟩
end
theorem Eff.auc{E:Env}{S X:Nat->Prop}{w w':World}{b:Nat}{A:mF}{v:Value}
  (hl:∀k,S k->k < w.heap.size) (ho:Off none' w w') (hA:A.has (E.blk b) v X (fun k=>S k\/X k) w')
  (hX:∀k,X k->w.heap.size<=k) (hXl:∀k,X k->k < w'.heap.size) (hone:v.oneCell'=true):
  Eff E S w [] ⟨.own b,[(b,.ent (.abs A))]⟩ v w' ⟨E.blk,upd E.sl b v,upd E.fp b X⟩ (fun k=>S k\/X k):=by
 have hent:∀i e,(i,Slot.ent e)∈[(b,Slot.ent (Ent.abs A))]->i=b/\e= .abs A:=by
  intro i e hi;simp at hi;exact hi
 refine
  {env:=fun i hi=>?_,fpe:=fun i hi=>?_,sub:=fun k hk=> .inl hk,new:=fun k hk=>hk.imp id (hX k),lt:=fun k hk=>?_,off:=ho.mono fun k hk=>hk.elim,res:=⟨by show v=upd E.sl b v b;rw[upd_same],hone⟩,
   ents:=fun i e hi=>?_,blk:=fun i e k hi hk=>?_,sep:=fun i i' e e' k hne h1 h2=>?_}
 ·by_cases e:i=b
  ·subst e;obtain⟨e,he⟩:=hi ⟨_,by simp;rfl⟩
   cases he
  ·exact⟨rfl,upd_ne _ _ e⟩
 ·exact upd_ne _ _ fun e=>hi (.ent (.abs A)) (by simp[e])
 ·rcases hk with hk|hk
  ·exact zqf (hl k hk) ho.size
  ·exact hXl k hk
 ·obtain⟨rfl,rfl⟩:=hent i e hi;show A.has (E.blk i) (upd E.sl i v i) (upd E.fp i X i) _ w';rw[upd_same,upd_same];exact hA
 ·obtain⟨rfl,rfl⟩:=hent i e hi;have hk':upd E.fp i X i k:=hk;rw[upd_same]at hk';exact⟨.inr hk',.inr (hX k hk')⟩
 ·obtain⟨rfl,_⟩:=hent _ _ h1;obtain⟨rfl,_⟩:=hent _ _ h2;exact absurd rfl hne
section
variable{P:Program}{C:Ctx}{st:St}
variable{ops rest:List Oper}{acc:List (List Nat×List Nat)}{K:List (List Nat×List Nat)->St->Prop}{dst:Option Tmp}{d:Tmp}{ty t:TypeId}{x y z:Operand}{zs:List Value}
theorem Go1.makeMap(hd:aC (some d) C.nt=true)(hf:st.hp d= .free)(next:Reg P C ops rest (st.app (some d) ⟨.own d,[(d,.ent (.abs (iT [])))]⟩) (([d],[d])::acc) K):Go1 P C ops (some d) (.makeMap t none) ty rest st acc K:=
 ⟨[d],⟨.own d,[(d,.ent (.abs (iT [])))]⟩,fun o h2 h3 h4=>by
  refine aT.eff [] [] (fun b hb=>?_) (h2▸dR hd) (fun b e hb=>by cases hb) (fun b e hb=>by cases hb) (fun b s hb=>?_) (fun b s hb=>?_) (fun st' E S a w hev hhp hs _ _=>?_)
  ·rcases hb with⟨e,hb⟩|⟨e,hb⟩|⟨s,hb⟩
   ·cases hb
   ·cases hb
   ·simp at hb;simp[hb.1]
  ·simp at hb;rw[hb.1];exact .inr hf
  ·simp at hb;rw[hb.2];rfl
  ·refine⟨⟨fun i hi=>?_,fun b e hb i hi=>?_⟩,fun K Q hK=>?_⟩
   ·simp[AV.ids,AV0.ids,Atom.ids]at hi;subst hi;simp[fZ,Slot.used]
   ·simp at hb
    obtain⟨rfl,rfl⟩:=hb;cases hi
   ·unfold Oper.wp execOp;rw[h3];have hr:(Instr.makeMap t none).run P w= .ok (.map (some w.heap.size)) (w.alloc (.map #[] 0)):=by simp[Instr.makeMap]
    simp only[hr,Option.map_none,Sem.run_bind,Sem.run_pure,Result.andThen_ok];refine hK _ _ _ _ (Eff.auc (X:=fun k=>k=w.heap.size) hs.lt (Off.alloc _ _ _) ⟨w.heap.size,#[],0,rfl,fun k=>Iff.rfl,heap_alloc_new w _,trivial⟩ (fun k hk=>by rw[hk];exact zq6 _) (fun k hk=>?_) rfl)
    rw[hk];show w.heap.size < (w.heap.push _).size;simp,next⟩
theorem Go1.aiR{b:Nat}{l:List (List UInt8×List CA)}{s:List UInt8}{c:List CA}[ht:alu P t zs](hd:aC dst C.nt=true)(hx:st.ev x=some (.own b))(hb:st.hp b= .ent (.abs (iT l)))(hy:st.ev y=some (.v (str s)))(hl:fT l s=some c)
  (next:Reg P C ops rest (st.app dst ⟨.tup [.agg (c.map Atom.c),.one (.c (.val (.bool true)))],[]⟩) (([b],[])::acc) K):Go1 P C ops dst (.lookup t x y true) ty rest st acc K:=
 Go1.dM [(b,.abs (iT l))] [b] zp hd (by simpa using hb) (fun o ho _ st' E S a w hev hs hrd=>by
  obtain⟨⟨hv,_⟩,_⟩:=hs.ev ((hev x (by simp[ho,Op.operands])).trans hx)
  have hyv:a.eval y=str s:=(hs.ev ((hev y (by simp[ho,Op.operands])).trans hy)).1
  have h0:(iT l).has (E.blk b) (E.sl b) (E.fp b) S w:=hs.hp b (.abs (iT l)) (hrd b (.abs (iT l)) zp)
  obtain⟨r,es,clock,h1,h2,h3,h4⟩:=h0;obtain⟨us,hrun,hall⟩:=aeh (P:=P) (t:=t) h3 h4 hl;refine⟨fun i hi=>?_,.tuple #[.agg us.toArray,.bool true],?_,?_⟩
  ·exfalso
   simp only[AV.ids,zq7,AV0.ids,zqd,zqb,zyg,zx9,zqg]at hi;rcases hi with⟨_,⟨_,_,rfl⟩,h⟩|h <;> cases h
  ·unfold execOp;rw[ho];simp[show a.eval x=_ from hv,h1,hyv,hrun]
  ·exact⟨[.agg us.toArray,.bool true],rfl,⟨us,rfl,abx hall⟩,rfl,trivial⟩) next
theorem afj{E:Env}{S:Nat->Prop}{w:World}:∀{m:List CA} {us:List Value},aK (Atom.has E S w) (m.map Atom.c) us->aK (CA.has S w) m us
 |[],[],_=>trivial
 |_::_,_::_,h=>⟨h.1,afj h.2⟩
 |[],_::_,h=>h.elim
 |_::_,[],h=>h.elim
theorem Eff.asw{E:Env}{S:Nat->Prop}{w w':World}{b:Nat}{A A':mF}(hl:∀k,S k->k < w.heap.size)(hS:∀k,E.fp b k->S k)(ho:Off (E.fp b) w w')(hA:A'.has (E.blk b) (E.sl b) (E.fp b) S w'):
  Eff E S w [(b,.abs A)] ⟨.v undef,[(b,.ent (.abs A'))]⟩ undef w' E S:=by
 refine
  {env:=fun i hi=>⟨rfl,rfl⟩,fpe:=fun _ _=>rfl,sub:=fun k hk=>hk,new:=fun k hk=> .inl hk,lt:=fun k hk=>zqf (hl k hk) ho.size,off:=ho.mono fun k hk=>⟨b,_,zq9,hk⟩,
   res:=rfl,ents:=fun i e' hi=>?_,blk:=fun i e' k hi hk=>?_,sep:=fun i i' e' e2 k hne h1 h2=>?_}
 ·simp at hi;obtain⟨rfl,rfl⟩:=hi
  exact hA
 ·simp at hi;obtain⟨rfl,rfl⟩:=hi
  exact⟨hS k hk,.inl ⟨i,_,zq9,hk⟩⟩
 ·simp at h1 h2;exact absurd (h1.1.trans h2.1.symm) hne
theorem Off.setObj{S:Nat->Prop}(w:World)(r:Nat)(o:Obj)(h:S r):Off S w {w with heap:=w.heap.setIfInBounds r o}:=
 ⟨rfl,rfl,rfl,by simp,fun k hk hn=>by
  have hne:k≠r:=fun e=>hn (e▸h)
  show (w.heap.setIfInBounds r o)[k]? =_;rw[Array.getElem?_setIfInBounds,if_neg (fun e=>hne e.symm)]⟩
theorem Go1.putM{b:Nat}{l:List (List UInt8×List CA)}{s:List UInt8}{la:List Atom}{c:List CA}[ht:alu P t zs](hx:st.ev x=some (.own b))(hb:st.hp b= .ent (.abs (iT l)))(hy:st.ev y=some (.v (str s)))(hz:st.ev z=some (.agg la))(hc:aY la=some c)
  (next:Reg P C ops rest (st.app none ⟨.v undef,[(b,.ent (.abs (iT (jw l s c))))]⟩) (([b],[b])::acc) K):Go1 P C ops none (.mapUpdate t x y z) ty rest st acc K:=by
 refine⟨[b],⟨.v undef,[(b,.ent (.abs (iT (jw l s c))))]⟩,fun o h2 h3 h4=>aT.eff [] [(b,.abs (iT l))] (fun i hi=>?_) (h2▸(fun x hx=>by cases hx)) (fun b e hb=>by cases hb) (fun i e hi=>?_) (fun i s hi=>?_) (fun i s hi=>?_) (fun st' E S a w hev hhp hse _ hpre=>?_),next⟩
 ·rcases hi with⟨e,hi⟩|⟨e,hi⟩|⟨s,hi⟩
  ·cases hi
  ·simp at hi;simp[hi.1]
  ·simp at hi;simp[hi.1]
 ·simp at hi
  obtain⟨rfl,rfl⟩:=hi;exact⟨hb,_,by simp;rfl⟩
 ·simp at hi;obtain⟨rfl,_⟩:=hi;exact .inl ⟨_,by simp;rfl⟩
 ·simp at hi;rw[hi.2];rfl
 ·obtain⟨⟨hv,_⟩,_⟩:=hse.ev ((hev x (by simp[h3,Op.operands])).trans hx)
  have hyv:a.eval y=str s:=(hse.ev ((hev y (by simp[h3,Op.operands])).trans hy)).1
  obtain⟨⟨us,hzv,hall⟩,_⟩:=hse.ev ((hev z (by simp[h3,Op.operands])).trans hz)
  have hb':=hpre b (.abs (iT l)) zp
  have h0:(iT l).has (E.blk b) (E.sl b) (E.fp b) S w:=hse.hp b _ hb';have hX:∀k,E.fp b k->S k:=fun k hk=>(hse.blk b _ k hb' hk).1
  obtain⟨r,es,clock,h1,h5,h6,h7⟩:=h0;have hcl:aK (CA.has S w) c us:=by
   rw[eu hc]at hall;exact afj hall
  obtain⟨es',clock',hrun,h8⟩:=amF (P:=P) (t:=t) (s:=s) h6 h7 hcl;have hor:Off (E.fp b) w {w with heap:=w.heap.setIfInBounds r (.map es' clock')}:=Off.setObj w r _ ((h5 r).2 rfl);refine⟨⟨fun i hi=>(by cases hi),fun i e hi j hj=>?_⟩,fun K Q hK=>?_⟩
  ·simp at hi
   obtain⟨rfl,rfl⟩:=hi;cases hj
  ·unfold Oper.wp execOp;rw[h3];simp only[show a.eval x=_ from hv,h1,hyv,show a.eval z=_ from hzv,hrun,Sem.run_bind,Sem.run_pure,Result.andThen_ok]
   refine hK undef _ _ _ (Eff.asw hse.lt hX hor ⟨r,es',clock',h1,h5,(Go.MapKept.heap_set h6).1,h8.mono fun p e _ he=>he.step (hor.mono hX) fun k hk=> .inl hk⟩)
end
section
variable{P:Program}{C:Ctx}{st:St}
variable{ops rest:List Oper}{acc:List (List Nat×List Nat)}{K:List (List Nat×List Nat)->St->Prop}{dst:Option Tmp}{d:Tmp}{ty t:TypeId}{x y z:Operand}{zs:List Value}
theorem G.makeMap(next:Reg P C ops rest (st.app (some d) ⟨.own d,[(d,.ent (.abs (iT [])))]⟩) (([d],[d])::acc) K)(hd:aC (some d) C.nt=true:=by rfl)(hf:st.hp d= .free:=by rfl):Go1 P C ops (some d) (.makeMap t none) ty rest st acc K:=Go1.makeMap hd hf next
theorem G.aiR{b:Nat}{l:List (List UInt8×List CA)}{s:List UInt8}{c:List CA}[ht:alu P t zs](next:Reg P C ops rest (st.app dst ⟨.tup [.agg (c.map Atom.c),.one (.c (.val (.bool true)))],[]⟩) (([b],[])::acc) K)(hd:aC dst C.nt=true:=by rfl)(hx:st.ev x=some (.own b):=by rfl)(hb:st.hp b= .ent (.abs (iT l)):=by rfl)(hy:st.ev y=some (.v (str s)):=by rfl)(hl:fT l s=some c:=by first|(with_reducible assumption)|assumption):Go1 P C ops dst (.lookup t x y true) ty rest st acc K:=Go1.aiR hd hx hb hy hl next
theorem G.putM{b:Nat}{l:List (List UInt8×List CA)}{s:List UInt8}{la:List Atom}{c:List CA}[ht:alu P t zs](next:Reg P C ops rest (st.app none ⟨.v undef,[(b,.ent (.abs (iT (jw l s c))))]⟩) (([b],[b])::acc) K)(hx:st.ev x=some (.own b):=by rfl)(hb:st.hp b= .ent (.abs (iT l)):=by rfl)(hy:st.ev y=some (.v (str s)):=by rfl)(hz:st.ev z=some (.agg la):=by rfl)(hc:aY la=some c:=by rfl):Go1 P C ops none (.mapUpdate t x y z) ty rest st acc K:=Go1.putM hx hb hy hz hc next
end
section
variable{P:Program}{C:Ctx}{st:St}
variable{ops rest:List Oper}{acc:List (List Nat×List Nat)}{K:List (List Nat×List Nat)->St->Prop}{d:Tmp}{ty t:TypeId}{x:Operand}
theorem G.at5{ι:Type}{b bb off:Nat}{φ:ι->Prop}{T:TypeId}{cells:ι->List Atom}{R:ι->List (Nat×Ent)}{u:Value}[ht:iK P t](next:Reg P C ops rest (st.app (some d) ⟨.v u,[]⟩) (([b],[])::acc) K)(hd:aC (some d) C.nt=true:=by rfl)(hx:st.ev x=some (.ptr b off):=by rfl)
  (hb:st.hp b= .ent (.abs (jL bb φ T cells R)):=by rfl) (hr:∀p,(cells p)[off]? =some (.c (.val u)):=by intro p;rfl):Go1 P C ops (some d) (.load t x) ty rest st acc K:=
 Go1.dM [(b,.abs (jL bb φ T cells R))] [b] zp hd (by simpa using hb) (fun o ho _ st' E S a w hev hs hrd=>by
  obtain⟨hv,_⟩:=hs.ev ((hev x (by simp[ho,Op.operands])).trans hx)
  have hb':=hrd b (.abs (jL bb φ T cells R)) zp
  obtain⟨p,E2,_,hB⟩:=hs.hp b _ hb';obtain⟨cs,hg,hall⟩:=hB.box;obtain⟨u',hu,hcu⟩:=hall.get (hr p);have e:u'=u:=hcu;subst e;refine⟨fun i hi=>(by cases hi),u',?_,rfl⟩
  unfold execOp;rw[ho];simp[show a.eval x=_ from hv,Instr.loadAt,Instr.sureAddr,pJ ht w hg hu]) next
end
section
variable{P:Program}{C:Ctx}{st:St}
variable{ops rest:List Oper}{acc:List (List Nat×List Nat)}{K:List (List Nat×List Nat)->St->Prop}{d:Tmp}{ty t:TypeId}
theorem G.ajg{pl:List (Nat×Nat)}{zs:List Value}{parts:Array (Nat×Operand)}{ps:List (Nat×AV0)}{a1 a2 a3 a4 a5 a6 a7 a8 a9 a10 a11 a12 a13 a14 a15 a16 a17:Atom}[ht:dU P t pl][hz:gu P t zs](next:Reg P C ops rest (st.app (some d) ⟨.agg [a1,a2,a3,a4,a5,a6,a7,a8,a9,a10,a11,a12,a13,a14,a15,a16,a17],[]⟩) (([],[])::acc) K)(hd:aC (some d) C.nt=true:=by rfl)(hp:evp st parts.toList=some ps:=by rfl)(h1:(ps.all fun p=>p.2.cells.all Atom.eO)=true:=by rfl)(hf:fV pl (zs.map fun v=>Atom.c (.val v)) ps=some [a1,a2,a3,a4,a5,a6,a7,a8,a9,a10,a11,a12,a13,a14,a15,a16,a17]:=by rfl):Go1 P C ops (some d) (.build t parts) ty rest st acc K:=
 Go1.build hd hp h1 hf next
theorem ak.dW{u:Tmp}{T T':TypeId}{b off:Nat}{cells:List Atom}{a1 a2 a3 a4 a5 a6 a7 a8 a9 a10 a11 a12 a13 a14 a15 a16 a17:Atom}[ht:gH P T 17](h:st.tm u=some (.ptr b off):=by rfl)(hb:st.hp b= .ent (.box T' cells):=by rfl)(hr:(cells.drop off).take 17=[a1,a2,a3,a4,a5,a6,a7,a8,a9,a10,a11,a12,a13,a14,a15,a16,a17]:=by rfl):ak P st (.cell u T) (.agg [a1,a2,a3,a4,a5,a6,a7,a8,a9,a10,a11,a12,a13,a14,a15,a16,a17]):=
 ak.agg h hb (by have:=congrArg List.length hr;simp at this;rw[zva];omega) hr
theorem G.ajT{pl:List (Nat×Nat)}{zs:List Value}{parts:Array (Nat×Operand)}{ps:List (Nat×AV0)}{a1 a2 a3 a4 a5 a6 a7 a8 a9 a10 a11 a12 a13 a14 a15 a16 a17 a18 a19 a20 a21:Atom}[ht:dU P t pl][hz:gu P t zs](next:Reg P C ops rest (st.app (some d) ⟨.agg [a1,a2,a3,a4,a5,a6,a7,a8,a9,a10,a11,a12,a13,a14,a15,a16,a17,a18,a19,a20,a21],[]⟩) (([],[])::acc) K)(hd:aC (some d) C.nt=true:=by rfl)(hp:evp st parts.toList=some ps:=by rfl)(h1:(ps.all fun p=>p.2.cells.all Atom.eO)=true:=by rfl)(hf:fV pl (zs.map fun v=>Atom.c (.val v)) ps=some [a1,a2,a3,a4,a5,a6,a7,a8,a9,a10,a11,a12,a13,a14,a15,a16,a17,a18,a19,a20,a21]:=by rfl):Go1 P C ops (some d) (.build t parts) ty rest st acc K:=
 Go1.build hd hp h1 hf next
end
section
variable{P:Program}{C:Ctx}{st:St}{ops rest:List Oper}{acc:List (List Nat×List Nat)}{K:List (List Nat×List Nat)->St->Prop}{dst:Option Tmp}{ty t:TypeId}{x:Operand}{α:Type}
theorem G.ajV{tO tI:TypeId}{b size i j:Nat}{enc:α->List CA}{js:List Nat}{c:List (List α)}{r:List α}{a:α}{c1 c2:CA}[ht:gH P t 2][he:eY enc 2](next:Reg P C ops rest (st.app dst ⟨.agg [.c c1,.c c2],[]⟩) (([b],[])::acc) K)(hd:aC dst C.nt=true:=by rfl)(hx:st.ev x=some (.it (.one (.rel b (rF (j+1) (i*2))))):=by rfl)(hb:st.hp b= .ent (.abs (iE tO tI size enc js c)):=by rfl)(hj:c[j]? =some r:=by assumption)(ha:r[i]? =some a:=by assumption)(h4:enc a=[c1,c2]:=by rfl):Go1 P C ops dst (.load t x) ty rest st acc K:=
 Go1.ahC (l:=[c1,c2]) hd hx hb hj ((wR (enc:=enc) (size:=2) ha).trans h4) rfl next
theorem Go1.aip{n:Nat}{cells l:List CA}[ht:gH P t n](hd:aC dst C.nt=true)(hx:st.ev x=some (.r (dK cells)))(hl:cells.take n=l)(hn:l.length=n)
  (next:Reg P C ops rest (st.app dst ⟨.agg (l.map Atom.c),[]⟩) (([],[])::acc) K):Go1 P C ops dst (.load t x) ty rest st acc K:=
 Go1.dM [] [] zp hd zp (fun o ho _ st' E S a w hev hs _=>by
  obtain⟨h0,_⟩:=hs.ev ((hev x (by simp[ho,Op.operands])).trans hx)
  obtain⟨b,o',hv,h6⟩:=abB.1 h0;have h7:∀i c,l[i]? =some c->∃u,¬S b/\w.cell? ⟨b,o'+i,none⟩=some u/\c.has S w u:=fun i c hi=>by
   rw[<-hl,zy9]at hi
   split at hi
   ·exact h6 i c hi
   ·cases hi
  have hex:=xB (E:=E) l o' h7;obtain⟨us,hall,hus⟩:=hex;have hlen:=hall.length;have hrun:=run_loadCells_list (P:=P) w ⟨b,o',none⟩ us hus;have hsz:(P.info? t).map (·.size)=some us.length:=by rw[ht.s,<-hn];simp at hlen;rw[hlen]
  refine⟨fun j hj=>?_,.agg us.toArray,?_,us,rfl,hall⟩
  ·simp only[AV.ids,AV0.ids,zx9]at hj;obtain⟨c,hc,hj⟩:=hj;obtain⟨c',_,rfl⟩:=zqg.1 hc;cases hj
  ·unfold execOp;rw[ho];simp[hv,Instr.loadAt,Instr.sureAddr,loadVar,iq ht.h,run_sizeOf hsz,hrun]) next
theorem G.aks{c1 c2:CA}{cells:List CA}[ht:gH P t 2](next:Reg P C ops rest (st.app dst ⟨.agg [.c c1,.c c2],[]⟩) (([],[])::acc) K)(hd:aC dst C.nt=true:=by rfl)(hx:st.ev x=some (.r (dK cells)):=by rfl)(hl:cells.take 2=[c1,c2]:=by rfl):Go1 P C ops dst (.load t x) ty rest st acc K:=
 Go1.aip hd hx hl rfl next
theorem G.aiG{c1 c2 c3:CA}{cells:List CA}[ht:gH P t 3](next:Reg P C ops rest (st.app dst ⟨.agg [.c c1,.c c2,.c c3],[]⟩) (([],[])::acc) K)(hd:aC dst C.nt=true:=by rfl)(hx:st.ev x=some (.r (dK cells)):=by rfl)(hl:cells.take 3=[c1,c2,c3]:=by rfl):Go1 P C ops dst (.load t x) ty rest st acc K:=
 Go1.aip hd hx hl rfl next
theorem G.aje{c1 c2 c3 c4:CA}{cells:List CA}[ht:gH P t 4](next:Reg P C ops rest (st.app dst ⟨.agg [.c c1,.c c2,.c c3,.c c4],[]⟩) (([],[])::acc) K)(hd:aC dst C.nt=true:=by rfl)(hx:st.ev x=some (.r (dK cells)):=by rfl)(hl:cells.take 4=[c1,c2,c3,c4]:=by rfl):Go1 P C ops dst (.load t x) ty rest st acc K:=
 Go1.aip hd hx hl rfl next
end
structure HeldM(q:Prop):Prop where
 out:q
theorem zg{p q:Prop}(h:q)(k:HeldM q->p:=by
  intro h
  repeat1' (first
   |(refine SX.Go1.is ?_;first
     |(refine SX.Go1.isLoad ?_;first|refine SX.G.acI ?_|refine SX.G.acG ?_|refine SX.G.xK ?_|refine SX.G.yF ?_|refine SX.G.acY ?_|refine SX.G.yE ?_|refine SX.G.load5 ?_|refine SX.G.aox ?_|refine SX.G.apZ ?_|refine SX.G.ai2 ?_|refine SX.G.ai5 ?_|refine SX.G.ajJ ?_|refine SX.G.ajV ?_|refine SX.G.ahC ?_|refine SX.G.akq ?_|refine SX.G.loadOW2 ?_|refine SX.G.adg ?_|refine SX.G.yt ?_|refine SX.G.aev ?_|refine SX.G.aaU ?_)
     |(refine SX.Go1.ajz ?_;first|refine SX.G.lss ?_|refine SX.G.eql ?_|refine SX.G.eqlNilT ?_|refine SX.G.eqlNilF ?_|refine SX.G.neq ?_|refine SX.G.gtr ?_|refine SX.G.geq ?_|refine SX.G.leq ?_|refine SX.G.addN ?_|refine SX.G.aiP ?_|refine SX.G.subN ?_|refine SX.G.subNu ?_|refine SX.G.add ?_|refine SX.G.sub ?_|refine SX.G.mulN ?_|refine SX.G.ajA ?_|refine SX.G.mul ?_|refine SX.G.quoN ?_|refine SX.G.aiT ?_|refine SX.G.quo ?_|refine SX.G.remN ?_|refine SX.G.ajp ?_|refine SX.G.rem ?_|refine SX.G.eqlT ?_|refine SX.G.atD ?_|refine SX.G.asP ?_|refine SX.G.asQ ?_|refine SX.G.neqT ?_|refine SX.G.ak9 ?_|refine SX.G.alg ?_|refine SX.G.shr ?_|refine SX.G.shl ?_|refine SX.G.and ?_|refine SX.G.alk ?_)
     |(refine SX.Go1.isUn ?_;first|refine SX.G.not ?_|refine SX.G.neg ?_)
     |(refine SX.Go1.isField ?_;first|refine SX.G.fieldAddr ?_|refine SX.G.lG ?_)
     |(refine SX.Go1.aan ?_;first|refine SX.G.ao4 ?_|refine SX.G.apG ?_|refine SX.G.yA ?_|refine SX.G.xS ?_|refine SX.G.xY ?_|refine SX.G.build5 ?_|refine SX.G.ajG ?_|refine SX.G.ajg ?_|refine SX.G.ajT ?_|refine SX.G.build ?_)
     |(refine SX.Go1.aah ?_;first|refine SX.G.store ?_|refine SX.G.aer ?_|refine SX.G.ad5 ?_|refine SX.G.aaf ?_|refine SX.G.ab1 ?_|refine SX.G.y9 ?_)
     |(refine SX.Go1.isIx ?_;first|refine SX.G.qE ?_|refine SX.G.pV ?_|refine SX.G.kQ ?_|refine SX.G.pX ?_|refine SX.G.kR ?_|refine SX.G.indexAddrA ?_|refine SX.G.indexAddrG ?_)
     |(refine SX.Go1.wB ?_;first|refine SX.G.lit0Own ?_|refine SX.G.litH ?_|refine SX.G.adR ?_|refine SX.G.akx ?_|refine SX.G.lit2 ?_|refine SX.G.lit3 ?_|refine SX.G.alr ?_)
     |(refine SX.Go1.dw ?_;first|refine SX.G.minN ?_|refine SX.G.maxN ?_|refine SX.G.maxL ?_|refine SX.G.maxR ?_|refine SX.G.alL ?_|refine SX.G.lenN ?_|refine SX.G.lenT ?_|refine SX.G.aq4 ?_|refine SX.G.aml ?_|refine SX.G.aai ?_|refine SX.G.appendNilW ?_|refine SX.G.ajI ?_|refine SX.G.sliceDataN ?_|refine SX.G.ab7 ?_|refine SX.G.unsafeStrN ?_|refine SX.G.aa8 ?_|refine SX.G.lenH ?_|refine SX.G.aaj ?_|refine SX.G.ate ?_|refine SX.G.atq ?_|refine SX.G.akb ?_|refine SX.G.aas ?_|refine SX.G.call ?_)
     |refine SX.G.move ?_|refine SX.G.assign ?_|refine SX.G.extract ?_|refine SX.G.boxN ?_|refine SX.G.box ?_|refine SX.G.aa0 ?_|refine SX.G.alloc ?_|refine SX.G.acz ?_|refine SX.G.nilCheckR ?_|refine SX.G.mkfn ?_|refine SX.G.asN ?_|refine SX.G.atb ?_|refine SX.G.atl ?_|refine SX.G.pick ?_|refine SX.R.aiU ?_|refine SX.R.ajo ?_|refine SX.G.pickB ?_|refine SX.G.pickV ?_|refine SX.G.ajY ?_|refine SX.G.aiK ?_|refine SX.G.makeC ?_|refine SX.G.ajx ?_|refine SX.G.conv ?_|refine SX.G.adY ?_|refine SX.G.aoB ?_|refine SX.G.sliceH ?_|refine SX.G.wG ?_|refine SX.G.sliceLoW ?_|refine SX.G.su ?_|refine SX.G.sliceLoR ?_|refine SX.G.sG ?_|refine SX.G.vQ ?_|refine SX.G.wW ?_|refine SX.G.sliceLHT ?_|refine SX.G.at5 ?_|refine SX.G.loadB15 ?_|refine SX.G.aiR ?_|refine SX.G.lookM0 ?_|refine SX.G.putM ?_|refine SX.G.makeMap ?_|refine SX.G.aiG ?_|refine SX.G.aje ?_|refine SX.G.aks ?_|refine SX.G.aqf ?_|refine SX.G.adF ?_|refine SX.G.sI ?_|refine SX.G.rY ?_|refine SX.G.sliceLHS ?_|refine SX.G.abr ?_)
   |(refine SX.Reg.is ?_;first|refine SX.Reg.go ?_|refine SX.R.runT ?_|refine SX.R.runF ?_|refine SX.R.aiE ?_|refine SX.R.ajS ?_|refine SX.R.acN ?_|refine SX.Reg.nil ⟨z6,?_⟩|refine SX.Reg.nil ?_)
   |(refine WP.is ?_;first|refine WP.seq ?_|refine WP.ajO (by rfl) ?_|refine WP.ag2 (by rfl) z6 ?_|refine WP.block ?_|refine WP.skip ?_|refine WP.exit ?_|refine WP.ret ?_|refine WP.label ?_|refine SX.W.akg ?_|refine SX.W.abz ?_)
   |refine SX.aeU ?_|refine SX.aoc ?_|refine SX.atg ?_|refine SX.ap2 ?_|refine SX.apW ?_|refine SX.ah2 ?_|refine SX.aoL rfl ?_|refine SX.retR ?_|refine SX.retN ?_|refine SX.atp ?_|refine SX.ato ?_)
  exact h.out):p:=k ⟨h⟩
end
end
section
open Go Go.RowKit Go.ChangeShapes Go.WideShapes Go.ChangeAt Go.Joins
section
variable{H:Type}{enc:TypeId×Value->H}{P:Program}{W:World}{base:Nat}{sp:Nat->Bool}{hd:Bool}
end
end
end SX
set_option linter.unusedSectionVars false
namespace Go.Proofs.YthnkfhfcgjoieaaGreatDoor
namespace FM
def ch:Nat->Nat->Nat
 |_,0=>1
 |0,_+1=>0
 |n+1,k+1=>ch n k+ch n (k+1)
def bs(f:Nat->Nat):Nat->Nat
 |0=>0
 |m+1=>bs f m+f m
section
variable{p:Nat}(hp:∀d,d ∣ p->d=1\/d=p)(h2:2<=p)
include hp h2
end
end FM
end Go.Proofs.YthnkfhfcgjoieaaGreatDoor
namespace SX
open Go Go.RowKit
def B3(C:Ctx):Prop:=∀k,C.B k->k=C.E0.blk 81\/C.E0.sl 82= .map (some k)\/(C.E0.sl 84).ownBlock=some k
abbrev xG(t:TypeId)(cs:List Atom)(l:List (List UInt8×List CA))(t2:TypeId)(size n:Nat)(cells:List CA):List (Nat×Ent):=[(81,.box t cs),(82,.abs (iT l)),(84,.row t2 size n cells)]
theorem aj.fnM{P:Program}{f:FuncId}{fn:Func}{c:Code}{args:List AV}{t:TypeId}{cs:List Atom}{l:List (List UInt8×List CA)}{t2:TypeId}{size n:Nat}{cells:List CA}{out:Out}{nt:Nat}{rs:List ResultVar}(hf:P.funcs[f]? =some fn)(hres:fn.results=rs.toArray)(hnt:fn.ntmps=nt)(hb:fn.body=some c)(hn:(fn.name== "runtime.NumGoroutine")=false)(hna:Nat.ble args.length nt=true)
  (p3:(args.all fun v=>v.ids.all (jv [81,82,84]))=true) (p4:(cs.all fun a=>a.ids.all (jv [81,82,84]))=true) (p5:([81,82,84].all (jv (out.hp.map (·.1))))=true)
  (p6:((out.res.ids++out.hp.flatMap fun p=>p.2.ids).all fun i=>jv [81,82,84] i||jv (out.hp.map (·.1)) i)=true)
  (h:∀(w0:World) (T B:Nat->Prop) (E0:Env),B3 ⟨w0,T,B,nt,E0,fun b=>(lk (xG t cs l t2 size n cells) b).isSome⟩->WP P ⟨w0,T,B,nt,E0,fun b=>(lk (xG t cs l t2 size n cells) b).isSome⟩ c ⟨fun t=>args[t]?,fun b=>match lk (xG t cs l t2 size n cells) b with|some e=> .ent e|none=> .free⟩ (bD ⟨w0,T,B,nt,E0,fun b=>(lk (xG t cs l t2 size n cells) b).isSome⟩ P rs out)):aj P f args (xG t cs l t2 size n cells) out:=by
 have e0:(xG t cs l t2 size n cells).map (·.1)=[81,82,84]:=rfl;have p1:nodupB ((xG t cs l t2 size n cells).map (·.1))=true:=rfl;have e1:(fun b=>((xG t cs l t2 size n cells).lookup b).isSome)=fun b=>(lk (xG t cs l t2 size n cells) b).isSome:=funext fun b=>by rw[gy]
 have e2:jy args (xG t cs l t2 size n cells)=⟨fun t=>args[t]?,fun b=>match lk (xG t cs l t2 size n cells) b with|some e=> .ent e|none=> .free⟩:=by
  unfold jy
  congr 1
  funext b
  rw[gy];cases lk (xG t cs l t2 size n cells) b <;> rfl
 have key:∀i,jv [81,82,84] i=true->((xG t cs l t2 size n cells).lookup i).isSome=true:=fun i hi=>by rw[gy];exact nH (fE.1 hi)
 have hm3:∀b e,(b,e)∈xG t cs l t2 size n cells->(b=81/\e= .box t cs)\/(b=82/\e= .abs (iT l))\/(b=84/\e= .row t2 size n cells):=fun b e hb=>by simpa using hb
 refine aj.fnH hf hres hnt hb hn hna (fun b e hb=>by rw[gy];exact ae0 p1 hb) (fun v hv i hi=>key i (zqh.1 (zqh.1 p3 v hv) i hi)) (fun b e hb i hi=>?_) (fun b e hb=>?_) (fun i hi=>?_) (fun w0 T B E0 hB hH=>?_)
 ·rcases hm3 b e hb with⟨rfl,rfl⟩|⟨rfl,rfl⟩|⟨rfl,rfl⟩
  ·obtain⟨a,ha,hi⟩:=zx9.1 (show i∈cs.flatMap Atom.ids from hi)
   exact key i (zqh.1 (zqh.1 p4 a ha) i hi)
  ·cases hi
  ·cases hi
 ·have hmem:b∈[81,82,84]:=by rw[<-e0];exact zqg.2 ⟨(b,e),hb,rfl⟩
  obtain⟨⟨b',s⟩,hs,rfl⟩:=zqg.1 (fE.1 (zqh.1 p5 b hmem));exact⟨s,hs⟩
 ·have hi':i∈out.res.ids++out.hp.flatMap fun p=>p.2.ids:=by
   rw[zyg];rcases hi with hi|⟨b,e,hb,hi⟩
   ·exact .inl hi
   ·exact .inr (zx9.2 ⟨(b,.ent e),hb,hi⟩)
  have:=zqh.1 p6 i hi';rw[Bool.or_eq_true]at this;rcases this with h|h
  ·exact .inl (key i h)
  ·obtain⟨⟨b',s⟩,hs,rfl⟩:=zqg.1 (fE.1 h);exact .inr ⟨s,hs⟩
 ·rw[e1,e2];refine WP.bD (h w0 T B E0 fun k hk=>?_)
  obtain⟨b,e,hb,hk⟩:=hB k hk;obtain⟨S,w,hh⟩:=hH b e hb;rcases hm3 b e hb with⟨rfl,rfl⟩|⟨rfl,rfl⟩|⟨rfl,rfl⟩
  ·exact .inl (zy7 hk).symm
  ·obtain⟨r,es,clock,h1,h2,_⟩:=hh;exact .inr (.inl (by
    show E0.sl 82=_;rw[h1,(h2 k).1 hk]))
  ·exact .inr (.inr hk)
theorem St.ai7{C:Ctx}{st:St}{b size n:Nat}{t:TypeId}{cells:List CA}{t1:TypeId}{cs:List Atom}{l:List (List UInt8×List CA)}{t2:TypeId}{size2 n2:Nat}{cells2:List CA}(hB:B3 C)(h81:st.hp 81= .ent (.box t1 cs))(h82:st.hp 82= .ent (.abs (iT l)))(h84:st.hp 84= .ent (.row t2 size2 n2 cells2))
  (f1:C.fix 81=true) (f2:C.fix 82=true) (f3:C.fix 84=true) (hne:(Nat.beq b 81||Nat.beq b 82||Nat.beq b 84)=false) (hb:st.hp b= .ent (.row t size n cells)):St.le C st (st.frz b size n cells):=
 St.ad3 (fun E S a w hs k hk=>((hs.blk b _ k hb hk).2).elim (fun hk'=>by
  have n1:b≠81:=fun e=>by subst e;simp at hne
  have n2:b≠82:=fun e=>by subst e;simp at hne
  have n3:b≠84:=fun e=>by subst e;simp at hne
  rcases hB k hk' with h|h|h
  ·refine absurd ?_ (hs.sep b 81 _ _ _ n1 hb h81 hk);show some (E.blk 81)=some k;rw[(hs.env 81 f1).1,h]
  ·refine absurd ?_ (hs.sep b 82 _ _ _ n2 hb h82 hk);obtain⟨r,es,clock,g1,g2,_⟩:=hs.hp 82 _ h82;rw[(hs.env 82 f2).2.1,h]at g1;show E.fp 82 k;rw[g2]
   injection g1 with g1
   exact zy7 g1
  ·refine absurd ?_ (hs.sep b 84 _ _ _ n3 hb h84 hk);show (E.sl 84).ownBlock=some k;rw[(hs.env 84 f3).2.1,h]) id) hb
theorem WP.ajk{P:Program}{C:Ctx}{st:St}{Q:Exit->St->Prop}{c:Code}{t:TypeId}(b:Nat){size n:Nat}{cells:List CA}{t1:TypeId}{cs:List Atom}{l:List (List UInt8×List CA)}{t2:TypeId}{size2 n2:Nat}{cells2:List CA}(hB:B3 C)(hb:st.hp b= .ent (.row t size n cells))(h81:st.hp 81= .ent (.box t1 cs))(h82:st.hp 82= .ent (.abs (iT l)))(h84:st.hp 84= .ent (.row t2 size2 n2 cells2))
  (h:WP P C c (st.frz b size n cells) Q) (f1:C.fix 81=true:=by rfl) (f2:C.fix 82=true:=by rfl) (f3:C.fix 84=true:=by rfl) (hne:(Nat.beq b 81||Nat.beq b 82||Nat.beq b 84)=false:=by rfl):WP P C c st Q:=
 WP.weaken (St.ai7 hB h81 h82 h84 f1 f2 f3 hne hb) h
theorem aM.frzM{P:Program}{C:Ctx}{st:St}{rs:List ResultVar}{out:Out}{t:TypeId}(b:Nat){size n:Nat}{cells:List CA}{t1:TypeId}{cs:List Atom}{l:List (List UInt8×List CA)}{t2:TypeId}{size2 n2:Nat}{cells2:List CA}(hB:B3 C)(hb:st.hp b= .ent (.row t size n cells))(h81:st.hp 81= .ent (.box t1 cs))(h82:st.hp 82= .ent (.abs (iT l)))(h84:st.hp 84= .ent (.row t2 size2 n2 cells2))
  (h:aM C P rs out (st.frz b size n cells)) (f1:C.fix 81=true:=by rfl) (f2:C.fix 82=true:=by rfl) (f3:C.fix 84=true:=by rfl) (hne:(Nat.beq b 81||Nat.beq b 82||Nat.beq b 84)=false:=by rfl):aM C P rs out st:=by
 obtain⟨s',hl,hr⟩:=h;exact⟨s',fun a w hs=>hl a w (St.ai7 hB h81 h82 h84 f1 f2 f3 hne hb a w hs),hr⟩
theorem aj.bun{P:Program}{f:FuncId}{args:List AV}{r:AV}{b:Nat}{t:TypeId}{cells cells':List Atom}{R R':List (Nat×Ent)}(h:aj P f args ((b,.box t cells)::R) ⟨r,(b,.ent (.box t cells'))::R'.map fun q=>(q.1,.ent q.2)⟩)
  (hargs:∀v∈args,∀i∈v.ids,i=b) (hr:r.ids=[]) (hbn:∀e,(b,e)∉R'):
  aj P f args [(b,.abs (jL b (fun _:Unit=>True) t (fun _=>cells) (fun _=>R)))] ⟨r,[(b,.ent (.abs (jL b (fun _:Unit=>True) t (fun _=>cells') (fun _=>R'))))]⟩:=by
 obtain⟨h0,h⟩:=h;refine⟨h0,fun E S w vs hl hgl hall hpre hblk hsep=>?_⟩
 obtain⟨p,Ep,⟨hs1,hs2⟩,hB⟩:∃(p:Unit) (Ep:Env),(Ep.blk b=E.blk b/\Ep.sl b=E.sl b)/\y8 (fun _:Unit=>True) t (fun _=>cells) (fun _=>R) (E.blk b) (E.fp b) S w p Ep:=hpre b _ (zxi.2 rfl)
 have hX:∀k,E.fp b k->S k:=fun k hk=>hblk b _ k (zxi.2 rfl) hk
 have hmem:∀i e,(i,e)∈(b,Ent.box t cells)::R->(i=b/\e= .box t cells)\/(i,e)∈R:=fun i e hi=>by
  rcases zy3.1 hi with hi|hi
  ·cases hi;exact .inl ⟨rfl,rfl⟩
  ·exact .inr hi
 have hfp:∀i e k,(i,e)∈(b,Ent.box t cells)::R->e.at Ep i k->E.fp b k:=fun i e k hi hk=>by
  rcases hmem i e hi with⟨rfl,rfl⟩|hi
  ·have hk':some (Ep.blk i)=some k:=hk;rw[hs1]at hk';exact(hB.X k).2 (.inl (zy7 hk').symm)
  ·exact(hB.X k).2 (.inr ⟨i,e,hi,hk⟩)
 have hv:aK (AV.has Ep S w) args vs:=hall.mono fun a v ha hav=>hav.step (fun i hi=>by rw[hargs a ha i hi];exact⟨hs1,hs2⟩) (Off.refl S w) (fun k hk=> .inl hk)
 refine(h Ep S w vs hl hgl hv (fun i e hi=>?_) (fun i e k hi hk=>hX k (hfp i e k hi hk)) (fun i i' e e' k hne hi hi' hk hk'=>?_)).mono fun e w' ⟨v,E2,S2,he,hE⟩=>?_
 ·rcases hmem i e hi with⟨rfl,rfl⟩|hi
  ·obtain⟨cs,g1,g2⟩:=hB.box;exact⟨cs,by rw[hs1];exact g1,g2⟩
  ·exact hB.ents i e hi
 ·rcases hmem i e hi with⟨e1,rfl⟩|hm
  ·rcases hmem i' e' hi' with⟨e2,rfl⟩|hm'
   ·exact hne (e1.trans e2.symm)
   ·have hk1:some (Ep.blk i)=some k:=hk;rw[e1,hs1]at hk1;exact hB.sepb i' e' hm' ((zy7 hk1)▸hk')
  ·rcases hmem i' e' hi' with⟨e2,rfl⟩|hm'
   ·have hk1:some (Ep.blk i')=some k:=hk';rw[e2,hs1]at hk1;exact hB.sepb i e hm ((zy7 hk1)▸hk)
   ·exact hB.sep i i' e e' k hne hm hm' hk hk'
 ·have hb2:Ep.at' E2 b:=hE.env b fun _=>⟨_,zq9⟩
  have hq:∀i e,(i,e)∈R'->(i,Slot.ent e)∈(b,Slot.ent (.box t cells'))::R'.map fun q=>(q.1,Slot.ent q.2):=fun i e hi=>zy2 _ (zqg.2 ⟨(i,e),hi,rfl⟩)
  have hbb:some (E2.blk b)=some (E.blk b):=by rw[hb2.1,hs1]
  have hfp2:∀k,(∃i e,(i,e)∈(b,Ent.box t cells)::R/\e.at Ep i k)->∃i e,(i,e)∈[(b,Ent.abs (jL b (fun _:Unit=>True) t (fun _=>cells) (fun _=>R)))]/\e.at E i k:=fun k ⟨i,e,hi,hk⟩=>⟨b,_,zxi.2 rfl,hfp i e k hi hk⟩
  have hX':∀k,(k=E.blk b\/∃i e,(i,e)∈R'/\e.at E2 i k)->S2 k/\((∃i e,(i,e)∈[(b,Ent.abs (jL b (fun _:Unit=>True) t (fun _=>cells) (fun _=>R)))]/\e.at E i k)\/w.heap.size<=k):=fun k hk=>by
   rcases hk with rfl|⟨i,e,hi,hk⟩
   ·have:=hE.blk b _ (E.blk b) zq9 hbb;exact⟨this.1,this.2.imp (hfp2 _) id⟩
   ·have:=hE.blk i e k (hq i e hi) hk;exact⟨this.1,this.2.imp (hfp2 _) id⟩
  have hone:∀i e',(i,Slot.ent e')∈[(b,Slot.ent (Ent.abs (jL b (fun _:Unit=>True) t (fun _=>cells') (fun _=>R'))))]->i=b/\e'= .abs (jL b (fun _:Unit=>True) t (fun _=>cells') (fun _=>R')):=fun i e' hi=>by simpa using hi
  refine⟨v,⟨E.blk,E.sl,upd E.fp b fun k=>k=E.blk b\/∃i e,(i,e)∈R'/\e.at E2 i k⟩,S2,he,
   {env:=fun i _=>⟨rfl,rfl⟩,fpe:=fun i hi=>upd_ne _ _ fun e=>hi (.ent (.abs (jL b (fun _:Unit=>True) t (fun _=>cells') (fun _=>R')))) (by simp[e]),sub:=hE.sub,new:=hE.new,lt:=hE.lt,off:=hE.off.mono hfp2,
    res:=hE.res.step (fun i hi=>by rw[hr]at hi;cases hi) (Off.refl _ _) (fun k hk=> .inl hk),ents:=fun i e' hi=>?_,blk:=fun i e' k hi hk=>?_,sep:=fun i i' e1 e2 k hne h1 h2=>?_}⟩
  ·obtain⟨rfl,rfl⟩:=hone i e' hi;show (jL i (fun _:Unit=>True) t (fun _=>cells') (fun _=>R')).has (E.blk i) (E.sl i) (upd E.fp i _ i) S2 w'
   rw[upd_same];obtain⟨cs,g1,g2⟩:=hE.ents i _ zq9;refine⟨(),E2,⟨hb2.1.trans hs1,hb2.2.trans hs2⟩,{φ:=trivial,box:=⟨cs,by rw[<-zy7 hbb];exact g1,g2⟩,ents:=fun j e hj=>hE.ents j e (hq j e hj),sep:=fun j j' e e' k hne hj hj'=>hE.sep j j' e e' k hne (hq j e hj) (hq j' e' hj'),sepb:=fun j e hj hk=>?_,X:=fun k=>Iff.rfl}⟩
   by_cases hji:j=i
   ·subst hji;exact hbn e hj
   ·exact hE.sep i j _ e (E.blk i) (fun e=>hji e.symm) zq9 (hq j e hj) hbb hk
  ·obtain⟨rfl,rfl⟩:=hone i e' hi;have hk':upd E.fp i _ i k:=hk;rw[upd_same]at hk';exact hX' k hk'
  ·obtain⟨rfl,_⟩:=hone _ _ h1;obtain⟨rfl,_⟩:=hone _ _ h2;exact absurd rfl hne
def aq8:AV0->AV0
 | .one (.clo f [])=> .one (.c (.val (.func (.func f) #[] #[])))
 |x=>x
theorem aqy{E:Env}{S:Nat->Prop}{w:World}{x:AV0}{v:Value}(h:x.has E S w v):(aq8 x).has E S w v:=by
 unfold aq8
 split
 ·exact h
 ·exact h
theorem afb{E:Env}{S:Nat->Prop}{w:World}:∀{l:List (Nat×AV0)} {us:List (Nat×Value)},aK (fun p q=>p.1=q.1/\p.2.has E S w q.2) l us->aK (fun p q=>p.1=q.1/\p.2.has E S w q.2) (l.map fun p=>(p.1,aq8 p.2)) us
 |[],[],_=>trivial
 |_::_,_::_,h=>⟨⟨h.1.1,aqy h.1.2⟩,afb h.2⟩
 |[],_::_,h=>h.elim
 |_::_,[],h=>h.elim
section
variable{P:Program}{C:Ctx}{st:St}
variable{ops rest:List Oper}{acc:List (List Nat×List Nat)}{K:List (List Nat×List Nat)->St->Prop}{dst:Option Tmp}{d:Tmp}{ty t:TypeId}
theorem ah1{o:Oper}{st':St}{E:Env}{S:Nat->Prop}{a:Act}{w:World}{e:TypeId}{n size bytes:Nat}{zs:List Value}{parts:Array (Nat×Operand)}{ps:List (Nat×AV0)}{l:List Atom}{m:List CA}[ht:bT P t e size][he:fH P e zs bytes]
  (hs:nE C st' E S a w) (h3:o.op= .buildSlice t n parts) {ps0:List (Nat×AV0)} (hp':evp st' parts.toList=some ps0) (hps:ps0.map (fun p=>(p.1,aq8 p.2))=ps) (h1:(ps.all fun p=>p.2.cells.all Atom.eO&&Nat.blt p.1 n)=true) (hn:Nat.ble (n*size) 16777216=true)
  (hfl:fV (placesOf n size) ((madeCells zs.toArray (n*size)).toList.map fun v=>Atom.c (.val v)) ps=some l) (hc:aY l=some m) (hm:Nat.beq m.length (n*size)=true):
  ∃us:List Value,(execOp a.eval o).run P w= .ok (.value (.slice (some ⟨w.heap.size,0,none⟩) n n)) (w.alloc (.cells us.toArray e))/\us.length=n*size/\aK (CA.has S w) m us/\n<=maxLen:=by
  obtain⟨hall0,hids⟩:=vC hs hp';have hall:=afb hall0;rw[hps]at hall;obtain⟨i,z,hi,hz,hcz,hsz,hby⟩:=oP he ht.s;rw[zqh]at h1;rw[zva]at hn;obtain⟨us,hfill,hus⟩:=sD (w:=w) (cs:=(madeCells zs.toArray (n*size)).toList) hall (fun p hp=>by have:=h1 p hp;simp only[zx4]at this;exact this.1) (lq _) hfl
  have hlen:us.length=n*size:=by
   have h6:=hus.length;rw[eu hc]at h6;simp at h6
   have:=Nat.eq_of_beq_eq_true hm;omega
  have hqi:∀q∈parts.toList.map (fun x=>(x.1,a.eval x.2)),(fun i=>(placesOf n size)[i]?) q.1=(fun i=>some (i*size,size)) q.1:=by
   intro q hq;obtain⟨j,hj⟩:=List.mem_iff_getElem?.1 hq;obtain⟨p,hpj,hpq,_⟩:=hall.get' hj;have:=h1 p (zq4 hpj);simp only[zx4,Nat.blt_eq]at this;have hlt:q.1 < n:=by rw[<-hpq];exact this.2
   simp[placesOf,hlt]
  rw[pY (p:=fun i=>(placesOf n size)[i]?) (p':=fun i=>some (i*size,size)) _ _ hqi]at hfill
  refine⟨us,?_,hlen,iH (by rw[<-eu hc];exact hus),?_⟩
  ·unfold execOp;rw[h3];have hparts:(parts.map fun x=>(x.1,a.eval x.2)).toList=parts.toList.map fun x=>(x.1,a.eval x.2):=by simp
   have hgt:¬n*size > 2 ^ 24:=zE
   simp only[Instr.buildSlice,Sem.run_bind,run_underlying ht.h,Result.andThen_ok,run_sizeOf ht.s,hparts];rw[if_neg hgt];by_cases h0:n*size=0
   ·have he0:(madeCells zs.toArray (n*size)).toList.toArray=(Array.range (n*size)).map ((#[]:Array Value)[· % (#[]:Array Value).size]!):=by rw[h0];simp[madeCells]
    rw[he0]at hfill;rw[if_pos h0];simp only[Sem.run_bind,Sem.run_pure,Result.andThen_ok];rw[hfill];simp[newRow]
   ·have he0:(madeCells zs.toArray (n*size)).toList.toArray=(Array.range (n*size)).map (zs.toArray[· % zs.toArray.size]!):=by rw[Array.toArray_toList];rfl
    rw[he0]at hfill;rw[if_neg h0];simp only[Sem.run_bind,Sem.run_pure,Result.andThen_ok,zeroValue,typeInfo,run_program,hi,hz,hcz];rw[hfill];simp[newRow]
  ·by_cases h0:n=0
   ·subst h0;simp[maxLen]
   ·have:=ht.p;have h7:n*1<=n*size:=zx8 _ this;simp only[maxLen];omega
theorem Go1.yZ{dst:Option Tmp}{e:TypeId}{n size bytes:Nat}{zs:List Value}{parts:Array (Nat×Operand)}{ps:List (Nat×AV0)}{l:List Atom}{m:List CA}[ht:bT P t e size][he:fH P e zs bytes](hd:aC dst C.nt=true)
  {ps0:List (Nat×AV0)} (hp:evp st parts.toList=some ps0) (hps:ps0.map (fun p=>(p.1,aq8 p.2))=ps) (h1:(ps.all fun p=>p.2.cells.all Atom.eO&&Nat.blt p.1 n)=true) (hn:Nat.ble (n*size) 16777216=true)
  (hfl:fV (placesOf n size) ((madeCells zs.toArray (n*size)).toList.map fun v=>Atom.c (.val v)) ps=some l) (hc:aY l=some m) (hm:Nat.beq m.length (n*size)=true)
  (next:Reg P C ops rest (st.app dst ⟨.r (aQ size n m),[]⟩) (([],[])::acc) K):Go1 P C ops dst (.buildSlice t n parts) ty rest st acc K:=by
 refine⟨[],⟨.r (aQ size n m),[]⟩,fun o h2 h3 h4=>aT.eff [] [] (fun b hb=>?_) (h2▸dR hd) (fun b e hb=>by cases hb) (fun b e hb=>by cases hb) (fun b s hb=>by cases hb) (fun b s hb=>by cases hb) (fun st' E S a w hev hhp hs _ _=>?_),next⟩
 ·rcases hb with⟨e,hb⟩|⟨e,hb⟩|⟨s,hb⟩ <;> cases hb
 ·have hp':evp st' parts.toList=some ps0:=by
   rw[mW (fun x hx=>hev x.2 (by rw[h3];simp[Op.operands];exact⟨x.1,by simpa using hx⟩))];exact hp
  obtain⟨us,hrun,hlen,hall,hmx⟩:=ah1 (ht:=ht) (he:=he) hs h3 hp' hps h1 hn hfl hc hm;refine⟨⟨fun i hi=>(by cases hi),fun b e hb=>by cases hb⟩,fun K Q hK=>?_⟩
  unfold Oper.wp;rw[hrun];refine hK _ _ E S {env:=fun _ _=>⟨rfl,rfl⟩,fpe:=fun _ _=>rfl,sub:=fun _ h=>h,new:=fun _ h=> .inl h,lt:=fun k hk=>zqf (hs.lt k hk) zp,off:=Off.alloc _ _ _,res:=?_,ents:=fun _ _ h=>(by cases h),blk:=fun _ _ _ h=>(by cases h),sep:=fun _ _ _ _ _ _ h=>(by cases h)}
  refine bY.2 ⟨_,_,rfl,zq6 _,hmx,(fun h=>by cases h),(by rw[hall.length,hlen]),fun i c hc=>?_⟩
  obtain⟨u,hu,huc⟩:=hall.get hc;refine⟨w.heap.size,0,u,rfl,fun hS=>absurd (hs.lt _ hS) (Nat.lt_irrefl _),?_,huc.step (Off.alloc _ _ _) (fun k hk=> .inl hk)⟩
  have hcell:=cells_of_block (heap_alloc_new w (.cells us.toArray e)) 0 i u (by simpa using hu)
  simpa[Addr.add_lit]using hcell
end
