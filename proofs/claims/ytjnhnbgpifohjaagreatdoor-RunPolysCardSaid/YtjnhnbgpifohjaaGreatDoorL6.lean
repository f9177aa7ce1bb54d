import Derived.Test.YtjnhnbgpifohjaaGreatDoorL5
import Derived.Lib.SliceRun
import Derived.MapKept
import Derived.Test.YtjnhnbgpifohjaaGreatDoorL29
set_option linter.unusedVariables false
set_option linter.unusedSimpArgs false
namespace SX
section
open Go Go.RowKit
section
section
variable{P:Program}{C:Ctx}{st:St}
variable{ops rest:List Oper}{acc:List (List Nat×List Nat)}{K:List (List Nat×List Nat)->St->Prop}{dst:Option Tmp}{d:Tmp}{op:Op}{ty t t':TypeId}{x y z:Operand}
theorem G.ap5{b off:Nat}{T:TypeId}{cells:List Atom}{a1 a2 a3 a4 a5 a6 a7 a8 a9 a10 a11 a12 a13 a14 a15:Atom}[ht:iB P t 15](next:Reg P C ops rest (st.app (some d) ⟨.agg [a1,a2,a3,a4,a5,a6,a7,a8,a9,a10,a11,a12,a13,a14,a15],[]⟩) (([b],[])::acc) K)(hd:aG (some d) C.nt=true:=by rfl)(hx:st.ev x=some (.ptr b off):=by rfl)(hb:st.hp b= .ent (.box T cells):=by rfl)(hr:(cells.drop off).take 15=[a1,a2,a3,a4,a5,a6,a7,a8,a9,a10,a11,a12,a13,a14,a15]:=by rfl):Go1 P C ops (some d) (.load t x) ty rest st acc K:=
 Go1.qh hd hx hb (by have:=congrArg List.length hr;simp at this;rw[zva];omega) hr next
theorem G.al7{c1 c2 c3 c4 c5 c6 c7 c8 c9 c10 c11 c12 c13 c14 c15:CA}{cells:List CA}[ht:iB P t 15](next:Reg P C ops rest (st.app dst ⟨.agg [.c c1,.c c2,.c c3,.c c4,.c c5,.c c6,.c c7,.c c8,.c c9,.c c10,.c c11,.c c12,.c c13,.c c14,.c c15],[]⟩) (([],[])::acc) K)(hd:aG dst C.nt=true:=by rfl)(hx:st.ev x=some (.r (dK cells)):=by rfl)(hl:cells=[c1,c2,c3,c4,c5,c6,c7,c8,c9,c10,c11,c12,c13,c14,c15]:=by rfl):Go1 P C ops dst (.load t x) ty rest st acc K:=by
 subst hl;exact Go1.vg hd hx rfl next
theorem G.amS{pl:List (Nat×Nat)}{zs:List Value}{parts:Array (Nat×Operand)}{ps:List (Nat×AV0)}{a1 a2 a3 a4 a5 a6 a7 a8 a9 a10 a11 a12 a13 a14 a15:Atom}[ht:dU P t pl][hz:gG P t zs](next:Reg P C ops rest (st.app (some d) ⟨.agg [a1,a2,a3,a4,a5,a6,a7,a8,a9,a10,a11,a12,a13,a14,a15],[]⟩) (([],[])::acc) K)(hd:aG (some d) C.nt=true:=by rfl)(hp:evp st parts.toList=some ps:=by rfl)(h1:(ps.all fun p=>p.2.cells.all Atom.eY)=true:=by rfl)(hf:gM pl (zs.map fun v=>Atom.c (.val v)) ps=some [a1,a2,a3,a4,a5,a6,a7,a8,a9,a10,a11,a12,a13,a14,a15]:=by rfl):Go1 P C ops (some d) (.build t parts) ty rest st acc K:=
 Go1.build hd hp h1 hf next
theorem aj.ig{t:Tmp}{T T':TypeId}{b off:Nat}{cells:List Atom}{a1 a2 a3 a4 a5 a6 a7 a8 a9 a10 a11 a12 a13 a14 a15:Atom}[ht:iB P T 15](h:st.tm t=some (.ptr b off):=by rfl)(hb:st.hp b= .ent (.box T' cells):=by rfl)(hr:(cells.drop off).take 15=[a1,a2,a3,a4,a5,a6,a7,a8,a9,a10,a11,a12,a13,a14,a15]:=by rfl):aj P st (.cell t T) (.agg [a1,a2,a3,a4,a5,a6,a7,a8,a9,a10,a11,a12,a13,a14,a15]):=
 aj.agg h hb (by have:=congrArg List.length hr;simp at this;rw[zva];omega) hr
end
end
section
class adt(zs:List Value)(cells:outParam (List CA)):Prop where
 h:∀S w,aK (CA.has S w) cells zs
theorem ad6{S:Nat->Prop}{w:World}{cells:List CA}{zs:List Value}(h:aK (CA.has S w) cells zs):∀n:Nat,aK (CA.has S w) (List.replicate n cells).flatten (List.replicate n zs).flatten
 |0=>trivial
 |n+1=>by
  rw[List.replicate_succ,List.replicate_succ,List.flatten_cons,List.flatten_cons];exact h.append (ad6 h n)
theorem agX(zs:List Value)(h0:0 < zs.length)(n:Nat):(madeCells zs.toArray (n*zs.length)).toList=(List.replicate n zs).flatten:=by
 induction n with
 |zero=>simp[madeCells]
 |succ n ih=>
  rw[show List.replicate (n+1) zs=List.replicate n zs++[zs]by rw[List.replicate_succ'],List.flatten_append,<-ih]
  apply zyb
  intro j;have hsz:∀m,(madeCells zs.toArray m).toList.length=m:=fun m=>by rw[zw6,size_madeCells]
  by_cases h1:j < n*zs.length
  ·rw[zyj (by rw[hsz];exact h1)]
   have h2:j < (n+1)*zs.length:=by rw[zy5];omega
   simp[madeCells,h1,h2]
  ·rw[zv6 (by rw[hsz];omega),hsz]
   by_cases h2:j < (n+1)*zs.length
   ·have h3:j - n*zs.length < zs.length:=by rw[zy5]at h2;omega
    have h4:j % zs.length=j - n*zs.length:=by
     have:j=(j - n*zs.length)+zs.length*n:=by rw[zxj zs.length n];omega
     rw[this,Nat.add_mul_mod_self_left,zw4 h3];rw[zxj zs.length n];omega
    simp[madeCells,h2,h4,h3]
   ·have h3:¬j - n*zs.length < zs.length:=by rw[zy5]at h2;omega
    simp[madeCells,h2]
    omega
section
variable{P:Program}{C:Ctx}{st:St}
variable{ops rest:List Oper}{acc:List (List Nat×List Nat)}{K:List (List Nat×List Nat)->St->Prop}{dst:Option Tmp}{d:Tmp}{op:Op}{ty t t':TypeId}{x y z:Operand}
theorem Go1.amJ{e:TypeId}{n bytes size:Nat}{k k':IntKind}{zs:List Value}{cells:List CA}[ht:bL P t e size][he:fV P e zs bytes][hz:adt zs cells](hd:aG (some d) C.nt=true)(hx:st.ev x=some (.v (.int k (n:Int))))(hy:st.ev y=some (.v (.int k' (n:Int))))(hf:st.hp d= .free)
  (hb:n*bytes<=140737488355328) (hm:n<=9223372036854775807) (hs:zs.length=size)
  (next:Reg P C ops rest (st.app (some d) ⟨.own d,[(d,.ent (.row e size n (List.replicate n cells).flatten))]⟩) (([d],[d])::acc) K):Go1 P C ops (some d) (.makeSlice t x y) ty rest st acc K:=
 ⟨[d],⟨.own d,[(d,.ent (.row e size n (List.replicate n cells).flatten))]⟩,fun o h2 h3 h4=>aX.newRow h2 hd hf [] (fun b e hb=>by cases hb) (fun st' E S a w hev hs' _=>by
  have hxv:a.eval x= .int k (n:Int):=(hs'.ev ((hev x (by simp[h3,Op.operands])).trans hx)).1
  have hyv:a.eval y= .int k' (n:Int):=(hs'.ev ((hev y (by simp[h3,Op.operands])).trans hy)).1
  obtain⟨i,z',hi,hz',hc,hsz,hby⟩:=oH he ht.s;obtain⟨w',hrun,hown,hgr⟩:=run_make_full (P:=P) w 0 t e i z' size ht.h hi hz' hsz k k' n (by rw[hby,zxj];omega) (by simp[maxLen];omega) (zq8 _)
  refine⟨.slice (some ⟨w.heap.size,0,none⟩) n n,w',(List.replicate n zs).flatten,?_,?_,oG hgr (fun k hk=>by cases hk),fun k hk=>by simp[Value.ownBlock]at hk;omega,ad6 (hz.h _ _) n⟩
  ·unfold execOp;rw[h3];simp[hxv,hyv,hrun]
  ·have hl:(madeCells z'.cells (n*size)).toList=(List.replicate n zs).flatten:=by rw[hc,<-hs];exact agX zs (by rw[hs];exact ht.p) n
   rw[<-hl];exact hown),next⟩
theorem G.amJ{e:TypeId}{n bytes size:Nat}{k k':IntKind}{zi zj:Int}{zs:List Value}{cells:List CA}[ht:bL P t e size][he:fV P e zs bytes][hz:adt zs cells](next:Reg P C ops rest (st.app (some d) ⟨.own d,[(d,.ent (.row e size n (List.replicate n cells).flatten))]⟩) (([d],[d])::acc) K)(hd:aG (some d) C.nt=true:=by rfl)(hx:st.ev x=some (.v (.int k zi)):=by rfl)(hx0:zi=(n:Int):=by first|with_reducible rfl|exact SX.jU _|rfl)(hy:st.ev y=some (.v (.int k' zj)):=by rfl)(hy0:zj=(n:Int):=by first|with_reducible rfl|exact SX.jU _|rfl)(hf:st.hp d= .free:=by rfl)
  (hb:n*bytes<=140737488355328:=by omega) (hm:n<=9223372036854775807:=by omega) (hs:zs.length=size:=by rfl):Go1 P C ops (some d) (.makeSlice t x y) ty rest st acc K:=by
 subst hx0;subst hy0;exact Go1.amJ hd hx hy hf hb hm hs next
theorem G.atl{b off:Nat}{T:TypeId}{cells:List Atom}{a1:Atom}[ht:iB P t 1](next:Reg P C ops rest (st.app (some d) ⟨.agg [a1],[]⟩) (([b],[])::acc) K)(hd:aG (some d) C.nt=true:=by rfl)(hx:st.ev x=some (.ptr b off):=by rfl)(hb:st.hp b= .ent (.box T cells):=by rfl)(hr:(cells.drop off).take 1=[a1]:=by rfl):Go1 P C ops (some d) (.load t x) ty rest st acc K:=
 Go1.qh hd hx hb (by have:=congrArg List.length hr;simp at this;rw[zva];omega) hr next
theorem G.al6{c1:CA}{cells:List CA}[ht:iB P t 1](next:Reg P C ops rest (st.app dst ⟨.agg [.c c1],[]⟩) (([],[])::acc) K)(hd:aG dst C.nt=true:=by rfl)(hx:st.ev x=some (.r (dK cells)):=by rfl)(hl:cells=[c1]:=by rfl):Go1 P C ops dst (.load t x) ty rest st acc K:=by
 subst hl;exact Go1.vg hd hx rfl next
theorem G.apQ{pl:List (Nat×Nat)}{zs:List Value}{parts:Array (Nat×Operand)}{ps:List (Nat×AV0)}{a1:Atom}[ht:dU P t pl][hz:gG P t zs](next:Reg P C ops rest (st.app (some d) ⟨.agg [a1],[]⟩) (([],[])::acc) K)(hd:aG (some d) C.nt=true:=by rfl)(hp:evp st parts.toList=some ps:=by rfl)(h1:(ps.all fun p=>p.2.cells.all Atom.eY)=true:=by rfl)(hf:gM pl (zs.map fun v=>Atom.c (.val v)) ps=some [a1]:=by rfl):Go1 P C ops (some d) (.build t parts) ty rest st acc K:=
 Go1.build hd hp h1 hf next
theorem aj.apK{t:Tmp}{T T':TypeId}{b off:Nat}{cells:List Atom}{a1:Atom}[ht:iB P T 1](h:st.tm t=some (.ptr b off):=by rfl)(hb:st.hp b= .ent (.box T' cells):=by rfl)(hr:(cells.drop off).take 1=[a1]:=by rfl):aj P st (.cell t T) (.agg [a1]):=
 aj.agg h hb (by have:=congrArg List.length hr;simp at this;rw[zva];omega) hr
end
end
section
section
variable{P:Program}{C:Ctx}{st:St}
variable{ops rest:List Oper}{acc:List (List Nat×List Nat)}{K:List (List Nat×List Nat)->St->Prop}{dst:Option Tmp}{d:Tmp}{op:Op}{ty t t':TypeId}{x y z:Operand}
end
structure HeldK(q:Prop):Prop where
 out:q
end
section
theorem aqh{α:Type}(zs:List α){n m:Nat}(h:n<=m):(List.replicate m zs).flatten.take (n*zs.length)=(List.replicate n zs).flatten:=by
 obtain⟨k,rfl⟩:∃k,m=n+k:=⟨m - n,zE⟩
 rw[<-List.replicate_append_replicate,List.flatten_append];have hl:(List.replicate n zs).flatten.length=n*zs.length:=by simp
 rw[<-hl,List.take_left]
section
variable{P:Program}{C:Ctx}{st:St}
variable{ops rest:List Oper}{acc:List (List Nat×List Nat)}{K:List (List Nat×List Nat)->St->Prop}{dst:Option Tmp}{d:Tmp}{op:Op}{ty t t':TypeId}{x y z:Operand}
theorem Go1.al9{e:TypeId}{n m bytes size:Nat}{k k':IntKind}{zs:List Value}{cells:List CA}[ht:bL P t e size][he:fV P e zs bytes][hz:adt zs cells](hd:aG (some d) C.nt=true)(hx:st.ev x=some (.v (.int k (n:Int))))(hy:st.ev y=some (.v (.int k' (m:Int))))(hf:st.hp d= .free)
  (hnm:n<=m) (hb:m*bytes<=140737488355328) (hm:m<=9223372036854775807) (hs:zs.length=size)
  (next:Reg P C ops rest (st.app (some d) ⟨.own d,[(d,.ent (.row e size n (List.replicate n cells).flatten))]⟩) (([d],[d])::acc) K):Go1 P C ops (some d) (.makeSlice t x y) ty rest st acc K:=
 ⟨[d],⟨.own d,[(d,.ent (.row e size n (List.replicate n cells).flatten))]⟩,fun o h2 h3 h4=>aX.newRow h2 hd hf [] (fun b e hb=>by cases hb) (fun st' E S a w hev hs' _=>by
  have hxv:a.eval x= .int k (n:Int):=(hs'.ev ((hev x (by simp[h3,Op.operands])).trans hx)).1
  have hyv:a.eval y= .int k' (m:Int):=(hs'.ev ((hev y (by simp[h3,Op.operands])).trans hy)).1
  obtain⟨i,z',hi,hz',hc,hsz,hby⟩:=oH he ht.s;have hb':(i.bytes:Int)*(m:Int)<=281474976710656:=by
   have h:((i.bytes*m:Nat):Int)<=281474976710656:=by rw[hby,zxj];omega
   rwa [Int.natCast_mul]at h
  have hr:=run_make (P:=P) w t e i z' ht.h hi hz' k k' n m zE zE hb' zE
  simp only[zw8]at hr;rw[hsz]at hr;have hl:(madeCells z'.cells (m*size)).toList=(List.replicate m zs).flatten:=by rw[hc,<-hs];exact agX zs (by rw[hs];exact ht.p) m
  have hmx:m<=maxLen:=by simp[maxLen];omega
  refine⟨.slice (some ⟨w.heap.size,0,none⟩) n m,_,(List.replicate n zs).flatten,?_,⟨by simp[hs],.inr ⟨w.heap.size,m,madeCells z'.cells (m*size),rfl,zq8 _,heap_alloc_new w _,hnm,hmx,?_,?_⟩⟩,Off.alloc _ _ _,fun k hk=>by simp[Value.ownBlock]at hk;omega,ad6 (hz.h _ _) n⟩
  ·unfold execOp;rw[h3];simp[hxv,hyv,hr]
  ·exact size_madeCells _ _
  ·rw[hl,<-hs,aqh zs hnm]),next⟩
theorem G.al9{e:TypeId}{n m bytes size:Nat}{k k':IntKind}{zi zj:Int}{zs:List Value}{cells:List CA}[ht:bL P t e size][he:fV P e zs bytes][hz:adt zs cells](next:Reg P C ops rest (st.app (some d) ⟨.own d,[(d,.ent (.row e size n (List.replicate n cells).flatten))]⟩) (([d],[d])::acc) K)(hd:aG (some d) C.nt=true:=by rfl)(hx:st.ev x=some (.v (.int k zi)):=by rfl)(hx0:zi=(n:Int):=by first|with_reducible rfl|exact SX.jU _|rfl)(hy:st.ev y=some (.v (.int k' zj)):=by rfl)(hy0:zj=(m:Int):=by first|with_reducible rfl|exact SX.jU _|rfl)(hf:st.hp d= .free:=by rfl)
  (hnm:n<=m:=by omega) (hb:m*bytes<=140737488355328:=by omega) (hm:m<=9223372036854775807:=by omega) (hs:zs.length=size:=by rfl):Go1 P C ops (some d) (.makeSlice t x y) ty rest st acc K:=by
 subst hx0;subst hy0;exact Go1.al9 hd hx hy hf hnm hb hm hs next
theorem G.ami{α:Type}{i:Nat}{enc:α->List CA}{l:List α}{a:α}{e:TypeId}{b n:Nat}{c1 c2:CA}[ht:iB P t 2][he:fF enc 2](next:Reg P C ops rest (st.app dst ⟨.agg [.c c1,.c c2],[]⟩) (([b],[])::acc) K)(hd:aG dst C.nt=true:=by rfl)(hx:st.ev x=some (.it (.one (.rptr b (i*2)))):=by rfl)(hb:st.hp b= .ent (.row e 2 n (l.flatMap enc)):=by rfl)(ha:l[i]? =some a:=by assumption)(h4:enc a=[c1,c2]:=by rfl):Go1 P C ops dst (.load t x) ty rest st acc K:=
 Go1.aq7 (l:=[c1,c2]) hd hx hb ((yG (enc:=enc) (size:=2) ha).trans h4) rfl next
end
end
section
def oI(S:Nat->Prop)(w:World)(p:List UInt8×List CA)(e:MapEntry):Prop:=e.key=str p.1/\∃us:List Value,e.val= .agg us.toArray/\aK (CA.has S w) p.2 us
theorem oI.step{S S':Nat->Prop}{w w':World}{p:List UInt8×List CA}{e:MapEntry}(h:oI S w p e)(ho:Off S w w')(hs:∀k,S' k->S k\/w.heap.size<=k):oI S' w' p e:=by
 obtain⟨h1,us,h2,h3⟩:=h;exact⟨h1,us,h2,h3.mono fun a u _ ha=>ha.step ho hs⟩
def jy(l:List (List UInt8×List CA)):oW where
 has _ v X S w:=∃r es clock,v= .map (some r)/\(∀k,X k↔k=r)/\w.heap[r]? =some (.map es clock)/\aK (oI S w) l es.toList
 step:=fun {b v X S S' w w'} ⟨r,es,clock,h1,h2,h3,h4⟩ ho hs hX=>
  ⟨r,es,clock,h1,h2,by rw[hX r ((h2 r).2 rfl)];exact h3,h4.mono fun a u _ ha=>ha.step ho hs⟩
def gK{β:Type}:List (List UInt8×β)->List UInt8->Option β
 |[],_=>none
 |(k,c)::l,s=>if s=k then some c else gK l s
def jQ{β:Type}:List (List UInt8×β)->List UInt8->β->List (List UInt8×β)
 |[],s,c=>[(s,c)]
 |(k,d)::l,s,c=>if s=k then(k,c)::l else(k,d)::jQ l s c
theorem yc(s t:List UInt8):Instr.sameNow .string (str s) (str t)=some (decide (s=t)):=by
 show some ((⟨⟨s⟩⟩:ByteArray)==⟨⟨t⟩⟩)=_;have e:((⟨⟨s⟩⟩:ByteArray)==⟨⟨t⟩⟩)=((⟨s⟩:Array UInt8)==⟨t⟩):=rfl;rw[e]
 congr 1
 rw[zyc,beq_iff_eq,decide_eq_true_iff];constructor
 ·intro h;injection h
 ·rintro rfl;rfl
theorem aeZ{S:Nat->Prop}{w:World}{s:List UInt8}:∀{l:List (List UInt8×List CA)} {es:List MapEntry} (i:Nat),aK (oI S w) l es->gK l s=none->Instr.findNow .string (str s) es i=some none
 |[],[],_,_,_=>rfl
 |(k,c)::l,e::es,i,h,hn=>by
  obtain⟨⟨h1,_⟩,h2⟩:=h;unfold gK at hn;by_cases hk:s=k
  ·rw[if_pos hk]at hn;cases hn
  ·rw[if_neg hk]at hn;unfold Instr.findNow;rw[h1];show (match Instr.sameNow .string (str s) (str k)with|some true=>some (some (i,e.val))|some false=>Instr.findNow .string (str s) es (i+1)|none=>none)=_
   rw[yc,decide_eq_false hk];exact aeZ (i+1) h2 hn
 |[],_::_,_,h,_=>h.elim
 |_::_,[],_,h,_=>h.elim
theorem afg{S:Nat->Prop}{w:World}{s:List UInt8}{c:List CA}:∀{l:List (List UInt8×List CA)} {es:List MapEntry} (i:Nat),aK (oI S w) l es->gK l s=some c->∃j us,Instr.findNow .string (str s) es i=some (some (i+j,.agg us))/\aK (CA.has S w) c us.toList/\(∃e,es[j]? =some e/\e.key=str s)
 |[],[],_,_,hn=>by cases hn
 |(k,d)::l,e::es,i,h,hn=>by
  obtain⟨⟨h1,us,h3,h4⟩,h2⟩:=h;unfold gK at hn;by_cases hk:s=k
  ·rw[if_pos hk]at hn;cases hn;refine⟨0,us.toArray,?_,by simpa using h4,e,rfl,by rw[h1,hk]⟩
   unfold Instr.findNow;rw[h1];show (match Instr.sameNow .string (str s) (str k)with|some true=>some (some (i,e.val))|some false=>Instr.findNow .string (str s) es (i+1)|none=>none)=_
   rw[yc,decide_eq_true hk,h3];rfl
  ·rw[if_neg hk]at hn;obtain⟨j,vs,g1,g2,e',g3,g4⟩:=afg (i+1) h2 hn;refine⟨j+1,vs,?_,g2,e',g3,g4⟩;unfold Instr.findNow;rw[h1];show (match Instr.sameNow .string (str s) (str k)with|some true=>some (some (i,e.val))|some false=>Instr.findNow .string (str s) es (i+1)|none=>none)=_
   rw[yc,decide_eq_false hk];show Instr.findNow .string (str s) es (i+1)=_;rw[g1,show i+1+j=i+(j+1)by omega]
 |[],_::_,_,h,_=>h.elim
 |_::_,[],_,h,_=>h.elim
theorem aiH{S:Nat->Prop}{w:World}{s:List UInt8}{c:List CA}{e:MapEntry}(he:oI S w (s,c) e):∀{l:List (List UInt8×List CA)} {es:List MapEntry},aK (oI S w) l es->gK l s=none->aK (oI S w) (jQ l s c) (es++[e])
 |[],[],_,_=>⟨he,trivial⟩
 |(k,d)::l,f::es,h,hn=>by
  unfold gK at hn;by_cases hk:s=k
  ·rw[if_pos hk]at hn;cases hn
  ·rw[if_neg hk]at hn;unfold jQ;rw[if_neg hk];exact⟨h.1,aiH he h.2 hn⟩
 |[],_::_,h,_=>h.elim
 |_::_,[],h,_=>h.elim
theorem aja{S:Nat->Prop}{w:World}{s:List UInt8}{c d:List CA}:∀{l:List (List UInt8×List CA)} {es:List MapEntry} (i:Nat),aK (oI S w) l es->gK l s=some d->
  ∃j v,Instr.findNow .string (str s) es i=some (some (i+j,v))/\(∃e,es[j]? =some e/\e.key=str s)/\∀e,oI S w (s,c) e->aK (oI S w) (jQ l s c) (es.set j e)
 |[],[],_,_,hn=>by cases hn
 |(k,d)::l,e::es,i,h,hn=>by
  obtain⟨⟨h1,us,h3,h4⟩,h2⟩:=h;unfold gK at hn;by_cases hk:s=k
  ·rw[if_pos hk]at hn;refine⟨0,e.val,?_,⟨e,rfl,by rw[h1,hk]⟩,fun f hf=>?_⟩
   ·unfold Instr.findNow;rw[h1];show (match Instr.sameNow .string (str s) (str k)with|some true=>some (some (i,e.val))|some false=>Instr.findNow .string (str s) es (i+1)|none=>none)=_
    rw[yc,decide_eq_true hk];rfl
   ·unfold jQ;rw[if_pos hk];subst hk;exact⟨hf,h2⟩
  ·rw[if_neg hk]at hn;obtain⟨j,v,g1,⟨e',g3,g4⟩,g5⟩:=aja (c:=c) (i+1) h2 hn;refine⟨j+1,v,?_,⟨e',g3,g4⟩,fun f hf=>?_⟩
   ·unfold Instr.findNow;rw[h1];show (match Instr.sameNow .string (str s) (str k)with|some true=>some (some (i,e.val))|some false=>Instr.findNow .string (str s) es (i+1)|none=>none)=_
    rw[yc,decide_eq_false hk];show Instr.findNow .string (str s) es (i+1)=_;rw[g1,show i+1+j=i+(j+1)by omega]
   ·unfold jQ;rw[if_neg hk];exact⟨⟨h1,us,h3,h4⟩,g5 f hf⟩
 |[],_::_,_,h,_=>h.elim
 |_::_,[],_,h,_=>h.elim
class aoP(P:Program)(t:TypeId)(zs:outParam (List Value)):Prop where
 h:∃k e,P.underlying t=some (.map k e)/\P.underlying k=some .string/\(P.info? e).map (·.zero)=some (some (.agg zs.toArray))
theorem wH(s:List UInt8):Go.MapKept.IsKey .string (str s):=by
 first|exact trivial|simp[Go.MapKept.IsKey,str]
section
variable{P:Program}{t:TypeId}{zs:List Value}[ht:aoP P t zs]{w:World}{r:Nat}{es:Array MapEntry}{clock:Nat}{S:Nat->Prop}{l:List (List UInt8×List CA)}{s:List UInt8}
include ht
theorem afC{c:List CA}(hb:w.heap[r]? =some (.map es clock))(ha:aK (oI S w) l es.toList)(hl:gK l s=some c):
  ∃us:List Value,(Instr.lookup t (.map (some r)) (str s) true).run P w= .ok (.tuple #[.agg us.toArray,.bool true]) w/\aK (CA.has S w) c us:=by
 obtain⟨k,e,hm,hk,hz⟩:=ht.h;obtain⟨j,us,h1,h2,_⟩:=afg 0 ha hl;refine⟨us.toList,?_,h2⟩;unfold Instr.lookup;simp[run_underlying hm,Go.MapKept.run_getObj_map hb,Go.MapKept.run_checkKey hk (wH s),Go.MapKept.run_findKey hk h1]
theorem apx{c:List CA}{us:List Value}(hb:w.heap[r]? =some (.map es clock))(ha:aK (oI S w) l es.toList)(hu:aK (CA.has S w) c us):
  ∃es' clock',(Instr.mapUpdate t (.map (some r)) (str s) (.agg us.toArray)).run P w= .ok () {w with heap:=w.heap.setIfInBounds r (.map es' clock')}/\aK (oI S w) (jQ l s c) es'.toList:=by
 obtain⟨k,e,hm,hk,hz⟩:=ht.h;cases hl:gK l s with
 |none=>
  have h1:=aeZ (s:=s) 0 ha hl;refine⟨es.push {key:=str s,val:= .agg us.toArray,born:=clock},clock+1,?_,?_⟩
  ·unfold Instr.mapUpdate;simp[run_underlying hm,Go.MapKept.run_getObj_map hb,Go.MapKept.run_checkKey hk (wH s),Go.MapKept.run_findKey hk h1,Go.MapKept.run_setObj_map _ hb]
  ·rw[Array.toList_push];exact aiH ⟨rfl,us,rfl,hu⟩ ha hl
 |some d=>
  obtain⟨j,v,h1,⟨f,h3,h4⟩,h5⟩:=aja (c:=c) 0 ha hl;rw[zv7]at h1;have h3':es[j]? =some f:=by rw[<-h3,zw2]
  refine⟨es.modify j fun e=>{e with key:=str s,val:= .agg us.toArray},clock,?_,?_⟩
  ·unfold Instr.mapUpdate;simp[run_underlying hm,Go.MapKept.run_getObj_map hb,Go.MapKept.run_checkKey hk (wH s),Go.MapKept.run_findKey hk h1,Go.MapKept.run_setObj_map _ hb,h3',h4,Go.MapKept.run_keyThatStays (wH s)]
  ·have e9:(es.modify j fun e=>{e with key:=str s,val:= .agg us.toArray}).toList=es.toList.set j {f with key:=str s,val:= .agg us.toArray}:=by
    apply zyb;intro i
    rw[zv2]
    simp only[Array.toList_modify,List.getElem?_modify]
    by_cases hi:j=i
    ·subst hi;obtain⟨hlt,_⟩:=zxg.1 h3
     rw[if_pos rfl,if_pos hlt,h3];simp
    ·rw[if_neg hi];simp[hi]
   rw[e9];exact h5 _ ⟨rfl,us,rfl,hu⟩
end
theorem Eff.axB{E:Env}{S X:Nat->Prop}{w w':World}{b:Nat}{A:oW}{v:Value}
  (hl:∀k,S k->k < w.heap.size) (ho:Off none' w w') (hA:A.has (E.blk b) v X (fun k=>S k\/X k) w')
  (hX:∀k,X k->w.heap.size<=k) (hXl:∀k,X k->k < w'.heap.size) (hone:v.oneCell'=true):
  Eff E S w [] ⟨.own b,[(b,.ent (.abs A))]⟩ v w' ⟨E.blk,upd E.sl b v,upd E.fp b X⟩ (fun k=>S k\/X k):=by
 have hent:∀i e,(i,Slot.ent e)∈[(b,Slot.ent (Ent.abs A))]->i=b/\e= .abs A:=by
  intro i e hi;simp at hi;exact hi
 refine
  {env:=fun i hi=>?_,fpe:=fun i hi=>?_,sub:=fun k hk=> .inl hk,new:=fun k hk=>hk.imp id (hX k),lt:=fun k hk=>?_,off:=ho.mono fun k hk=>hk.elim,res:=⟨by show v=upd E.sl b v b;rw[upd_same],hone⟩,
   ents:=fun i e hi=>?_,blk:=fun i e k hi hk=>?_,sep:=fun i i' e e' k hne h1 h2=>?_}
 ·by_cases e:i=b
  ·subst e;obtain⟨e,he⟩:=hi ⟨_,by simp;rfl⟩
   cases he
  ·exact⟨rfl,upd_ne _ _ e⟩
 ·exact upd_ne _ _ fun e=>hi (.ent (.abs A)) (by simp[e])
 ·rcases hk with hk|hk
  ·exact zqf (hl k hk) ho.size
  ·exact hXl k hk
 ·obtain⟨rfl,rfl⟩:=hent i e hi;show A.has (E.blk i) (upd E.sl i v i) (upd E.fp i X i) _ w';rw[upd_same,upd_same];exact hA
 ·obtain⟨rfl,rfl⟩:=hent i e hi;have hk':upd E.fp i X i k:=hk;rw[upd_same]at hk';exact⟨.inr hk',.inr (hX k hk')⟩
 ·obtain⟨rfl,_⟩:=hent _ _ h1;obtain⟨rfl,_⟩:=hent _ _ h2;exact absurd rfl hne
section
variable{P:Program}{C:Ctx}{st:St}
variable{ops rest:List Oper}{acc:List (List Nat×List Nat)}{K:List (List Nat×List Nat)->St->Prop}{dst:Option Tmp}{d:Tmp}{ty t:TypeId}{x y z:Operand}{zs:List Value}
theorem Go1.makeMap(hd:aG (some d) C.nt=true)(hf:st.hp d= .free)(next:Reg P C ops rest (st.app (some d) ⟨.own d,[(d,.ent (.abs (jy [])))]⟩) (([d],[d])::acc) K):Go1 P C ops (some d) (.makeMap t none) ty rest st acc K:=
 ⟨[d],⟨.own d,[(d,.ent (.abs (jy [])))]⟩,fun o h2 h3 h4=>by
  refine aX.eff [] [] (fun b hb=>?_) (h2▸eu hd) (fun b e hb=>by cases hb) (fun b e hb=>by cases hb) (fun b s hb=>?_) (fun b s hb=>?_) (fun st' E S a w hev hhp hs _ _=>?_)
  ·rcases hb with⟨e,hb⟩|⟨e,hb⟩|⟨s,hb⟩
   ·cases hb
   ·cases hb
   ·simp at hb;simp[hb.1]
  ·simp at hb;rw[hb.1];exact .inr hf
  ·simp at hb;rw[hb.2];rfl
  ·refine⟨⟨fun i hi=>?_,fun b e hb i hi=>?_⟩,fun K Q hK=>?_⟩
   ·simp[AV.ids,AV0.ids,Atom.ids]at hi;subst hi;simp[gY,Slot.used]
   ·simp at hb
    obtain⟨rfl,rfl⟩:=hb;cases hi
   ·unfold Oper.wp execOp;rw[h3];have hr:(Instr.makeMap t none).run P w= .ok (.map (some w.heap.size)) (w.alloc (.map #[] 0)):=by simp[Instr.makeMap]
    simp only[hr,Option.map_none,Sem.run_bind,Sem.run_pure,Result.andThen_ok];refine hK _ _ _ _ (Eff.axB (X:=fun k=>k=w.heap.size) hs.lt (Off.alloc _ _ _) ⟨w.heap.size,#[],0,rfl,fun k=>Iff.rfl,heap_alloc_new w _,trivial⟩ (fun k hk=>by rw[hk];exact zq6 _) (fun k hk=>?_) rfl)
    rw[hk];show w.heap.size < (w.heap.push _).size;simp,next⟩
theorem Go1.alD{b:Nat}{l:List (List UInt8×List CA)}{s:List UInt8}{c:List CA}[ht:aoP P t zs](hd:aG dst C.nt=true)(hx:st.ev x=some (.own b))(hb:st.hp b= .ent (.abs (jy l)))(hy:st.ev y=some (.v (str s)))(hl:gK l s=some c)
  (next:Reg P C ops rest (st.app dst ⟨.tup [.agg (c.map Atom.c),.one (.c (.val (.bool true)))],[]⟩) (([b],[])::acc) K):Go1 P C ops dst (.lookup t x y true) ty rest st acc K:=
 Go1.dS [(b,.abs (jy l))] [b] zp hd (by simpa using hb) (fun o ho _ st' E S a w hev hs hrd=>by
  obtain⟨⟨hv,_⟩,_⟩:=hs.ev ((hev x (by simp[ho,Op.operands])).trans hx)
  have hyv:a.eval y=str s:=(hs.ev ((hev y (by simp[ho,Op.operands])).trans hy)).1
  have h0:(jy l).has (E.blk b) (E.sl b) (E.fp b) S w:=hs.hp b (.abs (jy l)) (hrd b (.abs (jy l)) zp)
  obtain⟨r,es,clock,h1,h2,h3,h4⟩:=h0;obtain⟨us,hrun,hall⟩:=afC (P:=P) (t:=t) h3 h4 hl;refine⟨fun i hi=>?_,.tuple #[.agg us.toArray,.bool true],?_,?_⟩
  ·exfalso
   simp only[AV.ids,zq7,AV0.ids,zqd,zqb,zyg,zx9,zqg]at hi;rcases hi with⟨_,⟨_,_,rfl⟩,h⟩|h <;> cases h
  ·unfold execOp;rw[ho];simp[show a.eval x=_ from hv,h1,hyv,hrun]
  ·exact⟨[.agg us.toArray,.bool true],rfl,⟨us,rfl,ad5 hall⟩,rfl,trivial⟩) next
theorem ahu{E:Env}{S:Nat->Prop}{w:World}:∀{m:List CA} {us:List Value},aK (Atom.has E S w) (m.map Atom.c) us->aK (CA.has S w) m us
 |[],[],_=>trivial
 |_::_,_::_,h=>⟨h.1,ahu h.2⟩
 |[],_::_,h=>h.elim
 |_::_,[],h=>h.elim
theorem Eff.au6{E:Env}{S:Nat->Prop}{w w':World}{b:Nat}{A A':oW}(hl:∀k,S k->k < w.heap.size)(hS:∀k,E.fp b k->S k)(ho:Off (E.fp b) w w')(hA:A'.has (E.blk b) (E.sl b) (E.fp b) S w'):
  Eff E S w [(b,.abs A)] ⟨.v undef,[(b,.ent (.abs A'))]⟩ undef w' E S:=by
 refine
  {env:=fun i hi=>⟨rfl,rfl⟩,fpe:=fun _ _=>rfl,sub:=fun k hk=>hk,new:=fun k hk=> .inl hk,lt:=fun k hk=>zqf (hl k hk) ho.size,off:=ho.mono fun k hk=>⟨b,_,zq9,hk⟩,
   res:=rfl,ents:=fun i e' hi=>?_,blk:=fun i e' k hi hk=>?_,sep:=fun i i' e' e2 k hne h1 h2=>?_}
 ·simp at hi;obtain⟨rfl,rfl⟩:=hi
  exact hA
 ·simp at hi;obtain⟨rfl,rfl⟩:=hi
  exact⟨hS k hk,.inl ⟨i,_,zq9,hk⟩⟩
 ·simp at h1 h2;exact absurd (h1.1.trans h2.1.symm) hne
theorem Off.setObj{S:Nat->Prop}(w:World)(r:Nat)(o:Obj)(h:S r):Off S w {w with heap:=w.heap.setIfInBounds r o}:=
 ⟨rfl,rfl,rfl,by simp,fun k hk hn=>by
  have hne:k≠r:=fun e=>hn (e▸h)
  show (w.heap.setIfInBounds r o)[k]? =_;rw[Array.getElem?_setIfInBounds,if_neg (fun e=>hne e.symm)]⟩
theorem Go1.putM{b:Nat}{l:List (List UInt8×List CA)}{s:List UInt8}{la:List Atom}{c:List CA}[ht:aoP P t zs](hx:st.ev x=some (.own b))(hb:st.hp b= .ent (.abs (jy l)))(hy:st.ev y=some (.v (str s)))(hz:st.ev z=some (.agg la))(hc:bf la=some c)
  (next:Reg P C ops rest (st.app none ⟨.v undef,[(b,.ent (.abs (jy (jQ l s c))))]⟩) (([b],[b])::acc) K):Go1 P C ops none (.mapUpdate t x y z) ty rest st acc K:=by
 refine⟨[b],⟨.v undef,[(b,.ent (.abs (jy (jQ l s c))))]⟩,fun o h2 h3 h4=>aX.eff [] [(b,.abs (jy l))] (fun i hi=>?_) (h2▸(fun x hx=>by cases hx)) (fun b e hb=>by cases hb) (fun i e hi=>?_) (fun i s hi=>?_) (fun i s hi=>?_) (fun st' E S a w hev hhp hse _ hpre=>?_),next⟩
 ·rcases hi with⟨e,hi⟩|⟨e,hi⟩|⟨s,hi⟩
  ·cases hi
  ·simp at hi;simp[hi.1]
  ·simp at hi;simp[hi.1]
 ·simp at hi
  obtain⟨rfl,rfl⟩:=hi;exact⟨hb,_,by simp;rfl⟩
 ·simp at hi;obtain⟨rfl,_⟩:=hi;exact .inl ⟨_,by simp;rfl⟩
 ·simp at hi;rw[hi.2];rfl
 ·obtain⟨⟨hv,_⟩,_⟩:=hse.ev ((hev x (by simp[h3,Op.operands])).trans hx)
  have hyv:a.eval y=str s:=(hse.ev ((hev y (by simp[h3,Op.operands])).trans hy)).1
  obtain⟨⟨us,hzv,hall⟩,_⟩:=hse.ev ((hev z (by simp[h3,Op.operands])).trans hz)
  have hb':=hpre b (.abs (jy l)) zp
  have h0:(jy l).has (E.blk b) (E.sl b) (E.fp b) S w:=hse.hp b _ hb';have hX:∀k,E.fp b k->S k:=fun k hk=>(hse.blk b _ k hb' hk).1
  obtain⟨r,es,clock,h1,h5,h6,h7⟩:=h0;have hcl:aK (CA.has S w) c us:=by
   rw[fq hc]at hall;exact ahu hall
  obtain⟨es',clock',hrun,h8⟩:=apx (P:=P) (t:=t) (s:=s) h6 h7 hcl;have hor:Off (E.fp b) w {w with heap:=w.heap.setIfInBounds r (.map es' clock')}:=Off.setObj w r _ ((h5 r).2 rfl);refine⟨⟨fun i hi=>(by cases hi),fun i e hi j hj=>?_⟩,fun K Q hK=>?_⟩
  ·simp at hi
   obtain⟨rfl,rfl⟩:=hi;cases hj
  ·unfold Oper.wp execOp;rw[h3];simp only[show a.eval x=_ from hv,h1,hyv,show a.eval z=_ from hzv,hrun,Sem.run_bind,Sem.run_pure,Result.andThen_ok]
   refine hK undef _ _ _ (Eff.au6 hse.lt hX hor ⟨r,es',clock',h1,h5,(Go.MapKept.heap_set h6).1,h8.mono fun p e _ he=>he.step (hor.mono hX) fun k hk=> .inl hk⟩)
end
section
variable{P:Program}{C:Ctx}{st:St}
variable{ops rest:List Oper}{acc:List (List Nat×List Nat)}{K:List (List Nat×List Nat)->St->Prop}{dst:Option Tmp}{d:Tmp}{ty t:TypeId}{x y z:Operand}{zs:List Value}
theorem G.makeMap(next:Reg P C ops rest (st.app (some d) ⟨.own d,[(d,.ent (.abs (jy [])))]⟩) (([d],[d])::acc) K)(hd:aG (some d) C.nt=true:=by rfl)(hf:st.hp d= .free:=by rfl):Go1 P C ops (some d) (.makeMap t none) ty rest st acc K:=Go1.makeMap hd hf next
theorem G.alD{b:Nat}{l:List (List UInt8×List CA)}{s:List UInt8}{c:List CA}[ht:aoP P t zs](next:Reg P C ops rest (st.app dst ⟨.tup [.agg (c.map Atom.c),.one (.c (.val (.bool true)))],[]⟩) (([b],[])::acc) K)(hd:aG dst C.nt=true:=by rfl)(hx:st.ev x=some (.own b):=by rfl)(hb:st.hp b= .ent (.abs (jy l)):=by rfl)(hy:st.ev y=some (.v (str s)):=by rfl)(hl:gK l s=some c:=by first|(with_reducible assumption)|assumption):Go1 P C ops dst (.lookup t x y true) ty rest st acc K:=Go1.alD hd hx hb hy hl next
theorem G.putM{b:Nat}{l:List (List UInt8×List CA)}{s:List UInt8}{la:List Atom}{c:List CA}[ht:aoP P t zs](next:Reg P C ops rest (st.app none ⟨.v undef,[(b,.ent (.abs (jy (jQ l s c))))]⟩) (([b],[b])::acc) K)(hx:st.ev x=some (.own b):=by rfl)(hb:st.hp b= .ent (.abs (jy l)):=by rfl)(hy:st.ev y=some (.v (str s)):=by rfl)(hz:st.ev z=some (.agg la):=by rfl)(hc:bf la=some c:=by rfl):Go1 P C ops none (.mapUpdate t x y z) ty rest st acc K:=Go1.putM hx hb hy hz hc next
end
section
variable{P:Program}{C:Ctx}{st:St}
variable{ops rest:List Oper}{acc:List (List Nat×List Nat)}{K:List (List Nat×List Nat)->St->Prop}{d:Tmp}{ty t:TypeId}{x:Operand}
theorem G.aw3{ι:Type}{b bb off:Nat}{φ:ι->Prop}{T:TypeId}{cells:ι->List Atom}{R:ι->List (Nat×Ent)}{u:Value}[ht:jC P t](next:Reg P C ops rest (st.app (some d) ⟨.v u,[]⟩) (([b],[])::acc) K)(hd:aG (some d) C.nt=true:=by rfl)(hx:st.ev x=some (.ptr b off):=by rfl)
  (hb:st.hp b= .ent (.abs (pV bb φ T cells R)):=by rfl) (hr:∀p,(cells p)[off]? =some (.c (.val u)):=by intro p;rfl):Go1 P C ops (some d) (.load t x) ty rest st acc K:=
 Go1.dS [(b,.abs (pV bb φ T cells R))] [b] zp hd (by simpa using hb) (fun o ho _ st' E S a w hev hs hrd=>by
  obtain⟨hv,_⟩:=hs.ev ((hev x (by simp[ho,Op.operands])).trans hx)
  have hb':=hrd b (.abs (pV bb φ T cells R)) zp
  obtain⟨p,E2,_,hB⟩:=hs.hp b _ hb';obtain⟨cs,hg,hall⟩:=hB.box;obtain⟨u',hu,hcu⟩:=hall.get (hr p);have e:u'=u:=hcu;subst e;refine⟨fun i hi=>(by cases hi),u',?_,rfl⟩
  unfold execOp;rw[ho];simp[show a.eval x=_ from hv,Instr.loadAt,Instr.sureAddr,zm ht w hg hu]) next
end
section
variable{P:Program}{C:Ctx}{st:St}
variable{ops rest:List Oper}{acc:List (List Nat×List Nat)}{K:List (List Nat×List Nat)->St->Prop}{d:Tmp}{ty t:TypeId}
theorem G.amW{pl:List (Nat×Nat)}{zs:List Value}{parts:Array (Nat×Operand)}{ps:List (Nat×AV0)}{a1 a2 a3 a4 a5 a6 a7 a8 a9 a10 a11 a12 a13 a14 a15 a16 a17:Atom}[ht:dU P t pl][hz:gG P t zs](next:Reg P C ops rest (st.app (some d) ⟨.agg [a1,a2,a3,a4,a5,a6,a7,a8,a9,a10,a11,a12,a13,a14,a15,a16,a17],[]⟩) (([],[])::acc) K)(hd:aG (some d) C.nt=true:=by rfl)(hp:evp st parts.toList=some ps:=by rfl)(h1:(ps.all fun p=>p.2.cells.all Atom.eY)=true:=by rfl)(hf:gM pl (zs.map fun v=>Atom.c (.val v)) ps=some [a1,a2,a3,a4,a5,a6,a7,a8,a9,a10,a11,a12,a13,a14,a15,a16,a17]:=by rfl):Go1 P C ops (some d) (.build t parts) ty rest st acc K:=
 Go1.build hd hp h1 hf next
theorem aj.dJ{u:Tmp}{T T':TypeId}{b off:Nat}{cells:List Atom}{a1 a2 a3 a4 a5 a6 a7 a8 a9 a10 a11 a12 a13 a14 a15 a16 a17:Atom}[ht:iB P T 17](h:st.tm u=some (.ptr b off):=by rfl)(hb:st.hp b= .ent (.box T' cells):=by rfl)(hr:(cells.drop off).take 17=[a1,a2,a3,a4,a5,a6,a7,a8,a9,a10,a11,a12,a13,a14,a15,a16,a17]:=by rfl):aj P st (.cell u T) (.agg [a1,a2,a3,a4,a5,a6,a7,a8,a9,a10,a11,a12,a13,a14,a15,a16,a17]):=
 aj.agg h hb (by have:=congrArg List.length hr;simp at this;rw[zva];omega) hr
theorem G.ale{pl:List (Nat×Nat)}{zs:List Value}{parts:Array (Nat×Operand)}{ps:List (Nat×AV0)}{a1 a2 a3 a4 a5 a6 a7 a8 a9 a10 a11 a12 a13 a14 a15 a16 a17 a18 a19 a20 a21:Atom}[ht:dU P t pl][hz:gG P t zs](next:Reg P C ops rest (st.app (some d) ⟨.agg [a1,a2,a3,a4,a5,a6,a7,a8,a9,a10,a11,a12,a13,a14,a15,a16,a17,a18,a19,a20,a21],[]⟩) (([],[])::acc) K)(hd:aG (some d) C.nt=true:=by rfl)(hp:evp st parts.toList=some ps:=by rfl)(h1:(ps.all fun p=>p.2.cells.all Atom.eY)=true:=by rfl)(hf:gM pl (zs.map fun v=>Atom.c (.val v)) ps=some [a1,a2,a3,a4,a5,a6,a7,a8,a9,a10,a11,a12,a13,a14,a15,a16,a17,a18,a19,a20,a21]:=by rfl):Go1 P C ops (some d) (.build t parts) ty rest st acc K:=
 Go1.build hd hp h1 hf next
end
section
variable{P:Program}{C:Ctx}{st:St}{ops rest:List Oper}{acc:List (List Nat×List Nat)}{K:List (List Nat×List Nat)->St->Prop}{dst:Option Tmp}{ty t:TypeId}{x:Operand}{α:Type}
theorem G.ama{tO tI:TypeId}{b size i j:Nat}{enc:α->List CA}{js:List Nat}{c:List (List α)}{r:List α}{a:α}{c1 c2:CA}[ht:iB P t 2][he:fF enc 2](next:Reg P C ops rest (st.app dst ⟨.agg [.c c1,.c c2],[]⟩) (([b],[])::acc) K)(hd:aG dst C.nt=true:=by rfl)(hx:st.ev x=some (.it (.one (.rel b (uP (j+1) (i*2))))):=by rfl)(hb:st.hp b= .ent (.abs (jg tO tI size enc js c)):=by rfl)(hj:c[j]? =some r:=by assumption)(ha:r[i]? =some a:=by assumption)(h4:enc a=[c1,c2]:=by rfl):Go1 P C ops dst (.load t x) ty rest st acc K:=
 Go1.akM (l:=[c1,c2]) hd hx hb hj ((yG (enc:=enc) (size:=2) ha).trans h4) rfl next
theorem Go1.axd{n:Nat}{cells l:List CA}[ht:iB P t n](hd:aG dst C.nt=true)(hx:st.ev x=some (.r (dK cells)))(hl:cells.take n=l)(hn:l.length=n)
  (next:Reg P C ops rest (st.app dst ⟨.agg (l.map Atom.c),[]⟩) (([],[])::acc) K):Go1 P C ops dst (.load t x) ty rest st acc K:=
 Go1.dS [] [] zp hd zp (fun o ho _ st' E S a w hev hs _=>by
  obtain⟨h0,_⟩:=hs.ev ((hev x (by simp[ho,Op.operands])).trans hx)
  obtain⟨b,o',hv,h6⟩:=adu.1 h0;have h7:∀i c,l[i]? =some c->∃u,¬S b/\w.cell? ⟨b,o'+i,none⟩=some u/\c.has S w u:=fun i c hi=>by
   rw[<-hl,zy9]at hi
   split at hi
   ·exact h6 i c hi
   ·cases hi
  have hex:=yA (E:=E) l o' h7;obtain⟨us,hall,hus⟩:=hex;have hlen:=hall.length;have hrun:=run_loadCells_list (P:=P) w ⟨b,o',none⟩ us hus;have hsz:(P.info? t).map (·.size)=some us.length:=by rw[ht.s,<-hn];simp at hlen;rw[hlen]
  refine⟨fun j hj=>?_,.agg us.toArray,?_,us,rfl,hall⟩
  ·simp only[AV.ids,AV0.ids,zx9]at hj;obtain⟨c,hc,hj⟩:=hj;obtain⟨c',_,rfl⟩:=zqg.1 hc;cases hj
  ·unfold execOp;rw[ho];simp[hv,Instr.loadAt,Instr.sureAddr,loadVar,iZ ht.h,run_sizeOf hsz,hrun]) next
theorem G.amk{c1 c2 c3:CA}{cells:List CA}[ht:iB P t 3](next:Reg P C ops rest (st.app dst ⟨.agg [.c c1,.c c2,.c c3],[]⟩) (([],[])::acc) K)(hd:aG dst C.nt=true:=by rfl)(hx:st.ev x=some (.r (dK cells)):=by rfl)(hl:cells.take 3=[c1,c2,c3]:=by rfl):Go1 P C ops dst (.load t x) ty rest st acc K:=
 Go1.axd hd hx hl rfl next
end
structure HeldM(q:Prop):Prop where
 out:q
theorem zg{p q:Prop}(h:q)(k:HeldM q->p:=by
  intro h
  repeat1' (first
   |(refine SX.Go1.is ?_;first
     |(refine SX.Go1.isLoad ?_;first|refine SX.G.ae8 ?_|refine SX.G.aeS ?_|refine SX.G.aaT ?_|refine SX.G.aas ?_|refine SX.G.aeR ?_|refine SX.G.aav ?_|refine SX.G.load5 ?_|refine SX.G.ap5 ?_|refine SX.G.atl ?_|refine SX.G.al6 ?_|refine SX.G.al7 ?_|refine SX.G.amH ?_|refine SX.G.ama ?_|refine SX.G.akM ?_|refine SX.G.loadOWA ?_|refine SX.G.ami ?_|refine SX.G.afa ?_|refine SX.G.aaF ?_|refine SX.G.afA ?_|refine SX.G.acj ?_)
     |(refine SX.Go1.amu ?_;first|refine SX.G.lss ?_|refine SX.G.eql ?_|refine SX.G.eqlNilT ?_|refine SX.G.eqlNilF ?_|refine SX.G.neq ?_|refine SX.G.gtr ?_|refine SX.G.geq ?_|refine SX.G.leq ?_|refine SX.G.addN ?_|refine SX.G.amw ?_|refine SX.G.subN ?_|refine SX.G.al5 ?_|refine SX.G.add ?_|refine SX.G.sub ?_|refine SX.G.mulN ?_|refine SX.G.amE ?_|refine SX.G.mul ?_|refine SX.G.quoN ?_|refine SX.G.alB ?_|refine SX.G.quo ?_|refine SX.G.remN ?_|refine SX.G.alK ?_|refine SX.G.rem ?_|refine SX.G.eqlT ?_|refine SX.G.aw6 ?_|refine SX.G.awc ?_|refine SX.G.awh ?_|refine SX.G.neqT ?_|refine SX.G.anX ?_|refine SX.G.aos ?_|refine SX.G.shr ?_|refine SX.G.shl ?_|refine SX.G.and ?_|refine SX.G.apg ?_)
     |(refine SX.Go1.isUn ?_;first|refine SX.G.not ?_|refine SX.G.neg ?_)
     |(refine SX.Go1.isField ?_;first|refine SX.G.fieldAddr ?_|refine SX.G.lV ?_)
     |(refine SX.Go1.abQ ?_;first|refine SX.G.arv ?_|refine SX.G.apQ ?_|refine SX.G.aa0 ?_|refine SX.G.aa2 ?_|refine SX.G.aaD ?_|refine SX.G.build5 ?_|refine SX.G.amS ?_|refine SX.G.amW ?_|refine SX.G.ale ?_|refine SX.G.build ?_)
     |(refine SX.Go1.abE ?_;first|refine SX.G.store ?_|refine SX.G.agL ?_|refine SX.G.agW ?_|refine SX.G.acg ?_|refine SX.G.nk ?_|refine SX.G.aaK ?_)
     |(refine SX.Go1.isIx ?_;first|refine SX.G.rX ?_|refine SX.G.sW ?_|refine SX.G.mQ ?_|refine SX.G.sJ ?_|refine SX.G.mD ?_|refine SX.G.indexAddrA ?_|refine SX.G.indexAddrG ?_)
     |(refine SX.Go1.yR ?_;first|refine SX.G.lit0Own ?_|refine SX.G.litH ?_|refine SX.G.agy ?_|refine SX.G.am0 ?_|refine SX.G.lit2 ?_|refine SX.G.lit3 ?_|refine SX.G.aoq ?_)
     |(refine SX.Go1.eO ?_;first|refine SX.G.minN ?_|refine SX.G.maxN ?_|refine SX.G.maxL ?_|refine SX.G.maxR ?_|refine SX.G.anv ?_|refine SX.G.lenN ?_|refine SX.G.lenT ?_|refine SX.G.asN ?_|refine SX.G.aow ?_|refine SX.G.abM ?_|refine SX.G.appendNilW ?_|refine SX.G.amn ?_|refine SX.G.sliceDataN ?_|refine SX.G.adQ ?_|refine SX.G.unsafeStrN ?_|refine SX.G.acH ?_|refine SX.G.lenH ?_|refine SX.G.abL ?_|refine SX.G.aw4 ?_|refine SX.G.arD ?_|refine SX.G.anl ?_|refine SX.G.aci ?_|refine SX.G.call ?_)
     |refine SX.G.move ?_|refine SX.G.assign ?_|refine SX.G.extract ?_|refine SX.G.boxN ?_|refine SX.G.box ?_|refine SX.G.ads ?_|refine SX.G.alloc ?_|refine SX.G.aeB ?_|refine SX.G.nilCheckR ?_|refine SX.G.mkfn ?_|refine SX.G.awx ?_|refine SX.G.awJ ?_|refine SX.G.awH ?_|refine SX.G.pick ?_|refine SX.R.ang ?_|refine SX.R.amV ?_|refine SX.G.pickB ?_|refine SX.G.pickV ?_|refine SX.G.amI ?_|refine SX.G.amJ ?_|refine SX.G.al9 ?_|refine SX.G.alG ?_|refine SX.G.conv ?_|refine SX.G.agG ?_|refine SX.G.asR ?_|refine SX.G.sliceH ?_|refine SX.G.yS ?_|refine SX.G.sliceLoW ?_|refine SX.G.uH ?_|refine SX.G.sliceLoR ?_|refine SX.G.sliceHiO ?_|refine SX.G.aaj ?_|refine SX.G.yO ?_|refine SX.G.sliceLHT ?_|refine SX.G.aw3 ?_|refine SX.G.loadB15 ?_|refine SX.G.alD ?_|refine SX.G.lookM0 ?_|refine SX.G.putM ?_|refine SX.G.makeMap ?_|refine SX.G.amk ?_|refine SX.G.loadRT4 ?_|refine SX.G.loadRT2 ?_|refine SX.G.asi ?_|refine SX.G.agF ?_|refine SX.G.u6 ?_|refine SX.G.uD ?_|refine SX.G.sliceLHS ?_|refine SX.G.adR ?_)
   |(refine SX.Reg.is ?_;first|refine SX.Reg.go ?_|refine SX.R.runT ?_|refine SX.R.runF ?_|refine SX.R.amx ?_|refine SX.R.ana ?_|refine SX.R.aeP ?_|refine SX.Reg.nil ⟨z6,?_⟩|refine SX.Reg.nil ?_)
   |(refine WP.is ?_;first|refine WP.seq ?_|refine WP.am2 (by rfl) ?_|refine WP.ah4 (by rfl) z6 ?_|refine WP.block ?_|refine WP.skip ?_|refine WP.exit ?_|refine WP.ret ?_|refine WP.label ?_|refine SX.W.alx ?_|refine SX.W.acT ?_)
   |refine SX.aiw ?_|refine SX.apA ?_|refine SX.awK ?_|refine SX.apE ?_|refine SX.asY ?_|refine SX.akR ?_|refine SX.aq8 rfl ?_|refine SX.retR ?_|refine SX.retN ?_|refine SX.awE ?_|refine SX.awk ?_)
  exact h.out):p:=k ⟨h⟩
end
section
def B3(C:Ctx):Prop:=∀k,C.B k->k=C.E0.blk 81\/C.E0.sl 82= .map (some k)\/(C.E0.sl 84).ownBlock=some k
abbrev zW(t:TypeId)(cs:List Atom)(l:List (List UInt8×List CA))(t2:TypeId)(size n:Nat)(cells:List CA):List (Nat×Ent):=[(81,.box t cs),(82,.abs (jy l)),(84,.row t2 size n cells)]
theorem ak.fnM{P:Program}{f:FuncId}{fn:Func}{c:Code}{args:List AV}{t:TypeId}{cs:List Atom}{l:List (List UInt8×List CA)}{t2:TypeId}{size n:Nat}{cells:List CA}{out:Out}{nt:Nat}{rs:List ResultVar}(hf:P.funcs[f]? =some fn)(hres:fn.results=rs.toArray)(hnt:fn.ntmps=nt)(hb:fn.body=some c)(hn:(fn.name== "runtime.NumGoroutine")=false)(hna:Nat.ble args.length nt=true)
  (p3:(args.all fun v=>v.ids.all (kg [81,82,84]))=true) (p4:(cs.all fun a=>a.ids.all (kg [81,82,84]))=true) (p5:([81,82,84].all (kg (out.hp.map (·.1))))=true)
  (p6:((out.res.ids++out.hp.flatMap fun p=>p.2.ids).all fun i=>kg [81,82,84] i||kg (out.hp.map (·.1)) i)=true)
  (h:∀(w0:World) (T B:Nat->Prop) (E0:Env),B3 ⟨w0,T,B,nt,E0,fun b=>(lk (zW t cs l t2 size n cells) b).isSome⟩->WP P ⟨w0,T,B,nt,E0,fun b=>(lk (zW t cs l t2 size n cells) b).isSome⟩ c ⟨fun t=>args[t]?,fun b=>match lk (zW t cs l t2 size n cells) b with|some e=> .ent e|none=> .free⟩ (bK ⟨w0,T,B,nt,E0,fun b=>(lk (zW t cs l t2 size n cells) b).isSome⟩ P rs out)):ak P f args (zW t cs l t2 size n cells) out:=by
 have e0:(zW t cs l t2 size n cells).map (·.1)=[81,82,84]:=rfl;have p1:nodupB ((zW t cs l t2 size n cells).map (·.1))=true:=rfl;have e1:(fun b=>((zW t cs l t2 size n cells).lookup b).isSome)=fun b=>(lk (zW t cs l t2 size n cells) b).isSome:=funext fun b=>by rw[gT]
 have e2:jV args (zW t cs l t2 size n cells)=⟨fun t=>args[t]?,fun b=>match lk (zW t cs l t2 size n cells) b with|some e=> .ent e|none=> .free⟩:=by
  unfold jV
  congr 1
  funext b
  rw[gT];cases lk (zW t cs l t2 size n cells) b <;> rfl
 have key:∀i,kg [81,82,84] i=true->((zW t cs l t2 size n cells).lookup i).isSome=true:=fun i hi=>by rw[gT];exact pU (fT.1 hi)
 have hm3:∀b e,(b,e)∈zW t cs l t2 size n cells->(b=81/\e= .box t cs)\/(b=82/\e= .abs (jy l))\/(b=84/\e= .row t2 size n cells):=fun b e hb=>by simpa using hb
 refine ak.fnH hf hres hnt hb hn hna (fun b e hb=>by rw[gT];exact agb p1 hb) (fun v hv i hi=>key i (zqh.1 (zqh.1 p3 v hv) i hi)) (fun b e hb i hi=>?_) (fun b e hb=>?_) (fun i hi=>?_) (fun w0 T B E0 hB hH=>?_)
 ·rcases hm3 b e hb with⟨rfl,rfl⟩|⟨rfl,rfl⟩|⟨rfl,rfl⟩
  ·obtain⟨a,ha,hi⟩:=zx9.1 (show i∈cs.flatMap Atom.ids from hi)
   exact key i (zqh.1 (zqh.1 p4 a ha) i hi)
  ·cases hi
  ·cases hi
 ·have hmem:b∈[81,82,84]:=by rw[<-e0];exact zqg.2 ⟨(b,e),hb,rfl⟩
  obtain⟨⟨b',s⟩,hs,rfl⟩:=zqg.1 (fT.1 (zqh.1 p5 b hmem));exact⟨s,hs⟩
 ·have hi':i∈out.res.ids++out.hp.flatMap fun p=>p.2.ids:=by
   rw[zyg];rcases hi with hi|⟨b,e,hb,hi⟩
   ·exact .inl hi
   ·exact .inr (zx9.2 ⟨(b,.ent e),hb,hi⟩)
  have:=zqh.1 p6 i hi';rw[Bool.or_eq_true]at this;rcases this with h|h
  ·exact .inl (key i h)
  ·obtain⟨⟨b',s⟩,hs,rfl⟩:=zqg.1 (fT.1 h);exact .inr ⟨s,hs⟩
 ·rw[e1,e2];refine WP.bK (h w0 T B E0 fun k hk=>?_)
  obtain⟨b,e,hb,hk⟩:=hB k hk;obtain⟨S,w,hh⟩:=hH b e hb;rcases hm3 b e hb with⟨rfl,rfl⟩|⟨rfl,rfl⟩|⟨rfl,rfl⟩
  ·exact .inl (zy7 hk).symm
  ·obtain⟨r,es,clock,h1,h2,_⟩:=hh;exact .inr (.inl (by
    show E0.sl 82=_;rw[h1,(h2 k).1 hk]))
  ·exact .inr (.inr hk)
theorem St.aln{C:Ctx}{st:St}{b size n:Nat}{t:TypeId}{cells:List CA}{t1:TypeId}{cs:List Atom}{l:List (List UInt8×List CA)}{t2:TypeId}{size2 n2:Nat}{cells2:List CA}(hB:B3 C)(h81:st.hp 81= .ent (.box t1 cs))(h82:st.hp 82= .ent (.abs (jy l)))(h84:st.hp 84= .ent (.row t2 size2 n2 cells2))
  (f1:C.fix 81=true) (f2:C.fix 82=true) (f3:C.fix 84=true) (hne:(Nat.beq b 81||Nat.beq b 82||Nat.beq b 84)=false) (hb:st.hp b= .ent (.row t size n cells)):St.le C st (st.frz b size n cells):=
 St.ag4 (fun E S a w hs k hk=>((hs.blk b _ k hb hk).2).elim (fun hk'=>by
  have n1:b≠81:=fun e=>by subst e;simp at hne
  have n2:b≠82:=fun e=>by subst e;simp at hne
  have n3:b≠84:=fun e=>by subst e;simp at hne
  rcases hB k hk' with h|h|h
  ·refine absurd ?_ (hs.sep b 81 _ _ _ n1 hb h81 hk);show some (E.blk 81)=some k;rw[(hs.env 81 f1).1,h]
  ·refine absurd ?_ (hs.sep b 82 _ _ _ n2 hb h82 hk);obtain⟨r,es,clock,g1,g2,_⟩:=hs.hp 82 _ h82;rw[(hs.env 82 f2).2.1,h]at g1;show E.fp 82 k;rw[g2]
   injection g1 with g1
   exact zy7 g1
  ·refine absurd ?_ (hs.sep b 84 _ _ _ n3 hb h84 hk);show (E.sl 84).ownBlock=some k;rw[(hs.env 84 f3).2.1,h]) id) hb
theorem WP.alC{P:Program}{C:Ctx}{st:St}{Q:Exit->St->Prop}{c:Code}{t:TypeId}(b:Nat){size n:Nat}{cells:List CA}{t1:TypeId}{cs:List Atom}{l:List (List UInt8×List CA)}{t2:TypeId}{size2 n2:Nat}{cells2:List CA}(hB:B3 C)(hb:st.hp b= .ent (.row t size n cells))(h81:st.hp 81= .ent (.box t1 cs))(h82:st.hp 82= .ent (.abs (jy l)))(h84:st.hp 84= .ent (.row t2 size2 n2 cells2))
  (h:WP P C c (st.frz b size n cells) Q) (f1:C.fix 81=true:=by rfl) (f2:C.fix 82=true:=by rfl) (f3:C.fix 84=true:=by rfl) (hne:(Nat.beq b 81||Nat.beq b 82||Nat.beq b 84)=false:=by rfl):WP P C c st Q:=
 WP.weaken (St.aln hB h81 h82 h84 f1 f2 f3 hne hb) h
theorem aN.frzM{P:Program}{C:Ctx}{st:St}{rs:List ResultVar}{out:Out}{t:TypeId}(b:Nat){size n:Nat}{cells:List CA}{t1:TypeId}{cs:List Atom}{l:List (List UInt8×List CA)}{t2:TypeId}{size2 n2:Nat}{cells2:List CA}(hB:B3 C)(hb:st.hp b= .ent (.row t size n cells))(h81:st.hp 81= .ent (.box t1 cs))(h82:st.hp 82= .ent (.abs (jy l)))(h84:st.hp 84= .ent (.row t2 size2 n2 cells2))
  (h:aN C P rs out (st.frz b size n cells)) (f1:C.fix 81=true:=by rfl) (f2:C.fix 82=true:=by rfl) (f3:C.fix 84=true:=by rfl) (hne:(Nat.beq b 81||Nat.beq b 82||Nat.beq b 84)=false:=by rfl):aN C P rs out st:=by
 obtain⟨s',hl,hr⟩:=h;exact⟨s',fun a w hs=>hl a w (St.aln hB h81 h82 h84 f1 f2 f3 hne hb a w hs),hr⟩
theorem ak.bun{P:Program}{f:FuncId}{args:List AV}{r:AV}{b:Nat}{t:TypeId}{cells cells':List Atom}{R R':List (Nat×Ent)}(h:ak P f args ((b,.box t cells)::R) ⟨r,(b,.ent (.box t cells'))::R'.map fun q=>(q.1,.ent q.2)⟩)
  (hargs:∀v∈args,∀i∈v.ids,i=b) (hr:r.ids=[]) (hbn:∀e,(b,e)∉R'):
  ak P f args [(b,.abs (pV b (fun _:Unit=>True) t (fun _=>cells) (fun _=>R)))] ⟨r,[(b,.ent (.abs (pV b (fun _:Unit=>True) t (fun _=>cells') (fun _=>R'))))]⟩:=by
 obtain⟨h0,h⟩:=h;refine⟨h0,fun E S w vs hl hgl hall hpre hblk hsep=>?_⟩
 obtain⟨p,Ep,⟨hs1,hs2⟩,hB⟩:∃(p:Unit) (Ep:Env),(Ep.blk b=E.blk b/\Ep.sl b=E.sl b)/\adP (fun _:Unit=>True) t (fun _=>cells) (fun _=>R) (E.blk b) (E.fp b) S w p Ep:=hpre b _ (zxi.2 rfl)
 have hX:∀k,E.fp b k->S k:=fun k hk=>hblk b _ k (zxi.2 rfl) hk
 have hmem:∀i e,(i,e)∈(b,Ent.box t cells)::R->(i=b/\e= .box t cells)\/(i,e)∈R:=fun i e hi=>by
  rcases zy3.1 hi with hi|hi
  ·cases hi;exact .inl ⟨rfl,rfl⟩
  ·exact .inr hi
 have hfp:∀i e k,(i,e)∈(b,Ent.box t cells)::R->e.at Ep i k->E.fp b k:=fun i e k hi hk=>by
  rcases hmem i e hi with⟨rfl,rfl⟩|hi
  ·have hk':some (Ep.blk i)=some k:=hk;rw[hs1]at hk';exact(hB.X k).2 (.inl (zy7 hk').symm)
  ·exact(hB.X k).2 (.inr ⟨i,e,hi,hk⟩)
 have hv:aK (AV.has Ep S w) args vs:=hall.mono fun a v ha hav=>hav.step (fun i hi=>by rw[hargs a ha i hi];exact⟨hs1,hs2⟩) (Off.refl S w) (fun k hk=> .inl hk)
 refine(h Ep S w vs hl hgl hv (fun i e hi=>?_) (fun i e k hi hk=>hX k (hfp i e k hi hk)) (fun i i' e e' k hne hi hi' hk hk'=>?_)).mono fun e w' ⟨v,E2,S2,he,hE⟩=>?_
 ·rcases hmem i e hi with⟨rfl,rfl⟩|hi
  ·obtain⟨cs,g1,g2⟩:=hB.box;exact⟨cs,by rw[hs1];exact g1,g2⟩
  ·exact hB.ents i e hi
 ·rcases hmem i e hi with⟨e1,rfl⟩|hm
  ·rcases hmem i' e' hi' with⟨e2,rfl⟩|hm'
   ·exact hne (e1.trans e2.symm)
   ·have hk1:some (Ep.blk i)=some k:=hk;rw[e1,hs1]at hk1;exact hB.sepb i' e' hm' ((zy7 hk1)▸hk')
  ·rcases hmem i' e' hi' with⟨e2,rfl⟩|hm'
   ·have hk1:some (Ep.blk i')=some k:=hk';rw[e2,hs1]at hk1;exact hB.sepb i e hm ((zy7 hk1)▸hk)
   ·exact hB.sep i i' e e' k hne hm hm' hk hk'
 ·have hb2:Ep.at' E2 b:=hE.env b fun _=>⟨_,zq9⟩
  have hq:∀i e,(i,e)∈R'->(i,Slot.ent e)∈(b,Slot.ent (.box t cells'))::R'.map fun q=>(q.1,Slot.ent q.2):=fun i e hi=>zy2 _ (zqg.2 ⟨(i,e),hi,rfl⟩)
  have hbb:some (E2.blk b)=some (E.blk b):=by rw[hb2.1,hs1]
  have hfp2:∀k,(∃i e,(i,e)∈(b,Ent.box t cells)::R/\e.at Ep i k)->∃i e,(i,e)∈[(b,Ent.abs (pV b (fun _:Unit=>True) t (fun _=>cells) (fun _=>R)))]/\e.at E i k:=fun k ⟨i,e,hi,hk⟩=>⟨b,_,zxi.2 rfl,hfp i e k hi hk⟩
  have hX':∀k,(k=E.blk b\/∃i e,(i,e)∈R'/\e.at E2 i k)->S2 k/\((∃i e,(i,e)∈[(b,Ent.abs (pV b (fun _:Unit=>True) t (fun _=>cells) (fun _=>R)))]/\e.at E i k)\/w.heap.size<=k):=fun k hk=>by
   rcases hk with rfl|⟨i,e,hi,hk⟩
   ·have:=hE.blk b _ (E.blk b) zq9 hbb;exact⟨this.1,this.2.imp (hfp2 _) id⟩
   ·have:=hE.blk i e k (hq i e hi) hk;exact⟨this.1,this.2.imp (hfp2 _) id⟩
  have hone:∀i e',(i,Slot.ent e')∈[(b,Slot.ent (Ent.abs (pV b (fun _:Unit=>True) t (fun _=>cells') (fun _=>R'))))]->i=b/\e'= .abs (pV b (fun _:Unit=>True) t (fun _=>cells') (fun _=>R')):=fun i e' hi=>by simpa using hi
  refine⟨v,⟨E.blk,E.sl,upd E.fp b fun k=>k=E.blk b\/∃i e,(i,e)∈R'/\e.at E2 i k⟩,S2,he,
   {env:=fun i _=>⟨rfl,rfl⟩,fpe:=fun i hi=>upd_ne _ _ fun e=>hi (.ent (.abs (pV b (fun _:Unit=>True) t (fun _=>cells') (fun _=>R')))) (by simp[e]),sub:=hE.sub,new:=hE.new,lt:=hE.lt,off:=hE.off.mono hfp2,
    res:=hE.res.step (fun i hi=>by rw[hr]at hi;cases hi) (Off.refl _ _) (fun k hk=> .inl hk),ents:=fun i e' hi=>?_,blk:=fun i e' k hi hk=>?_,sep:=fun i i' e1 e2 k hne h1 h2=>?_}⟩
  ·obtain⟨rfl,rfl⟩:=hone i e' hi;show (pV i (fun _:Unit=>True) t (fun _=>cells') (fun _=>R')).has (E.blk i) (E.sl i) (upd E.fp i _ i) S2 w'
   rw[upd_same];obtain⟨cs,g1,g2⟩:=hE.ents i _ zq9;refine⟨(),E2,⟨hb2.1.trans hs1,hb2.2.trans hs2⟩,{φ:=trivial,box:=⟨cs,by rw[<-zy7 hbb];exact g1,g2⟩,ents:=fun j e hj=>hE.ents j e (hq j e hj),sep:=fun j j' e e' k hne hj hj'=>hE.sep j j' e e' k hne (hq j e hj) (hq j' e' hj'),sepb:=fun j e hj hk=>?_,X:=fun k=>Iff.rfl}⟩
   by_cases hji:j=i
   ·subst hji;exact hbn e hj
   ·exact hE.sep i j _ e (E.blk i) (fun e=>hji e.symm) zq9 (hq j e hj) hbb hk
  ·obtain⟨rfl,rfl⟩:=hone i e' hi;have hk':upd E.fp i _ i k:=hk;rw[upd_same]at hk';exact hX' k hk'
  ·obtain⟨rfl,_⟩:=hone _ _ h1;obtain⟨rfl,_⟩:=hone _ _ h2;exact absurd rfl hne
def aty:AV0->AV0
 | .one (.clo f [])=> .one (.c (.val (.func (.func f) #[] #[])))
 |x=>x
theorem aqC{E:Env}{S:Nat->Prop}{w:World}{x:AV0}{v:Value}(h:x.has E S w v):(aty x).has E S w v:=by
 unfold aty
 split
 ·exact h
 ·exact h
theorem ahx{E:Env}{S:Nat->Prop}{w:World}:∀{l:List (Nat×AV0)} {us:List (Nat×Value)},aK (fun p q=>p.1=q.1/\p.2.has E S w q.2) l us->aK (fun p q=>p.1=q.1/\p.2.has E S w q.2) (l.map fun p=>(p.1,aty p.2)) us
 |[],[],_=>trivial
 |_::_,_::_,h=>⟨⟨h.1.1,aqC h.1.2⟩,ahx h.2⟩
 |[],_::_,h=>h.elim
 |_::_,[],h=>h.elim
section
variable{P:Program}{C:Ctx}{st:St}
variable{ops rest:List Oper}{acc:List (List Nat×List Nat)}{K:List (List Nat×List Nat)->St->Prop}{dst:Option Tmp}{d:Tmp}{ty t:TypeId}
theorem ajM{o:Oper}{st':St}{E:Env}{S:Nat->Prop}{a:Act}{w:World}{e:TypeId}{n size bytes:Nat}{zs:List Value}{parts:Array (Nat×Operand)}{ps:List (Nat×AV0)}{l:List Atom}{m:List CA}[ht:bL P t e size][he:fV P e zs bytes]
  (hs:oU C st' E S a w) (h3:o.op= .buildSlice t n parts) {ps0:List (Nat×AV0)} (hp':evp st' parts.toList=some ps0) (hps:ps0.map (fun p=>(p.1,aty p.2))=ps) (h1:(ps.all fun p=>p.2.cells.all Atom.eY&&Nat.blt p.1 n)=true) (hn:Nat.ble (n*size) 16777216=true)
  (hfl:gM (placesOf n size) ((madeCells zs.toArray (n*size)).toList.map fun v=>Atom.c (.val v)) ps=some l) (hc:bf l=some m) (hm:Nat.beq m.length (n*size)=true):
  ∃us:List Value,(execOp a.eval o).run P w= .ok (.value (.slice (some ⟨w.heap.size,0,none⟩) n n)) (w.alloc (.cells us.toArray e))/\us.length=n*size/\aK (CA.has S w) m us/\n<=maxLen:=by
  obtain⟨hall0,hids⟩:=yE hs hp';have hall:=ahx hall0;rw[hps]at hall;obtain⟨i,z,hi,hz,hcz,hsz,hby⟩:=oH he ht.s;rw[zqh]at h1;rw[zva]at hn;obtain⟨us,hfill,hus⟩:=vH (w:=w) (cs:=(madeCells zs.toArray (n*size)).toList) hall (fun p hp=>by have:=h1 p hp;simp only[zx4]at this;exact this.1) (mE _) hfl
  have hlen:us.length=n*size:=by
   have h6:=hus.length;rw[fq hc]at h6;simp at h6
   have:=Nat.eq_of_beq_eq_true hm;omega
  have hqi:∀q∈parts.toList.map (fun x=>(x.1,a.eval x.2)),(fun i=>(placesOf n size)[i]?) q.1=(fun i=>some (i*size,size)) q.1:=by
   intro q hq;obtain⟨j,hj⟩:=List.mem_iff_getElem?.1 hq;obtain⟨p,hpj,hpq,_⟩:=hall.get' hj;have:=h1 p (zq4 hpj);simp only[zx4,Nat.blt_eq]at this;have hlt:q.1 < n:=by rw[<-hpq];exact this.2
   simp[placesOf,hlt]
  rw[sI (p:=fun i=>(placesOf n size)[i]?) (p':=fun i=>some (i*size,size)) _ _ hqi]at hfill
  refine⟨us,?_,hlen,jK (by rw[<-fq hc];exact hus),?_⟩
  ·unfold execOp;rw[h3];have hparts:(parts.map fun x=>(x.1,a.eval x.2)).toList=parts.toList.map fun x=>(x.1,a.eval x.2):=by simp
   have hgt:¬n*size > 2 ^ 24:=zE
   simp only[Instr.buildSlice,Sem.run_bind,run_underlying ht.h,Result.andThen_ok,run_sizeOf ht.s,hparts];rw[if_neg hgt];by_cases h0:n*size=0
   ·have he0:(madeCells zs.toArray (n*size)).toList.toArray=(Array.range (n*size)).map ((#[]:Array Value)[· % (#[]:Array Value).size]!):=by rw[h0];simp[madeCells]
    rw[he0]at hfill;rw[if_pos h0];simp only[Sem.run_bind,Sem.run_pure,Result.andThen_ok];rw[hfill];simp[newRow]
   ·have he0:(madeCells zs.toArray (n*size)).toList.toArray=(Array.range (n*size)).map (zs.toArray[· % zs.toArray.size]!):=by rw[Array.toArray_toList];rfl
    rw[he0]at hfill;rw[if_neg h0];simp only[Sem.run_bind,Sem.run_pure,Result.andThen_ok,zeroValue,typeInfo,run_program,hi,hz,hcz];rw[hfill];simp[newRow]
  ·by_cases h0:n=0
   ·subst h0;simp[maxLen]
   ·have:=ht.p;have h7:n*1<=n*size:=zx8 _ this;simp only[maxLen];omega
theorem Go1.abp{dst:Option Tmp}{e:TypeId}{n size bytes:Nat}{zs:List Value}{parts:Array (Nat×Operand)}{ps:List (Nat×AV0)}{l:List Atom}{m:List CA}[ht:bL P t e size][he:fV P e zs bytes](hd:aG dst C.nt=true)
  {ps0:List (Nat×AV0)} (hp:evp st parts.toList=some ps0) (hps:ps0.map (fun p=>(p.1,aty p.2))=ps) (h1:(ps.all fun p=>p.2.cells.all Atom.eY&&Nat.blt p.1 n)=true) (hn:Nat.ble (n*size) 16777216=true)
  (hfl:gM (placesOf n size) ((madeCells zs.toArray (n*size)).toList.map fun v=>Atom.c (.val v)) ps=some l) (hc:bf l=some m) (hm:Nat.beq m.length (n*size)=true)
  (next:Reg P C ops rest (st.app dst ⟨.r (aQ size n m),[]⟩) (([],[])::acc) K):Go1 P C ops dst (.buildSlice t n parts) ty rest st acc K:=by
 refine⟨[],⟨.r (aQ size n m),[]⟩,fun o h2 h3 h4=>aX.eff [] [] (fun b hb=>?_) (h2▸eu hd) (fun b e hb=>by cases hb) (fun b e hb=>by cases hb) (fun b s hb=>by cases hb) (fun b s hb=>by cases hb) (fun st' E S a w hev hhp hs _ _=>?_),next⟩
 ·rcases hb with⟨e,hb⟩|⟨e,hb⟩|⟨s,hb⟩ <;> cases hb
 ·have hp':evp st' parts.toList=some ps0:=by
   rw[oC (fun x hx=>hev x.2 (by rw[h3];simp[Op.operands];exact⟨x.1,by simpa using hx⟩))];exact hp
  obtain⟨us,hrun,hlen,hall,hmx⟩:=ajM (ht:=ht) (he:=he) hs h3 hp' hps h1 hn hfl hc hm;refine⟨⟨fun i hi=>(by cases hi),fun b e hb=>by cases hb⟩,fun K Q hK=>?_⟩
  unfold Oper.wp;rw[hrun];refine hK _ _ E S {env:=fun _ _=>⟨rfl,rfl⟩,fpe:=fun _ _=>rfl,sub:=fun _ h=>h,new:=fun _ h=> .inl h,lt:=fun k hk=>zqf (hs.lt k hk) zp,off:=Off.alloc _ _ _,res:=?_,ents:=fun _ _ h=>(by cases h),blk:=fun _ _ _ h=>(by cases h),sep:=fun _ _ _ _ _ _ h=>(by cases h)}
  refine dh.2 ⟨_,_,rfl,zq6 _,hmx,(fun h=>by cases h),(by rw[hall.length,hlen]),fun i c hc=>?_⟩
  obtain⟨u,hu,huc⟩:=hall.get hc;refine⟨w.heap.size,0,u,rfl,fun hS=>absurd (hs.lt _ hS) (Nat.lt_irrefl _),?_,huc.step (Off.alloc _ _ _) (fun k hk=> .inl hk)⟩
  have hcell:=cells_of_block (heap_alloc_new w (.cells us.toArray e)) 0 i u (by simpa using hu)
  simpa[Addr.add_lit]using hcell
end
end
end
section
open Go Go.RowKit Go.ChangeShapes Go.WideShapes Go.ChangeAt Go.Joins
section
variable{H:Type}{enc:TypeId×Value->H}{P:Program}{W:World}{base:Nat}{sp:Nat->Bool}{hd:Bool}
end
end
end SX
set_option linter.unusedSectionVars false
namespace Go.Proofs.YtjnhnbgpifohjaaGreatDoor
namespace FM
def ch:Nat->Nat->Nat
 |_,0=>1
 |0,_+1=>0
 |n+1,k+1=>ch n k+ch n (k+1)
theorem yC(n:Nat):ch n 0=1:=by cases n <;> rfl
theorem af7:∀{n k:Nat},n < k->ch n k=0
 |0,k+1,_=>rfl
 |n+1,k+1,h=>by
  unfold ch;rw[af7 (show n < k by omega),af7 (show n < k+1 by omega)]
theorem alv:∀n:Nat,ch n n=1
 |0=>rfl
 |n+1=>by unfold ch;rw[alv n,af7 (Nat.lt_succ_self n)]
theorem agd:∀n k:Nat,(k+1)*ch (n+1) (k+1)=(n+1)*ch n k
 |0,0=>rfl
 |0,k+1=>by
  rw[af7 (show 0+1 < k+1+1 by omega),af7 (show 0 < k+1 by omega)];rfl
 |n+1,0=>by
  have ih:=agd n 0;show (0+1)*(ch (n+1) 0+ch (n+1) (0+1))=_;rw[Nat.mul_add,ih,yC,yC];omega
 |n+1,k+1=>by
  have i1:=agd n (k+1);have i2:=agd n k;have e1:ch (n+1+1) (k+1+1)=ch (n+1) (k+1)+ch (n+1) (k+1+1):=rfl;have e2:ch (n+1) (k+1)=ch n k+ch n (k+1):=rfl;rw[e1,Nat.mul_add,i1];have e3:(k+1+1)*ch (n+1) (k+1)=(n+1)*ch n k+ch (n+1) (k+1):=by rw[<-i2,zv8 (k+1)]
  rw[e3];have e4:(n+1)*ch n k+(n+1)*ch n (k+1)=(n+1)*ch (n+1) (k+1):=by rw[e2,Nat.mul_add]
  have e5:(n+1+1)*ch (n+1) (k+1)=(n+1)*ch (n+1) (k+1)+ch (n+1) (k+1):=zv8 _ _;omega
def bs(f:Nat->Nat):Nat->Nat
 |0=>0
 |m+1=>bs f m+f m
theorem agj(f:Nat->Nat)(m:Nat):bs f (m+1)=bs f m+f m:=rfl
theorem aho{f g:Nat->Nat}:∀{m:Nat},(∀k,k < m->f k=g k)->bs f m=bs g m
 |0,_=>rfl
 |m+1,h=>by unfold bs;rw[aho fun k hk=>h k zE,h m zE]
theorem asO(f g:Nat->Nat):∀m,bs (fun k=>f k+g k) m=bs f m+bs g m
 |0=>rfl
 |m+1=>by unfold bs;rw[asO f g m];omega
theorem ar6(a:Nat)(f:Nat->Nat):∀m,bs (fun k=>a*f k) m=a*bs f m
 |0=>rfl
 |m+1=>by unfold bs;rw[ar6 a f m,Nat.mul_add]
theorem zP(f:Nat->Nat):∀m,bs f (m+1)=f 0+bs (fun k=>f (k+1)) m
 |0=>by unfold bs bs;omega
 |m+1=>by
  have:=zP f m;rw[agj f (m+1),agj (fun k=>f (k+1)) m]
  omega
theorem ap8(a:Nat):∀n,bs (fun k=>ch n k*a ^ k) (n+1)=(a+1) ^ n
 |0=>by unfold bs bs;rfl
 |n+1=>by
  rw[zP];have e1:bs (fun k=>ch (n+1) (k+1)*a ^ (k+1)) (n+1)=bs (fun k=>a*(ch n k*a ^ k)+ch n (k+1)*a ^ (k+1)) (n+1):=aho fun k _=>by
   show (ch n k+ch n (k+1))*a ^ (k+1)=_;rw[zy5,zyf,<-Nat.mul_assoc,zxj (ch n k*a ^ k) a]
  rw[e1,asO,ar6,ap8 a n];have e2:=zP (fun k=>ch n k*a ^ k) (n+1)
  have e3:bs (fun k=>ch n k*a ^ k) (n+1+1)=(a+1) ^ n:=by
   show bs (fun k=>ch n k*a ^ k) (n+1)+ch n (n+1)*a ^ (n+1)=_
   rw[ap8 a n,af7 (Nat.lt_succ_self n),zw3,zvi]
  rw[e3]at e2;have e4:ch (n+1) 0*a ^ 0=ch n 0*a ^ 0:=by rw[yC,yC]
  rw[e4,zyf,Nat.mul_add,Nat.mul_one,zxj ((a+1) ^ n) a];have e2':(a+1) ^ n=ch n 0*a ^ 0+bs (fun k=>ch n (k+1)*a ^ (k+1)) (n+1):=e2
  omega
section
variable{p:Nat}(hp:∀d,d ∣ p->d=1\/d=p)(h2:2<=p)
include hp h2
theorem cop{a:Nat}(ha:¬p ∣ a):Nat.Coprime p a:=by
 rcases hp (Nat.gcd p a) (Nat.gcd_dvd_left p a)with h|h
 ·exact h
 ·exact absurd (h▸Nat.gcd_dvd_right p a) ha
theorem p_ch{k:Nat}(h1:1<=k)(hk:k < p):p ∣ ch p k:=by
 obtain⟨n,rfl⟩:∃n,p=n+1:=⟨p - 1,zE⟩
 obtain⟨j,rfl⟩:∃j,k=j+1:=⟨k - 1,zE⟩
 have h:=agd n j;have hd:(n+1) ∣ (j+1)*ch (n+1) (j+1):=⟨ch n j,h⟩;exact(cop hp h2 (fun h=>absurd (Nat.le_of_dvd zE h) zE)).dvd_of_dvd_mul_left hd
theorem p_bs{a:Nat}:∀m,m < p->p ∣ bs (fun k=>ch p (k+1)*a ^ (k+1)) m
 |0,_=>⟨0,rfl⟩
 |m+1,h=>by
  unfold bs;exact Nat.dvd_add (p_bs m zE) (Nat.dvd_trans (p_ch hp h2 zE h) ⟨_,rfl⟩)
theorem frob(a:Nat):(a+1) ^ p % p=(a ^ p+1) % p:=by
 rw[<-ap8 a p,zP,yC];obtain⟨n,hn⟩:∃n,p=n+1:=⟨p - 1,zE⟩
 have e:bs (fun k=>ch p (k+1)*a ^ (k+1)) p=bs (fun k=>ch p (k+1)*a ^ (k+1)) n+a ^ p:=by
  have e2:=agj (fun k=>ch p (k+1)*a ^ (k+1)) n
  rw[<-hn]at e2;rw[e2,alv,Nat.one_mul]
 rw[e];obtain⟨q,hq⟩:=p_bs hp h2 (a:=a) n zE
 rw[hq,show 1*a ^ 0+(p*q+a ^ p)=(a ^ p+1)+p*q by rw[Nat.pow_zero];omega,Nat.add_mul_mod_self_left]
theorem ahf:∀a:Nat,a ^ p % p=a % p
 |0=>by rw[Nat.zero_pow zE]
 |a+1=>by rw[frob hp h2,Nat.add_mod,ahf a,<-Nat.add_mod]
theorem axH{a:Nat}(ha:¬p ∣ a):a ^ (p - 1) % p=1:=by
 have h:=ahf hp h2 a;have e:a ^ p=a ^ (p - 1)*a:=by rw[<-zyf];congr 1;omega
 have hpos:1<=a ^ (p - 1):=Nat.pow_pos (Nat.pos_of_ne_zero fun h0=>ha (h0▸⟨0,rfl⟩))
 have hd:p ∣ (a ^ (p - 1) - 1)*a:=by
  have:p ∣ a ^ p - a:=Nat.dvd_of_mod_eq_zero (Nat.sub_mod_eq_zero_of_mod_eq h);rw[Nat.sub_mul,Nat.one_mul,<-e];exact this
 have hq:=(cop hp h2 ha).dvd_of_dvd_mul_right hd;obtain⟨q,hq⟩:=hq;have:a ^ (p - 1)=1+p*q:=zE
 rw[this,Nat.add_mul_mod_self_left,zw4 zE]
end
end FM
