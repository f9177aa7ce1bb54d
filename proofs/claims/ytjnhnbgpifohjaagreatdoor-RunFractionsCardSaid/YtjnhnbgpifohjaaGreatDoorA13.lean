import Derived.Test.YtjnhnbgpifohjaaGreatDoorA23
import Derived.Test.YtjnhnbgpifohjaaGreatDoorA28
import Derived.Lib.Join
import Derived.Test.YtjnhnbgpifohjaaGreatDoorA5
set_option linter.unusedVariables false
set_option linter.unusedSimpArgs false
open Go.Proofs.Tryz
namespace Go.Proofs.YtjnhnbgpifohjaaGreatDoor
open Go.RowKit SX
section
attribute [local irreducible] IntKind.wrap Go1 Reg WP aR aU bR bO aN aF ak aj aY Sat
section
def srt(c:UInt8):Nat:=if c.toNat=32∨c.toNat=9∨c.toNat=10∨c.toNat=13 then 1 else if 48≤c.toNat∧c.toNat≤57 then 2 else if 97≤c.toNat∧c.toNat≤122 then 3 else if c.toNat=95 then 4 else
 if 0≤Lib.indexByte [43,45,42,47,94,40,41,91,93,123,125,44,59,61,60,33,46] c then 5 else 0
abbrev ixL(l:List UInt8)(c:UInt8):Int:=Lib.indexByte l c
theorem zw(b:UInt8)(l:List UInt8)(c:UInt8):ixL (b::l) c=if b=c then 0 else if ixL l c= -1 then -1 else ixL l c+1:=by
 have e:ixL (b::l) c=if b==c then 0 else if ixL l c== -1 then -1 else ixL l c+1:=rfl
 rw[e];simp only[beq_iff_eq]
theorem apD(l:List UInt8)(c:UInt8):0≤ixL l c↔c∈l:=by
 induction l with
 |nil=>simp[ixL,Lib.indexByte]
 |cons b l ih=>
  have hg: -1≤ixL l c:=Lib.indexByte_ge l c;rw[zw,List.mem_cons,←ih];generalize ixL l c=z at*;by_cases h:b=c
  ·subst h;simp
  ·have hc:¬c=b:=fun e=>h e.symm
   simp only[hc,false_or,h,if_false]
   split <;> omega
theorem aoB{f:FuncId}{args:List Value}{r:Value}(he:∃fn,prog.funcs[f]? =some fn∧(fn.name== "runtime.NumGoroutine")=false∧fn.body.isNone=false)(h:∀w,Calls prog f args.toArray w fun e w'=>e= .returned r∧w'=w):ah prog f (args.map AV.v) (.v r):=
 ah.iB he rfl fun E S w vs hl hv=>by
  have hvs:vs=args:=by
   clear h
   induction args generalizing vs with
   |nil=>cases vs with|nil=>rfl|cons _ _=>exact hv.elim
   |cons a l ih=>cases vs with|nil=>exact hv.elim|cons b m=>rw[ih m hv.2,show b=a from hv.1]
  subst hvs;exact(h w).mono fun e w' ⟨h1,h2⟩=>⟨r,h1,rfl,by subst h2;exact Off.refl _ _⟩
instance aaX(l:List UInt8)(c:UInt8):Con prog 381 [.v (str l),.v (.int .u8 (c.toNat:Int))] True (.v (.int .i64 (ixL l c))):=⟨fun _=>
 aoB (args:=[str l,.int .u8 (c.toNat:Int)]) ⟨_,func381,rfl,rfl⟩ fun w=>(strings_IndexByte ⟨⟨l⟩⟩ (c.toNat:Int) w).mono fun e w' ⟨h1,h2⟩=>⟨by rw[h1];simp[ixL],h2⟩⟩
instance aom(l:List UInt8):Con prog 381 [.v (str l),.v (.int .u8 10)] True (.v (.int .i64 (ixL l 10))):=aaX l 10
instance con_sort(c:UInt8):Con prog 380 [.v (.int .u8 (c.toNat:Int))] True (.v (.int .i64 (srt c:Int))):=⟨fun _=>by
 refine ah.fnF func380 results380 ntmps380 rfl rfl rfl (by simp[AV.ids,AV0.ids,Atom.ids]) rfl (fun w0 T B E0 hB=>?_)
 repeat'(first|refine SX.goM ?_|refine SX.W.ite (fun h=>?_) (fun h=>?_)|refine SX.W.iteN (fun h=>?_) (fun h=>?_)|refine SX.W.eP (fun h=>?_) (fun h=>?_)|refine SX.R.ite (fun h=>?_) (fun h=>?_)|refine SX.R.iteN (fun h=>?_) (fun h=>?_)|refine SX.R.eP (fun h=>?_) (fun h=>?_))
 all_goals(refine gM ?_;unfold srt;(repeat' split) <;> omega)⟩
def wrd(c:UInt8):Bool:=decide (srt c=2)||decide (srt c=3)||decide (srt c=4)
instance atG(c:UInt8):Con prog 448 [.v (.int .u8 (c.toNat:Int))] True (.v (.bool (wrd c))):=⟨fun _=>by
 refine ah.fnF func448 results448 ntmps448 rfl rfl rfl (by simp[AV.ids,AV0.ids,Atom.ids]) rfl (fun w0 T B E0 hB=>?_)
 repeat'(first|refine SX.goM ?_|refine SX.W.ite (fun h=>?_) (fun h=>?_)|refine SX.W.iteN (fun h=>?_) (fun h=>?_)|refine SX.W.eP (fun h=>?_) (fun h=>?_)|refine SX.R.ite (fun h=>?_) (fun h=>?_)|refine SX.R.iteN (fun h=>?_) (fun h=>?_)|refine SX.R.eP (fun h=>?_) (fun h=>?_))
 all_goals(refine aP ?_;rw[Bool.eq_iff_iff];simp[wrd];omega)⟩
def run(l:List UInt8):Nat:=(l.takeWhile wrd).length
theorem aof{p:UInt8→Bool}:∀(l:List UInt8) (k:Nat),k≤(l.takeWhile p).length→k < l.length→p (byt l k)=decide (k < (l.takeWhile p).length)
 |[],k,_,h=>by simp at h
 |c::l,0,_,_=>by
  cases h:p c <;> simp[byt,List.takeWhile_cons,h]
 |c::l,k+1,h1,h2=>by
  cases h:p c
  ·simp[List.takeWhile_cons,h]at h1
  ·simp[List.takeWhile_cons,h]at h1 ⊢
   have:=aof l k h1 (by simpa using h2)
   simpa[byt]using this
theorem am2(l:List UInt8):run l≤l.length:=(List.takeWhile_prefix _).length_le
instance con_run(l:List UInt8):Con prog 382 [.v (str l)] (l.length≤9223372036854775807) (.v (.int .i64 (run l:Int))):=⟨fun hl=>by
 refine ah.fnF func382 results382 ntmps382 rfl rfl rfl (by simp[AV.ids,AV0.ids,Atom.ids]) rfl (fun w0 T B E0 hB=>?_)
 refine SX.goM ?_;refine W.loop (fun k=>k≤run l) (fun k=>[(0,.v (str l)),(3,.v (.int .i64 (k:Int)))]) (fun _=>[]) (fun k=>l.length - k) 0 (Nat.zero_le _) (fun k hk=>?_)
 have h1:=am2 l;have h2:=aof (p:=wrd) l k hk
 repeat'(first|refine SX.goM ?_|refine SX.W.ite (fun h=>?_) (fun h=>?_)|refine SX.W.iteN (fun h=>?_) (fun h=>?_)|refine SX.W.eP (fun h=>?_) (fun h=>?_)|refine SX.R.ite (fun h=>?_) (fun h=>?_)|refine SX.R.iteN (fun h=>?_) (fun h=>?_)|refine SX.R.eP (fun h=>?_) (fun h=>?_))
 ·exact W.next (k+1) (by rw[‹wrd _=true›]at h2;have:=of_decide_eq_true (h2 (by omega)).symm;unfold run;omega) (by omega)
 ·refine gM ?_;rw[‹wrd _=false›]at h2;have:=of_decide_eq_false (h2 (by omega)).symm;unfold run at*;omega
 ·refine gM ?_;omega⟩
instance con_two(l:List UInt8):Con prog 385 [.v (str l)] True (.v (.bool (decide (l=[61,61]∨l=[33,61]∨l=[60,61]∨l=[46,46])))):=⟨fun hl=>by
 refine ah.fnF func385 results385 ntmps385 rfl rfl rfl (by simp[AV.ids,AV0.ids,Atom.ids]) rfl (fun w0 T B E0 hB=>?_)
 repeat'(first|refine SX.goM ?_|refine SX.W.ite (fun h=>?_) (fun h=>?_)|refine SX.W.iteN (fun h=>?_) (fun h=>?_)|refine SX.W.eP (fun h=>?_) (fun h=>?_)|refine SX.R.ite (fun h=>?_) (fun h=>?_)|refine SX.R.iteN (fun h=>?_) (fun h=>?_)|refine SX.R.eP (fun h=>?_) (fun h=>?_))
 all_goals(refine aP ?_;simp[*])⟩
def dgL(l:List UInt8):Bool:=l.all fun c=>decide (srt c=2)
def num(l:List UInt8):Bool:=decide (1≤l.length∧l.length≤2000∧(l.length=1∨(byt l 0).toNat≠48))&&dgL l
theorem amm(l:List UInt8)(k:Nat)(h:k < l.length):dgL (l.drop k)=(decide (srt (byt l k)=2)&&dgL (l.drop (k+1))):=by
 rw[List.drop_eq_getElem_cons h];have:byt l k=l[k]:=by simp[byt,h]
 rw[this];rfl
instance arf(l:List UInt8):Con prog 383 [.v (str l)] (l.length≤9223372036854775807) (.v (.bool (num l))):=⟨fun hl=>by
 refine ah.fnF func383 results383 ntmps383 rfl rfl rfl (by simp[AV.ids,AV0.ids,Atom.ids]) rfl (fun w0 T B E0 hB=>?_)
 repeat'(first|refine SX.goM ?_|refine SX.W.ite (fun h=>?_) (fun h=>?_)|refine SX.W.iteN (fun h=>?_) (fun h=>?_)|refine SX.W.eP (fun h=>?_) (fun h=>?_)|refine SX.R.ite (fun h=>?_) (fun h=>?_)|refine SX.R.iteN (fun h=>?_) (fun h=>?_)|refine SX.R.eP (fun h=>?_) (fun h=>?_))
 all_goals(first|(refine aP ?_;rw[eq_comm];unfold num;rw[Bool.and_eq_false_iff];refine .inl (decide_eq_false fun hn=>?_);omega)|skip)
 all_goals
  have hb:decide (1≤l.length∧l.length≤2000∧(l.length=1∨(byt l 0).toNat≠48))=true:=decide_eq_true (by omega)
  refine W.loop (fun k=>k≤l.length∧num l=dgL (l.drop k)) (fun k=>[(0,.v (str l)),(23,.v (.int .i64 (l.length:Int))),(24,.v (.int .i64 (k:Int)))]) (fun _=>[]) (fun k=>l.length - k) 0 ⟨Nat.zero_le _,by unfold num;rw[hb];rfl⟩ (fun k ⟨hk,hn⟩=>?_)
  have hs:=amm l k
  repeat'(first|refine SX.goM ?_|refine SX.W.ite (fun h=>?_) (fun h=>?_)|refine SX.W.iteN (fun h=>?_) (fun h=>?_)|refine SX.W.eP (fun h=>?_) (fun h=>?_)|refine SX.R.ite (fun h=>?_) (fun h=>?_)|refine SX.R.iteN (fun h=>?_) (fun h=>?_)|refine SX.R.eP (fun h=>?_) (fun h=>?_))
  ·refine aP ?_;rw[hn,hs (by omega),decide_eq_false (by omega)];rfl
  ·exact W.next (k+1) ⟨by omega,by rw[hn,hs (by omega),decide_eq_true (by omega)];rfl⟩ (by omega)
  ·refine aP ?_;rw[hn,List.drop_eq_nil_of_le (by omega)];rfl⟩
def nam(l:List UInt8):Bool:=decide (1≤l.length∧l.length≤30∧srt (byt l 0)=3∧run l=l.length)
instance con_name(l:List UInt8):Con prog 384 [.v (str l)] (l.length≤9223372036854775807) (.v (.bool (nam l))):=⟨fun hl=>by
 refine ah.fnF func384 results384 ntmps384 rfl rfl rfl (by simp[AV.ids,AV0.ids,Atom.ids]) rfl (fun w0 T B E0 hB=>?_)
 repeat'(first|refine SX.goM ?_|refine SX.W.ite (fun h=>?_) (fun h=>?_)|refine SX.W.iteN (fun h=>?_) (fun h=>?_)|refine SX.W.eP (fun h=>?_) (fun h=>?_)|refine SX.R.ite (fun h=>?_) (fun h=>?_)|refine SX.R.iteN (fun h=>?_) (fun h=>?_)|refine SX.R.eP (fun h=>?_) (fun h=>?_))
 all_goals(refine aP ?_;unfold nam;first|(rw[eq_comm];exact decide_eq_true (by omega))|(rw[eq_comm];exact decide_eq_false (by omega))|(rw[decide_eq_decide];omega))⟩
def sg1(l:List UInt8):Bool:=decide (l.length=1∧byt l 0∈[43,45,42,47,94,40,41,91,93,123,125,44,59,61,60])
theorem aoS{l:List UInt8}(h:l.length=1):∃c,l=[c]:=by
 match l,h with
 |[c],_=>exact⟨c,rfl⟩
instance apa(l:List UInt8)(c:UInt8):Con prog 79 [.v (str l),.v (str [c])] True (.v (.bool (decide (0≤ixL l c)))):=⟨fun _=>
 aoB (args:=[str l,str [c]]) ⟨_,func79,rfl,rfl⟩ fun w=>(strings_Contains_one ⟨⟨l⟩⟩ c w).mono fun e w' ⟨h1,h2⟩=>⟨h1,h2⟩⟩
instance con_one(l:List UInt8):Con prog 386 [.v (str l)] True (.v (.bool (sg1 l))):=⟨fun hl=>by
 by_cases h1:l.length=1
 ·obtain⟨c,rfl⟩:=aoS h1;refine ah.fnF func386 results386 ntmps386 rfl rfl rfl (by simp[AV.ids,AV0.ids,Atom.ids]) rfl (fun w0 T B E0 hB=>?_)
  repeat'(first|refine SX.goM ?_|refine SX.W.ite (fun h=>?_) (fun h=>?_)|refine SX.W.iteN (fun h=>?_) (fun h=>?_)|refine SX.W.eP (fun h=>?_) (fun h=>?_)|refine SX.R.ite (fun h=>?_) (fun h=>?_)|refine SX.R.iteN (fun h=>?_) (fun h=>?_)|refine SX.R.eP (fun h=>?_) (fun h=>?_))
  all_goals(refine aP ?_;unfold sg1;rw[decide_eq_decide,apD];simp[byt])
 ·refine ah.fnF func386 results386 ntmps386 rfl rfl rfl (by simp[AV.ids,AV0.ids,Atom.ids]) rfl (fun w0 T B E0 hB=>?_)
  repeat'(first|refine SX.goM ?_|refine SX.W.ite (fun h=>?_) (fun h=>?_)|refine SX.W.iteN (fun h=>?_) (fun h=>?_)|refine SX.W.eP (fun h=>?_) (fun h=>?_)|refine SX.R.ite (fun h=>?_) (fun h=>?_)|refine SX.R.iteN (fun h=>?_) (fun h=>?_)|refine SX.R.eP (fun h=>?_) (fun h=>?_))
  all_goals(refine aP ?_;rw[eq_comm];exact decide_eq_false (by omega))⟩
attribute [irreducible] sg1 nam num wrd srt
end
section
structure Tok where
 kind:Int
 text:List UInt8
 pos:Int
def aaK(t:Tok):List CA:=[.val (.int .i64 t.kind),.val (str t.text),.val (.int .i64 t.pos)]
abbrev tokA(t:Tok):List Atom:=[.c (.val (.int .i64 t.kind)),.c (.val (str t.text)),.c (.val (.int .i64 t.pos))]
instance:dH aaK 3:=⟨fun _=>rfl⟩
def fst(l:List UInt8):Tok:=
 if num (l.take (run l))then⟨1,l.take (run l),0⟩else if nam (l.take (run l))then⟨2,l.take (run l),0⟩else
 if 2≤l.length∧(l.take 2=[61,61]∨l.take 2=[33,61]∨l.take 2=[60,61]∨l.take 2=[46,46])then⟨3,l.take 2,0⟩else if sg1 (l.take 1)then⟨3,l.take 1,0⟩else⟨0,[],0⟩
instance atB(l:List UInt8):Con prog 290 [.v (str l)] (l.length≤1000000000∧1≤l.length) (.agg (tokA (fst l))):=⟨fun⟨hl,h0⟩=>by
 have h1:=am2 l;have h2:(l.take (run l)).length≤1000000000:=by rw[List.length_take];omega
 refine ah.fnF func290 results290 ntmps290 rfl rfl rfl (by simp[AV.ids,AV0.ids,Atom.ids]) rfl (fun w0 T B E0 hB=>?_)
 repeat'(first|refine SX.goM ?_|refine SX.W.ite (fun h=>?_) (fun h=>?_)|refine SX.W.iteN (fun h=>?_) (fun h=>?_)|refine SX.W.eP (fun h=>?_) (fun h=>?_)|refine SX.R.ite (fun h=>?_) (fun h=>?_)|refine SX.R.iteN (fun h=>?_) (fun h=>?_)|refine SX.R.eP (fun h=>?_) (fun h=>?_))
 all_goals(refine kR (ak.aX rfl rfl rfl) ?_)
 all_goals(unfold fst;first|rw[if_pos (by assumption)]|(rw[if_neg (by simp[*]),if_pos (by assumption)])|(rw[if_neg (by simp[*]),if_neg (by simp[*]),if_pos ⟨by omega,by assumption⟩])|(rw[if_neg (by simp[*]),if_neg (by simp[*]),if_neg (by omega)];first|rw[if_pos (by assumption)]|(rw[if_neg (by simp[*])];rfl))|(rw[if_neg (by simp[*]),if_neg (by simp[*]),if_neg (fun h=>by simp_all)];first|rw[if_pos (by assumption)]|(rw[if_neg (by simp[*])];rfl)))⟩
def gp:Bool→List UInt8→Nat
 |_,[]=>0
 |false,c::l=>if srt c=1 then 1+gp false l else if c.toNat=35 then 1+gp true l else 0
 |true,c::l=>if c.toNat=10 then 1+gp false l else 1+gp true l
theorem arD:∀l:List UInt8,gp true l=if ixL l 10 < 0 then l.length else(ixL l 10).toNat+1+gp false (l.drop ((ixL l 10).toNat+1))
 |[]=>by simp[gp,ixL,Lib.indexByte]
 |c::l=>by
  have ih:=arD l;have hg: -1≤ixL l 10:=Lib.indexByte_ge l 10;rw[gp,zw];by_cases h:c=10
  ·subst h;simp
  ·have h':¬c.toNat=10:=fun e=>h (UInt8.toNat_inj.1 e)
   rw[if_neg h',if_neg h,ih];by_cases h2:ixL l 10= -1
   ·simp[h2];omega
   ·rw[if_neg h2,if_neg (by omega),if_neg (by omega),show (ixL l 10+1).toNat=(ixL l 10).toNat+1 by omega,List.drop_succ_cons];omega
theorem ase(l:List UInt8)(c:UInt8):ixL l c < l.length:=by
 induction l with
 |nil=>simp[ixL,Lib.indexByte]
 |cons b l ih=>
  rw[zw,List.length_cons]
  repeat' split
  all_goals omega
theorem acd:∀(b:Bool) (l:List UInt8),gp b l≤l.length
 |_,[]=>by simp[gp]
 |false,c::l=>by
  have h1:=acd false l;have h2:=acd true l;unfold gp;repeat' split
  all_goals(simp only[List.length_cons];omega)
 |true,c::l=>by
  have h1:=acd false l;have h2:=acd true l;unfold gp;repeat' split
  all_goals(simp only[List.length_cons];omega)
instance con_gap(l:List UInt8):Con prog 289 [.v (str l)] (l.length≤1000000000) (.v (.int .i64 (gp false l:Int))):=⟨fun hl=>by
 refine ah.fnF func289 results289 ntmps289 rfl rfl rfl (by simp[AV.ids,AV0.ids,Atom.ids]) rfl (fun w0 T B E0 hB=>?_)
 refine SX.goM ?_;refine W.loop (fun k=>k≤l.length∧gp false l=k+gp false (l.drop k)) (fun k=>[(0,.v (str l)),(3,.v (.int .i64 (k:Int)))]) (fun _=>[]) (fun k=>l.length - k) 0 ⟨Nat.zero_le _,by simp⟩ (fun k ⟨hk,hn⟩=>?_)
 have hx1:=ase (l.drop k) 10;have hx2: -1≤ixL (l.drop k) 10:=Lib.indexByte_ge _ _;have hx3:(l.drop k).length=l.length - k:=List.length_drop;have hc:k < l.length→gp false (l.drop k)=if srt (byt l k)=1 then 1+gp false (l.drop (k+1))else if(byt l k).toNat=35 then gp true (l.drop k)else 0:=fun h=>by
  have hb:byt l k=l[k]:=by simp[byt,h]
  rw[List.drop_eq_getElem_cons h,gp,gp,hb];by_cases h35:l[k].toNat=35
  ·simp[h35]
  ·simp[h35]
 have hi:=arD (l.drop k);rw[List.drop_drop]at hi
 repeat'(first|refine SX.goM ?_|refine SX.W.ite (fun h=>?_) (fun h=>?_)|refine SX.W.iteN (fun h=>?_) (fun h=>?_)|refine SX.W.eP (fun h=>?_) (fun h=>?_)|refine SX.R.ite (fun h=>?_) (fun h=>?_)|refine SX.R.iteN (fun h=>?_) (fun h=>?_)|refine SX.R.eP (fun h=>?_) (fun h=>?_))
 ·rw[if_pos (by omega)]at hc
  exact W.next (k+1) ⟨by omega,by rw[hn,hc (by omega)];omega⟩ (by omega)
 ·rw[if_neg (by omega),if_pos (by omega),hi,if_pos (by omega)]at hc
  refine gM ?_;rw[hn,hc (by omega)];omega
 ·rw[if_neg (by omega),if_pos (by omega),hi,if_neg (by omega)]at hc
  exact W.next (k+((ixL (l.drop k) 10).toNat+1)) ⟨by omega,by rw[hn,hc (by omega)];omega⟩ (by omega)
 ·rw[if_neg (by omega),if_neg (by omega)]at hc
  refine gM ?_;rw[hn,hc (by omega)];omega
 ·rw[List.drop_eq_nil_of_le (by omega)]at hn
  refine gM ?_;rw[hn,gp];omega⟩
attribute [irreducible] fst gp
theorem ajh(l:List UInt8):(fst l).text.length≤l.length:=by
 unfold fst
 repeat' split
 all_goals simp[List.length_take];try omega
def p9(l:List UInt8)(k:Nat):List Tok×Option Nat:=
 if h:l.length≤k then([],none)else
 if h0:(fst (l.drop k)).kind=0∨(fst (l.drop k)).text.length=0 then([],some k)else
 let r:=p9 l (k+(fst (l.drop k)).text.length+gp false (l.drop (k+(fst (l.drop k)).text.length)))
 (⟨(fst (l.drop k)).kind,(fst (l.drop k)).text,k⟩::r.1,r.2)
termination_by l.length - k
decreasing_by omega
def acW(l:List UInt8):List Tok×Nat×Nat:=
 if 20000 < l.length then([],0,7)else
 match (p9 l (gp false l)).2 with
 |some k=>([],k,4)
 |none=>((p9 l (gp false l)).1,0,0)
abbrev tupL(r:List Tok×Nat×Nat):AV:= .tup [.one (.c (.sat (aA 3 aaK r.1))),.one (.c (.val (.int .i64 (r.2.1:Int)))),.one (.c (.val (.int .i64 (r.2.2:Int))))]
theorem apg(l:List UInt8)(h:1≤l.length)(hk:(fst l).kind≠0):(fst l).text.length≠0:=by
 have hn:num []=false:=by unfold num;rfl
 have hm:nam []=false:=by unfold nam;rfl
 intro e;unfold fst at*
 split at hk
 ·rename_i h1;rw[if_pos h1]at e;rw[List.eq_nil_of_length_eq_zero (show (l.take (run l)).length=0 from e),hn]at h1;cases h1
 ·rename_i h1;rw[if_neg h1]at e
  split at hk
  ·rename_i h2;rw[if_pos h2]at e;rw[List.eq_nil_of_length_eq_zero (show (l.take (run l)).length=0 from e),hm]at h2;cases h2
  ·rename_i h2;rw[if_neg h2]at e
   split at hk
   ·rename_i h3;rw[if_pos h3]at e;have e':(l.take 2).length=0:=e;rw[List.length_take]at e';omega
   ·rename_i h3;rw[if_neg h3]at e
    split at hk
    ·rename_i h4;rw[if_pos h4]at e;have e':(l.take 1).length=0:=e;rw[List.length_take]at e';omega
    ·exact absurd rfl hk
instance apt(l:List UInt8):Con prog 184 [.v (str l)] (l.length≤1000000000) (tupL (acW l)):=⟨fun hl=>by
 refine ah.fnF func184 results184 ntmps184 rfl rfl rfl (by simp[AV.ids,AV0.ids,Atom.ids]) rfl (fun w0 T B E0 hB=>?_)
 have hg:=acd false l
 repeat'(first|refine SX.goM ?_|refine SX.W.ite (fun h=>?_) (fun h=>?_)|refine SX.W.iteN (fun h=>?_) (fun h=>?_)|refine SX.W.eP (fun h=>?_) (fun h=>?_)|refine SX.R.ite (fun h=>?_) (fun h=>?_)|refine SX.R.iteN (fun h=>?_) (fun h=>?_)|refine SX.R.eP (fun h=>?_) (fun h=>?_))
 ·refine vg (ak.tmp rfl) (ak.tmp rfl) (ak.tmp rfl) ?_ ?_ ?_;all_goals(unfold acW;rw[if_pos (by omega)])
  ·exact imp_nil
  all_goals exact AV0.imp.refl _
 ·refine W.mH (fun(k:Nat) (ts:List Tok)=>k≤l.length∧ts.length≤k∧p9 l (gp false l)=(ts++(p9 l k).1,(p9 l k).2))
   (fun k ts=>[(0,.v (str l)),(5,.own 100),(6,.v (.int .i64 (k:Int)))]) (fun k ts=>[(100,.row 334 3 ts.length (ts.flatMap aaK))]) (fun k _=>l.length - k) (gp false l) [] ⟨hg,Nat.zero_le _,by simp⟩ (fun k ts ⟨hk,hts,hx⟩=>?_)
  have hdl:(l.drop k).length=l.length - k:=List.length_drop;have h2:=apg (l.drop k);have h3:=ajh (l.drop k);have h4:=acd false (l.drop (k+(fst (l.drop k)).text.length));have hdl2:(l.drop (k+(fst (l.drop k)).text.length)).length=l.length - (k+(fst (l.drop k)).text.length):=List.length_drop;have hw:=p9.eq_1 l k
  repeat'(first|refine SX.goM ?_|refine SX.W.ite (fun h=>?_) (fun h=>?_)|refine SX.W.iteN (fun h=>?_) (fun h=>?_)|refine SX.W.eP (fun h=>?_) (fun h=>?_)|refine SX.R.ite (fun h=>?_) (fun h=>?_)|refine SX.R.iteN (fun h=>?_) (fun h=>?_)|refine SX.R.eP (fun h=>?_) (fun h=>?_))
  ·rw[dif_neg (by omega),dif_pos (.inl (by assumption))]at hw
   refine vg (ak.tmp rfl) (ak.tmp rfl) (ak.tmp rfl) ?_ ?_ ?_;all_goals(unfold acW;rw[if_neg (by omega),hx,hw])
   ·exact imp_nil
   all_goals exact AV0.imp.refl _
  ·rw[dif_neg (by omega),dif_neg (by omega)]at hw
   exact W.lS (k+(fst (l.drop k)).text.length+gp false (l.drop (k+(fst (l.drop k)).text.length))) (ts++[⟨(fst (l.drop k)).kind,(fst (l.drop k)).text,k⟩]) ⟨by omega,by simp;omega,by rw[hx,hw];simp⟩ (by omega)
  ·rw[dif_pos (by omega)]at hw
   refine aN.frz 100 ?_;refine vg (ak.tmp rfl) (ak.tmp rfl) (ak.tmp rfl) ?_ ?_ ?_;all_goals(unfold acW;rw[if_neg (by omega),hx,hw])
   ·simp only[List.append_nil];exact AV0.imp.refl _
   all_goals exact AV0.imp.refl _⟩
def gY(t:Tok):Bool:=if t.kind=1 then num t.text else if t.kind=2 then nam t.text else if t.kind=3 then sg1 t.text||decide (t.text=[61,61]∨t.text=[33,61]∨t.text=[60,61]∨t.text=[46,46])else false
instance asC(t:Tok):Con prog 291 [.agg (tokA t)] (t.text.length≤9223372036854775807) (.v (.bool (gY t))):=⟨fun hl=>by
 refine ah.fnF func291 results291 ntmps291 rfl rfl rfl (by simp[AV.ids,AV0.ids,Atom.ids]) rfl (fun w0 T B E0 hB=>?_)
 repeat'(first|refine SX.goM ?_|refine SX.W.ite (fun h=>?_) (fun h=>?_)|refine SX.W.iteN (fun h=>?_) (fun h=>?_)|refine SX.W.eP (fun h=>?_) (fun h=>?_)|refine SX.R.ite (fun h=>?_) (fun h=>?_)|refine SX.R.iteN (fun h=>?_) (fun h=>?_)|refine SX.R.eP (fun h=>?_) (fun h=>?_))
 all_goals(refine aP ?_;simp[gY, *])⟩
def joinR(ts:List Tok):List UInt8×Nat:=
 if ts.all gY then(if 20001 < min 40000 (ts.foldl (fun n t=>min (n+t.text.length+1) 40000) 0)then([],7)else(Lib.join (ts.map (·.text)) [32],0))else([],1)
attribute [irreducible] acW joinR gY
end
section
theorem srt2(c:UInt8):srt c=2↔48≤c.toNat∧c.toNat≤57:=by
 unfold srt;(repeat' split) <;> omega
theorem srt3(c:UInt8):srt c=3↔97≤c.toNat∧c.toNat≤122:=by
 unfold srt;(repeat' split) <;> omega
theorem apm(l:List UInt8):num l=(decide (1≤l.length∧l.length≤2000∧(l.length=1∨(byt l 0).toNat≠48))&&l.all fun c=>decide (srt c=2)):=by unfold num;rfl
theorem aiT:∀l:List UInt8,run l=l.length↔l.all wrd=true
 |[]=>by simp[run]
 |c::l=>by
  have ih:=aiT l;unfold run at*;cases h:wrd c
  ·simp[List.takeWhile_cons,h]
  ·simp[List.takeWhile_cons,h,ih]
theorem aqf(l:List UInt8):nam l=(decide (1≤l.length∧l.length≤30∧srt (byt l 0)=3)&&l.all wrd):=by
 have:=aiT l;unfold nam;rw[Bool.eq_iff_iff];simp[this];simp[←and_assoc]
def sgt(l:List UInt8):Bool:=sg1 l||decide (l=[61,61]∨l=[33,61]∨l=[60,61]∨l=[46,46])
theorem aiV(l:List UInt8):sg1 l=true↔∃c,l=[c]∧c∈[43,45,42,47,94,40,41,91,93,123,125,44,59,61,60]:=by
 unfold sg1;rw[decide_eq_true_iff];constructor
 ·rintro⟨h1,h2⟩;obtain⟨c,rfl⟩:=aoS h1;exact⟨c,rfl,by simpa[byt]using h2⟩
 ·rintro⟨c,rfl,h⟩;exact⟨rfl,by simpa[byt]using h⟩
theorem ajd(l:List UInt8):sgt l=true↔(∃c,l=[c]∧c∈[43,45,42,47,94,40,41,91,93,123,125,44,59,61,60])∨(l=[61,61]∨l=[33,61]∨l=[60,61]∨l=[46,46]):=by
 unfold sgt;rw[Bool.or_eq_true,aiV,decide_eq_true_iff]
theorem adU(t:Tok):gY t=if t.kind=1 then num t.text else if t.kind=2 then nam t.text else if t.kind=3 then sgt t.text else false:=by unfold gY sgt;rfl
attribute [irreducible] sgt
end
end
section
theorem aqS(l:List UInt8):(fst l).text=l.take (fst l).text.length:=by
 have key:∀n:Nat,l.take n=l.take (l.take n).length:=fun n=>by
  rw[List.length_take,List.take_eq_take_iff];omega
 unfold fst
 repeat' split
 all_goals first|exact key _|simp
theorem aq4(l:List UInt8)(h:(fst l).kind≠0)(p:Int):gY ⟨(fst l).kind,(fst l).text,p⟩=true:=by
 rw[adU];unfold fst at*
 repeat' split at h
 all_goals first|exact absurd rfl h|skip
 ·rename_i h1;rw[if_pos h1];exact h1
 ·rename_i h1 h2;rw[if_neg h1,if_pos h2];exact h2
 ·rename_i h1 h2 h3;rw[if_neg h1,if_neg h2,if_pos h3];show sgt _=true;rw[ajd];exact .inr h3.2
 ·rename_i h1 h2 h3 h4;rw[if_neg h1,if_neg h2,if_neg h3,if_pos h4];show sgt _=true;rw[ajd];exact .inl ((aiV _).1 h4)
theorem aby{l:List UInt8}(h:num l=true):l.all wrd=true∧∃c m,l=c::m∧srt c=2:=by
 rw[apm,Bool.and_eq_true,decide_eq_true_iff]at h;obtain⟨h1,h2⟩:=h;refine⟨?_,?_⟩
 ·rw[List.all_eq_true]at*;intro c hc;have:=h2 c hc;unfold wrd;rw[this];rfl
 ·match l,h1 with
  |c::m,_=>exact⟨c,m,rfl,by simpa using(List.all_eq_true.1 h2) c (by simp)⟩
theorem abX{l:List UInt8}(h:nam l=true):l.all wrd=true∧∃c m,l=c::m∧srt c=3:=by
 rw[aqf,Bool.and_eq_true,decide_eq_true_iff]at h;obtain⟨h1,h2⟩:=h;refine⟨h2,?_⟩
 match l,h1 with
 |c::m,h1=>exact⟨c,m,rfl,by simpa[byt]using h1.2.2⟩
def okP(l:List UInt8):Nat→List Tok→Prop
 |_,[]=>True
 |n,t::ts=>∃p:Nat,t.pos=p∧n≤p∧t.text≠[]∧p+t.text.length≤l.length∧(l.drop p).take t.text.length=t.text∧okP l (p+t.text.length) ts
theorem als(l:List UInt8){m n:Nat}(h:m≤n):∀ts,okP l n ts→okP l m ts
 |[],_=>trivial
 |t::ts,⟨p,h1,h2,h3⟩=>⟨p,h1,by omega,h3⟩
theorem aiq(l:List UInt8)(k:Nat):okP l k (p9 l k).1∧((p9 l k).1).all gY=true∧((p9 l k).1.map fun t=>t.text.length+1).sum≤2*(l.length - k):=by
 rw[p9.eq_1];have hlen:(l.drop k).length=l.length - k:=List.length_drop;have h3:=ajh (l.drop k)
 split
 ·exact⟨trivial,rfl,by simp⟩
 ·rename_i hk
  split
  ·exact⟨trivial,rfl,by simp⟩
  ·rename_i hf;have ih:=aiq l (k+(fst (l.drop k)).text.length+gp false (l.drop (k+(fst (l.drop k)).text.length)));refine⟨⟨k,rfl,Nat.le_refl _,fun e=>?_,?_,?_,als l (by show k+(fst (l.drop k)).text.length≤_;omega) _ ih.1⟩,?_,?_⟩
   ·have e':(fst (l.drop k)).text=[]:=e;rw[e']at hf;simp at hf
   ·show k+(fst (l.drop k)).text.length≤_;omega
   ·exact(aqS (l.drop k)).symm
   ·rw[List.all_cons,ih.2.1,aq4 _ (fun e=>hf (.inl e))];rfl
   ·rw[List.map_cons,List.sum_cons];show (fst (l.drop k)).text.length+1+_≤_;have:=ih.2.2;have h4:(fst (l.drop k)).text.length≠0:=fun e=>hf (.inr e)
    omega
termination_by l.length - k
decreasing_by omega
section
inductive Nd where
 |mk (op:Int) (text:List UInt8) (kids:List Nd)
def Nd.op:Nd→Int| .mk o _ _=>o
def Nd.text:Nd→List UInt8| .mk _ t _=>t
def Nd.kids:Nd→List Nd| .mk _ _ k=>k
mutual
def ndC:Nd→List CA
 | .mk o t ks=>[.val (.int .i64 o),.val (str t),.sat (aL 3 ks.length (ndL ks))]
def ndL:List Nd→List CA
 |[]=>[]
 |k::ks=>ndC k++ndL ks
end
theorem an9:∀ks:List Nd,ndL ks=ks.flatMap ndC
 |[]=>by rw[ndL];rfl
 |k::ks=>by rw[ndL,an9 ks,List.flatMap_cons]
theorem anV(o:Int)(t:List UInt8)(ks:List Nd):ndC (.mk o t ks)=[.val (.int .i64 o),.val (str t),.sat (aA 3 ndC ks)]:=by
 rw[ndC,an9]
theorem aH(n:Nd):ndC n=[.val (.int .i64 n.op),.val (str n.text),.sat (aA 3 ndC n.kids)]:=by
 cases n;exact anV _ _ _
instance:agv ndC:=⟨fun n=>by rw[aH];rfl⟩
abbrev ndA(n:Nd):List Atom:=[.c (.val (.int .i64 n.op)),.c (.val (str n.text)),.c (.sat (aA 3 ndC n.kids))]
abbrev PB(l:List Tok)(a o:Nat)(bad:Nat)(has:Bool)(tq:Nat):Ent:= .box 339 [.c (.sat (aA 3 aaK l)),.c (.val (.int .i64 (a:Int))),.c (.val (.int .i64 (o:Int))),.c (.val (.int .i64 (bad:Int))),.c (.val (.bool has)),.c (.val (.int .i64 (tq:Int)))]
def ownB(s:List UInt8):Bool:=decide (s=[105,102])||decide (s=[101,108,115,101])||decide (s=[102,111,114])
def isS(l:List Tok)(a:Nat)(s:List UInt8):Bool:=match l[a]? with
 |some t=>!decide (t.kind=1)&&decide (t.text=s)
 |none=>false
def mD(l:List Tok)(a:Nat):Bool:=match l[a]? with
 |some t=>decide (t.kind=2)&&!ownB t.text
 |none=>false
attribute [local irreducible] IntKind.wrap Go1 Reg WP aR aU bR bO aN aF ak aj aY Sat
theorem alK(s:List UInt8):ah prog 454 [.v (str s)] (.v (.bool (ownB s))):=by
 refine ah.fnF func454 results454 ntmps454 rfl rfl rfl (by simp[AV.ids,AV0.ids,Atom.ids]) rfl (fun w0 T B E0 hB=>?_)
 repeat'(first|refine SX.goM ?_|refine SX.W.ite (fun h=>?_) (fun h=>?_)|refine SX.W.iteN (fun h=>?_) (fun h=>?_)|refine SX.W.eP (fun h=>?_) (fun h=>?_)|refine SX.R.ite (fun h=>?_) (fun h=>?_)|refine SX.R.iteN (fun h=>?_) (fun h=>?_)|refine SX.R.eP (fun h=>?_) (fun h=>?_))
 all_goals(refine aP ?_;simp[ownB, *])
abbrev PG(l:List Tok)(a o:Nat):Ent:=PB l a o 0 false 0
abbrev PE(l:List Tok)(a o e p:Nat):Ent:=PB l a o e true p
abbrev nd0:Nd:= .mk 0 [] []
theorem oM{o z:Int}{s s':List UInt8}(h:z=o)(hs:s=s'):AV0.imp (.agg [.c (.val (.int .i64 z)),.c (.val (str s)),.c (.val (.slice none 0 0))]) (.agg (ndA (.mk o s' []))):=fun E S w v hv=>by
 obtain⟨vs,rfl,hall⟩:=hv;subst h hs
 match vs,hall with
 |[a,b,c],⟨h1,h2,h3,_⟩=>exact⟨[a,b,c],rfl,h1,h2,imp_nil (size:=3) E S w c h3,trivial⟩
theorem bD{o z:Int}{s s':List UInt8}{n:Nat}{cells:List CA}{ks:List Nd}(h:z=o)(hs:s=s')(hn:n=ks.length)(hc:cells=ks.flatMap ndC):AV0.imp (.agg [.c (.val (.int .i64 z)),.c (.val (str s)),.c (.sat (aL 3 n cells))]) (.agg (ndA (.mk o s' ks))):=by
 subst h hs hn hc;exact AV0.imp.refl _
theorem aM{P:Program}{C:Ctx}{st:St}{r:ResultVar}{x y:AV0}{l:List (Nat×Slot)}(h:ak P st r x)(e:x.imp y)(hh:abh st l):aN C P [r] ⟨.it y,l⟩ st:=gI (xs:=[y]) ⟨h.imp e,trivial⟩ hh
theorem ajg(l:List Tok)(a o e p:Nat):aj prog 481 [.ptr 29 0,.v (.int .i64 (e:Int)),.v (.int .i64 (p:Int))] [(29,PG l a o)] ⟨.agg (ndA nd0),[(29,.ent (PE l a o e p))]⟩:=by
 refine aj.fnF func481 results481 ntmps481 rfl rfl rfl rfl (fun w0 T B E0 hB=>?_)
 refine SX.goM ?_;exact aM (ak.aX rfl rfl rfl) (oM rfl rfl) ⟨rfl,trivial⟩
theorem aiW(l:List Tok)(a o e p e' p':Nat):aj prog 481 [.ptr 29 0,.v (.int .i64 (e':Int)),.v (.int .i64 (p':Int))] [(29,PE l a o e p)] ⟨.agg (ndA nd0),[(29,.ent (PE l a o e p))]⟩:=by
 refine aj.fnF func481 results481 ntmps481 rfl rfl rfl rfl (fun w0 T B E0 hB=>?_)
 refine SX.goM ?_;exact aM (ak.aX rfl rfl rfl) (oM rfl rfl) ⟨rfl,trivial⟩
theorem u6(l:List Tok)(a o:Nat):aj prog 453 [.ptr 29 0] [(29,PG l a o)] ⟨.agg (ndA nd0),[(29,.ent (PE l a o 4 a))]⟩:=by
 have c:=ajg l a o 4 a;refine aj.fnF func453 results453 ntmps453 rfl rfl rfl rfl (fun w0 T B E0 hB=>?_)
 refine SX.goM ?_;exact aM (ak.aX rfl rfl rfl) (AV0.imp.refl _) ⟨rfl,trivial⟩
theorem aee(l:List Tok)(a o e p:Nat):aj prog 453 [.ptr 29 0] [(29,PE l a o e p)] ⟨.agg (ndA nd0),[(29,.ent (PE l a o e p))]⟩:=by
 have c:=aiW l a o e p 4 a;refine aj.fnF func453 results453 ntmps453 rfl rfl rfl rfl (fun w0 T B E0 hB=>?_)
 refine SX.goM ?_;exact aM (ak.aX rfl rfl rfl) (AV0.imp.refl _) ⟨rfl,trivial⟩
theorem mU{P:Program}{C:Ctx}{st:St}{t:Tmp}{b b':Bool}{l:List (Nat×Slot)}(e:b=b')(hh:abh st l)(h:st.tm t=some (.v (.bool b)):=by rfl):aN C P [.tmp t] ⟨.v (.bool b'),l⟩ st:=gI (xs:=[.one (.c (.val (.bool b')))]) ⟨by rw[←e];exact ak.tmp h,trivial⟩ hh
theorem arF{P:Program}{C:Ctx}{st:St}{t:Tmp}{b b':List UInt8}{l:List (Nat×Slot)}(e:b=b')(hh:abh st l)(h:st.tm t=some (.v (str b)):=by rfl):aN C P [.tmp t] ⟨.v (str b'),l⟩ st:=gI (xs:=[.one (.c (.val (str b')))]) ⟨by rw[←e];exact ak.tmp h,trivial⟩ hh
theorem alO{P:Program}{C:Ctx}{st:St}{l:List (Nat×Slot)}(hh:abh st l):aN C P [] ⟨.tup [],l⟩ st:=gI (xs:=[]) trivial hh
theorem arA(l:List Tok)(a o:Nat)(s:List UInt8):aj prog 449 [.ptr 29 0,.v (str s)] [(29,PG l a o)] ⟨.v (.bool (isS l a s)),[(29,.ent (PG l a o))]⟩:=by
 by_cases h:a < l.length
 ·obtain⟨⟨tk,tt,tp⟩,ht⟩:∃t,l[a]? =some t:=⟨_,zq2 h⟩
  have hv:isS l a s=(!decide (tk=1)&&decide (tt=s)):=by unfold isS;rw[ht]
  rw[hv];by_cases hk:tk=1
  ·subst hk;have e1:decide ((1:Int)≠1)=false:=by decide
   refine aj.fnF func449 results449 ntmps449 rfl rfl rfl rfl (fun w0 T B E0 hB=>?_)
   refine SX.goM ?_;exact mU rfl ⟨rfl,trivial⟩
  ·refine aj.fnF func449 results449 ntmps449 rfl rfl rfl rfl (fun w0 T B E0 hB=>?_)
   refine SX.goM ?_
   (refine mU ?_ ⟨rfl,trivial⟩;simp[hk])
 ·have hv:isS l a s=false:=by unfold isS;rw[List.getElem?_eq_none (by omega)]
  rw[hv];refine aj.fnF func449 results449 ntmps449 rfl rfl rfl rfl (fun w0 T B E0 hB=>?_)
  refine SX.goM ?_;exact mU rfl ⟨rfl,trivial⟩
theorem c_isE(l:List Tok)(a o e p:Nat)(s:List UInt8):aj prog 449 [.ptr 29 0,.v (str s)] [(29,PE l a o e p)] ⟨.v (.bool false),[(29,.ent (PE l a o e p))]⟩:=by
 refine aj.fnF func449 results449 ntmps449 rfl rfl rfl rfl (fun w0 T B E0 hB=>?_)
 refine SX.goM ?_;exact mU rfl ⟨rfl,trivial⟩
theorem bG{l:List Tok}{a:Nat}{s:List UInt8}(h:isS l a s=true):a < l.length:=by
 refine Nat.lt_of_not_le fun hn=>?_
 unfold isS at h;rw[List.getElem?_eq_none hn]at h;cases h
theorem dS{l:List Tok}{a:Nat}(o:Nat){s:List UInt8}(hl:l.length≤1000000)(h:isS l a s=true):aj prog 387 [.ptr 29 0,.v (str s)] [(29,PG l a o)] ⟨.v (.bool true),[(29,.ent (PG l (a+1) o))]⟩:=by
 have hlt:=bG h;have c:=arA l a o s;rw[h]at c;refine aj.fnF func387 results387 ntmps387 rfl rfl rfl rfl (fun w0 T B E0 hB=>?_)
 refine SX.goM ?_;exact mU rfl ⟨rfl,trivial⟩
theorem dI{l:List Tok}{a:Nat}(o:Nat){s:List UInt8}(h:isS l a s=false):aj prog 387 [.ptr 29 0,.v (str s)] [(29,PG l a o)] ⟨.v (.bool false),[(29,.ent (PG l a o))]⟩:=by
 have c:=arA l a o s;rw[h]at c;refine aj.fnF func387 results387 ntmps387 rfl rfl rfl rfl (fun w0 T B E0 hB=>?_)
 refine SX.goM ?_;exact mU rfl ⟨rfl,trivial⟩
theorem dB(l:List Tok)(a o e p:Nat)(s:List UInt8):aj prog 387 [.ptr 29 0,.v (str s)] [(29,PE l a o e p)] ⟨.v (.bool false),[(29,.ent (PE l a o e p))]⟩:=by
 have c:=c_isE l a o e p s;refine aj.fnF func387 results387 ntmps387 rfl rfl rfl rfl (fun w0 T B E0 hB=>?_)
 refine SX.goM ?_;exact mU rfl ⟨rfl,trivial⟩
theorem jJ{l:List Tok}{a:Nat}(o:Nat){s:List UInt8}(hl:l.length≤1000000)(h:isS l a s=true):aj prog 391 [.ptr 29 0,.v (str s)] [(29,PG l a o)] ⟨.tup [],[(29,.ent (PG l (a+1) o))]⟩:=by
 have c:=dS o hl h;refine aj.fnF func391 results391 ntmps391 rfl rfl rfl rfl (fun w0 T B E0 hB=>?_)
 refine SX.goM ?_;exact alO ⟨rfl,trivial⟩
theorem kQ{l:List Tok}{a:Nat}(o:Nat){s:List UInt8}(h:isS l a s=false):aj prog 391 [.ptr 29 0,.v (str s)] [(29,PG l a o)] ⟨.tup [],[(29,.ent (PE l a o 4 a))]⟩:=by
 have c:=dI o h;have c2:=u6 l a o;refine aj.fnF func391 results391 ntmps391 rfl rfl rfl rfl (fun w0 T B E0 hB=>?_)
 refine SX.goM ?_;exact alO ⟨rfl,trivial⟩
theorem je(l:List Tok)(a o e p:Nat)(s:List UInt8):aj prog 391 [.ptr 29 0,.v (str s)] [(29,PE l a o e p)] ⟨.tup [],[(29,.ent (PE l a o e p))]⟩:=by
 have c:=dB l a o e p s;have c2:=aee l a o e p;refine aj.fnF func391 results391 ntmps391 rfl rfl rfl rfl (fun w0 T B E0 hB=>?_)
 refine SX.goM ?_;exact alO ⟨rfl,trivial⟩
theorem uG(l:List Tok)(a:Nat){o:Nat}(h:o+1≤600):aj prog 480 [.ptr 29 0] [(29,PG l a o)] ⟨.v (.bool true),[(29,.ent (PG l a (o+1)))]⟩:=by
 refine aj.fnF func480 results480 ntmps480 rfl rfl rfl rfl (fun w0 T B E0 hB=>?_)
 refine SX.goM ?_;exact mU rfl ⟨rfl,trivial⟩
theorem uH(l:List Tok)(a:Nat){o:Nat}(h:600 < o+1)(ho:o≤1000000):aj prog 480 [.ptr 29 0] [(29,PG l a o)] ⟨.v (.bool false),[(29,.ent (PE l a (o+1) 8 0))]⟩:=by
 have c:=ajg l a (o+1) 8 0;refine aj.fnF func480 results480 ntmps480 rfl rfl rfl rfl (fun w0 T B E0 hB=>?_)
 refine SX.goM ?_;exact mU rfl ⟨rfl,trivial⟩
theorem an3(l:List Tok)(a:Nat){o:Nat}(e p:Nat)(ho:o≤1000000):aj prog 480 [.ptr 29 0] [(29,PE l a o e p)] ⟨.v (.bool false),[(29,.ent (PE l a (o+1) e p))]⟩:=by
 have c:=aiW l a (o+1) e p 8 0;by_cases h:600 < o+1
 ·refine aj.fnF func480 results480 ntmps480 rfl rfl rfl rfl (fun w0 T B E0 hB=>?_)
  refine SX.goM ?_;exact mU rfl ⟨rfl,trivial⟩
 ·refine aj.fnF func480 results480 ntmps480 rfl rfl rfl rfl (fun w0 T B E0 hB=>?_)
  refine SX.goM ?_;exact mU rfl ⟨rfl,trivial⟩
theorem qP(l:List Tok)(a o:Nat):aj prog 392 [.ptr 29 0] [(29,PG l a o)] ⟨.v (.bool (mD l a)),[(29,.ent (PG l a o))]⟩:=by
 by_cases h:a < l.length
 ·obtain⟨⟨tk,tt,tp⟩,ht⟩:∃t,l[a]? =some t:=⟨_,zq2 h⟩
  have hv:mD l a=(decide (tk=2)&&!ownB tt):=by unfold mD;rw[ht]
  rw[hv];have cO:=alK tt;by_cases hk:tk=2
  ·refine aj.fnF func392 results392 ntmps392 rfl rfl rfl rfl (fun w0 T B E0 hB=>?_)
   refine SX.goM ?_
   (refine mU ?_ ⟨rfl,trivial⟩;simp[hk])
  ·refine aj.fnF func392 results392 ntmps392 rfl rfl rfl rfl (fun w0 T B E0 hB=>?_)
   refine SX.goM ?_
   (refine mU ?_ ⟨rfl,trivial⟩;simp[hk])
 ·have hv:mD l a=false:=by unfold mD;rw[List.getElem?_eq_none (by omega)]
  rw[hv];refine aj.fnF func392 results392 ntmps392 rfl rfl rfl rfl (fun w0 T B E0 hB=>?_)
  refine SX.goM ?_;exact mU rfl ⟨rfl,trivial⟩
theorem adD{l:List Tok}{a:Nat}(h:mD l a=true):a < l.length:=by
 refine Nat.lt_of_not_le fun hn=>?_
 unfold mD at h;rw[List.getElem?_eq_none hn]at h;cases h
def txt(l:List Tok)(a:Nat):List UInt8:=match l[a]? with
 |some t=>t.text
 |none=>[]
theorem ahw{l:List Tok}{a:Nat}(o:Nat)(hl:l.length≤1000000)(h:mD l a=true):aj prog 390 [.ptr 29 0] [(29,PG l a o)] ⟨.v (str (txt l a)),[(29,.ent (PG l (a+1) o))]⟩:=by
 have hlt:=adD h;have c:=qP l a o;rw[h]at c;obtain⟨⟨tk,tt,tp⟩,ht⟩:∃t,l[a]? =some t:=⟨_,zq2 hlt⟩
 have hv:txt l a=tt:=by unfold txt;rw[ht]
 rw[hv];refine aj.fnF func390 results390 ntmps390 rfl rfl rfl rfl (fun w0 T B E0 hB=>?_)
 refine SX.goM ?_;exact arF rfl ⟨rfl,trivial⟩
theorem aq8{l:List Tok}{a:Nat}(o:Nat)(h:mD l a=false):aj prog 390 [.ptr 29 0] [(29,PG l a o)] ⟨.v (str []),[(29,.ent (PE l a o 4 a))]⟩:=by
 have c:=qP l a o;rw[h]at c;have c2:=u6 l a o;refine aj.fnF func390 results390 ntmps390 rfl rfl rfl rfl (fun w0 T B E0 hB=>?_)
 refine SX.goM ?_;exact arF rfl ⟨rfl,trivial⟩
end
section
inductive Res where
 |ok (n:Nd) (a:Nat)
 |bad (e p:Nat) (n:Nd) (a o:Nat)
abbrev Gr:=Nat→Nat→Res
def iH(f:Nd→Nd):Res→Res
 | .ok n a=> .ok (f n) a
 | .bad e p n a o=> .bad e p (f n) a o
section
variable(K:Nat)(l:List Tok)
def thenS(r:Res)(o:Nat)(s:List UInt8):Res:=match r with
 | .ok n a=>if isS l a s then .ok n (a+1)else .bad 4 a n a o
 | .bad e p n a o'=> .bad e p n a o'
def ins(k:Gr):Gr:=fun a o=>if K < o+1 then .bad 8 0 nd0 a (o+1)else match k a (o+1)with
 | .ok n a'=> .ok n a'
 | .bad e p n a' o'=> .bad e p n a' (o' - 1)
def qx(X:Gr)(e:List UInt8):Nat→List Nd→Gr
 |0,_=>fun a o=> .bad 4 a nd0 a o
 |m+1,ks=>fun a o=>match X a o with
  | .bad c p n a' o'=> .bad c p (.mk 0 [] (ks++[n])) a' o'
  | .ok n a'=>if isS l a' e then .ok (.mk 0 [] (ks++[n])) (a'+1)else if isS l a' [44]then qx X e m (ks++[n]) (a'+1) o else .bad 4 a' (.mk 0 [] (ks++[n])) a' o
def jD(X:Gr)(e:List UInt8):Gr:=fun a o=>if isS l a e then .ok (.mk 0 [] []) (a+1)else qx l X e (l.length+1) [] a o
def qF(X:Gr):Nat→List Nd→List Nd→Gr
 |0,_,_=>fun a o=> .bad 4 a nd0 a o
 |m+1,rs,r=>fun a o=>match X a o with
  | .bad c p n a' o'=> .bad c p (.mk 14 [] (rs++[.mk 15 [] (r++[n])])) a' o'
  | .ok n a'=>if isS l a' [44]then qF X m rs (r++[n]) (a'+1) o else if isS l a' [59]then qF X m (rs++[.mk 15 [] (r++[n])]) [] (a'+1) o
   else if isS l a' [93]then .ok (.mk 14 [] (rs++[.mk 15 [] (r++[n])])) (a'+1)else .bad 4 a' (.mk 14 [] (rs++[.mk 15 [] (r++[n])])) a' o
def oZ(X:Gr):Gr:=fun a o=>match l[a]? with
 |none=> .bad 4 a nd0 a o
 |some t=>if t.kind=1 then .ok (.mk 1 t.text []) (a+1)
  else if mD l a then(if isS l (a+1) [40]then ins K (fun a o=>iH (fun n=> .mk 13 t.text n.kids) (jD l X [41] a o)) (a+2) o else .ok (.mk 2 t.text []) (a+1))
  else if isS l a [40]then ins K (fun a o=>thenS l (X a o) o [41]) (a+1) o
  else if isS l a [91]then ins K (fun a o=>qF l X (l.length+1) [] [] a o) (a+1) o
  else if isS l a [123]then ins K (fun a o=>iH (fun n=> .mk 16 [] n.kids) (jD l X [125] a o)) (a+1) o
  else .bad 4 a nd0 a o
def rY(X:Gr)(n:Nd):Gr:=fun a o=>match X a o with
 | .bad e p m a' o'=> .bad e p (.mk 17 [] [n,m]) a' o'
 | .ok m a'=>if isS l a' [44]then thenS l (iH (fun m2=> .mk 17 [] [n,m,m2]) (X (a'+1) o)) o [93]
  else thenS l (.ok (.mk 17 [] [n,m]) a') o [93]
def sj(X:Gr):Nat→Nd→Gr
 |0,_=>fun a o=> .bad 4 a nd0 a o
 |k+1,n=>fun a o=>if isS l a [91]then(match ins K (rY l X n) (a+1) o with
   | .bad e p n' a' o'=> .bad e p n' a' o'
   | .ok n' a'=>sj X k n' a' o)
  else .ok n a
def oP(X:Gr):Gr:=fun a o=>match oZ K l X a o with
 | .bad e p n a' o'=> .bad e p n a' o'
 | .ok n a'=>sj K l X (l.length+1) n a' o
def abf(X U:Gr):Gr:=fun a o=>match oP K l X a o with
 | .bad e p n a' o'=> .bad e p n a' o'
 | .ok n a'=>if isS l a' [94]then iH (fun m=> .mk 8 [] [n,m]) (U (a'+1) o)else .ok n a'
def unG(X U:Gr):Gr:=fun a o=>if isS l a [45]then ins K (fun a o=>iH (fun m=> .mk 3 [] [m]) (U a o)) (a+1) o else abf K l X U a o
def jg(S:Gr)(s1:List UInt8)(x:Nat)(s2:List UInt8)(y:Nat):Nat→Nd→Gr
 |0,_=>fun a o=> .bad 4 a nd0 a o
 |m+1,n=>fun a o=>if isS l a s1 then(match S (a+1) o with
   | .bad e p k a' o'=> .bad e p (.mk x [] [n,k]) a' o'
   | .ok k a'=>jg S s1 x s2 y m (.mk x [] [n,k]) a' o)
  else if isS l a s2 then(match S (a+1) o with
   | .bad e p k a' o'=> .bad e p (.mk y [] [n,k]) a' o'
   | .ok k a'=>jg S s1 x s2 y m (.mk y [] [n,k]) a' o)
  else .ok n a
def abk(S:Gr)(s1:List UInt8)(x:Nat)(s2:List UInt8)(y:Nat):Gr:=fun a o=>match S a o with
 | .bad e p n a' o'=> .bad e p n a' o'
 | .ok n a'=>jg l S s1 x s2 y (l.length+1) n a' o
def ae6(U:Gr):Gr:=abk l U [42] 6 [47] 7
def nN(U:Gr):Gr:=abk l (ae6 l U) [43] 4 [45] 5
def aaW(U:Gr):Gr:=fun a o=>match nN l U a o with
 | .bad e p n a' o'=> .bad e p n a' o'
 | .ok n a'=>if isS l a' [61,61]then iH (fun m=> .mk 9 [] [n,m]) (nN l U (a'+1) o)else if isS l a' [33,61]then iH (fun m=> .mk 10 [] [n,m]) (nN l U (a'+1) o)
  else if isS l a' [60]then iH (fun m=> .mk 11 [] [n,m]) (nN l U (a'+1) o)else if isS l a' [60,61]then iH (fun m=> .mk 12 [] [n,m]) (nN l U (a'+1) o)else .ok n a'
def lev:Nat→Gr×Gr
 |0=>(fun a o=> .bad 4 a nd0 a o,fun a o=> .bad 4 a nd0 a o)
 |n+1=>(aaW l (unG K l (lev n).1 (lev n).2),unG K l (lev n).1 (lev n).2)
end
def CR(res:Nd→AV)(f:FuncId)(args:List AV)(ex:List (Nat×Ent))(l:List Tok)(a o:Nat):Res→Prop
 | .ok n a'=>aj prog f args ((29,PG l a o)::ex) ⟨res n,(29,.ent (PG l a' o))::ex.map fun p=>(p.1,.ent p.2)⟩
 | .bad e p n a' o'=>aj prog f args ((29,PG l a o)::ex) ⟨res n,(29,.ent (PE l a' o' e p))::ex.map fun p=>(p.1,.ent p.2)⟩
mutual
def cnt:Nd→Nat
 | .mk _ _ ks=>1+iW ks
def iW:List Nd→Nat
 |[]=>0
 |k::ks=>cnt k+iW ks
end
theorem dV:∀ks ms:List Nd,iW (ks++ms)=iW ks+iW ms
 |[],ms=>by simp[iW]
 |k::ks,ms=>by simp[iW,dV ks ms];omega
theorem lD:∀n:Nd,1≤cnt n
 | .mk _ _ _=>by rw[cnt];omega
theorem eF(x:Int)(t:List UInt8)(ks:List Nd):cnt (.mk x t ks)=1+iW ks:=by rw[cnt]
theorem aT(k:Nd)(ks:List Nd):iW (k::ks)=cnt k+iW ks:=by rw[iW]
theorem bK:iW []=0:=by rw[iW]
theorem uE:∀ks:List Nd,ks.length≤iW ks
 |[]=>by simp[iW]
 |k::ks=>by have:=uE ks;have:=lD k;simp[iW];omega
def lG(s c k:Nat)(l:List Tok)(a o:Nat):Res→Prop
 | .ok n a'=>a+cnt n+c≤a'+s∧a≤a'∧a'≤l.length
 | .bad _ _ _ _ o'=>o≤o'∧o'≤o+k
def yB(k o:Nat):Res→Prop
 | .ok _ _=>True
 | .bad _ _ _ _ o'=>o≤o'∧o'≤o+k
def Adv(k:Nat)(l:List Tok)(m:Nat)(g:Gr):Prop:=∀a o,m≤a→a≤l.length→lG 0 0 k l a o (g a o)
abbrev rNd(n:Nd):AV:= .agg (ndA n)
abbrev rKs(n:Nd):AV:= .r (aA 3 ndC n.kids)
abbrev PP:Ent:= .box 337 [.ptr 29 0]
abbrev NB(n:Nd):Ent:= .box 341 (ndA n)
abbrev KB(t:Tok):Ent:= .box 334 (tokA t)
abbrev fnA(f:FuncId)(cap:List (Nat×Nat)):AV:= .it (.one (.clo f cap))
abbrev bnA(f:FuncId):AV:= .it (.one (.bnd f 29))
attribute [local irreducible] IntKind.wrap Go1 Reg WP aR aU bR bO aN aF ak aj aY Sat
theorem adI{f:FuncId}{l:List Tok}{a o:Nat}{k:Gr}(ho:o≤600)(hk:o+1≤600→CR rNd f [.ptr 81 0] [(81,PP)] l a (o+1) (k a (o+1))∧yB 2 (o+1) (k a (o+1))):
  CR rNd 451 [.ptr 29 0,fnA f [(81,0)]] [(81,PP)] l a o (ins 600 k a o):=by
 unfold ins;by_cases h:600 < o+1
 ·rw[if_pos h];have c:=uH l a h (by omega)
  show aj _ _ _ _ _;refine aj.fnF func451 results451 ntmps451 rfl rfl rfl rfl (fun w0 T B E0 hB=>?_)
  refine SX.goM ?_;exact aM (ak.aX rfl rfl rfl) (oM rfl rfl) ⟨rfl,rfl,trivial⟩
 ·rw[if_neg h];have c:=uG l a (o:=o) (by omega)
  obtain⟨hk,hb⟩:=hk (by omega)
  cases hr:k a (o+1)with
  |ok n a'=>
   rw[hr]at hk;unfold CR at hk;show aj _ _ _ _ _;refine aj.fnF func451 results451 ntmps451 rfl rfl rfl rfl (fun w0 T B E0 hB=>?_)
   refine SX.goM ?_;exact aM (ak.aX rfl rfl rfl) (AV0.imp.refl _) ⟨rfl,rfl,trivial⟩
  |bad e p n a' o'=>
   rw[hr]at hk hb;unfold CR at hk;unfold yB at hb;show aj _ _ _ _ _;refine aj.fnF func451 results451 ntmps451 rfl rfl rfl rfl (fun w0 T B E0 hB=>?_)
   refine SX.goM ?_;exact aM (ak.aX rfl rfl rfl) (AV0.imp.refl _) ⟨rfl,rfl,trivial⟩
theorem asn{f:FuncId}{l:List Tok}{a o:Nat}{k:Gr}{N:Nd}(ho:o≤600)(hk:o+1≤600→CR rNd f [.ptr 83 0,.ptr 81 0] [(81,PP),(83,NB N)] l a (o+1) (k a (o+1))∧yB 2 (o+1) (k a (o+1))):
  CR rNd 451 [.ptr 29 0,fnA f [(83,0),(81,0)]] [(81,PP),(83,NB N)] l a o (ins 600 k a o):=by
 unfold ins;by_cases h:600 < o+1
 ·rw[if_pos h];have c:=uH l a h (by omega)
  show aj _ _ _ _ _;refine aj.fnF func451 results451 ntmps451 rfl rfl rfl rfl (fun w0 T B E0 hB=>?_)
  refine SX.goM ?_;exact aM (ak.aX rfl rfl rfl) (oM rfl rfl) ⟨rfl,rfl,rfl,trivial⟩
 ·rw[if_neg h];have c:=uG l a (o:=o) (by omega)
  obtain⟨hk,hb⟩:=hk (by omega)
  cases hr:k a (o+1)with
  |ok n a'=>
   rw[hr]at hk;unfold CR at hk;show aj _ _ _ _ _;refine aj.fnF func451 results451 ntmps451 rfl rfl rfl rfl (fun w0 T B E0 hB=>?_)
   refine SX.goM ?_;exact aM (ak.aX rfl rfl rfl) (AV0.imp.refl _) ⟨rfl,rfl,rfl,trivial⟩
  |bad e p n a' o'=>
   rw[hr]at hk hb;unfold CR at hk;unfold yB at hb;show aj _ _ _ _ _;refine aj.fnF func451 results451 ntmps451 rfl rfl rfl rfl (fun w0 T B E0 hB=>?_)
   refine SX.goM ?_;exact aM (ak.aX rfl rfl rfl) (AV0.imp.refl _) ⟨rfl,rfl,rfl,trivial⟩
theorem ate{f:FuncId}{l:List Tok}{a o:Nat}{k:Gr}{t:Tok}(ho:o≤600)(hk:o+1≤600→CR rNd f [.ptr 82 0,.ptr 81 0] [(81,PP),(82,KB t)] l a (o+1) (k a (o+1))∧yB 2 (o+1) (k a (o+1))):
  CR rNd 451 [.ptr 29 0,fnA f [(82,0),(81,0)]] [(81,PP),(82,KB t)] l a o (ins 600 k a o):=by
 unfold ins;by_cases h:600 < o+1
 ·rw[if_pos h];have c:=uH l a h (by omega)
  show aj _ _ _ _ _;refine aj.fnF func451 results451 ntmps451 rfl rfl rfl rfl (fun w0 T B E0 hB=>?_)
  refine SX.goM ?_;exact aM (ak.aX rfl rfl rfl) (oM rfl rfl) ⟨rfl,rfl,rfl,trivial⟩
 ·rw[if_neg h];have c:=uG l a (o:=o) (by omega)
  obtain⟨hk,hb⟩:=hk (by omega)
  cases hr:k a (o+1)with
  |ok n a'=>
   rw[hr]at hk;unfold CR at hk;show aj _ _ _ _ _;refine aj.fnF func451 results451 ntmps451 rfl rfl rfl rfl (fun w0 T B E0 hB=>?_)
   refine SX.goM ?_;exact aM (ak.aX rfl rfl rfl) (AV0.imp.refl _) ⟨rfl,rfl,rfl,trivial⟩
  |bad e p n a' o'=>
   rw[hr]at hk hb;unfold CR at hk;unfold yB at hb;show aj _ _ _ _ _;refine aj.fnF func451 results451 ntmps451 rfl rfl rfl rfl (fun w0 T B E0 hB=>?_)
   refine SX.goM ?_;exact aM (ak.aX rfl rfl rfl) (AV0.imp.refl _) ⟨rfl,rfl,rfl,trivial⟩
theorem atd{f:FuncId}{l:List Tok}{a o:Nat}{k:Gr}(ho:o≤600)(hk:o+1≤600→CR rNd f [.ptr 29 0] [] l a (o+1) (k a (o+1))∧yB 2 (o+1) (k a (o+1))):
  CR rNd 451 [.ptr 29 0,bnA f] [] l a o (ins 600 k a o):=by
 unfold ins;by_cases h:600 < o+1
 ·rw[if_pos h];have c:=uH l a h (by omega)
  show aj _ _ _ _ _;refine aj.fnF func451 results451 ntmps451 rfl rfl rfl rfl (fun w0 T B E0 hB=>?_)
  refine SX.goM ?_;exact aM (ak.aX rfl rfl rfl) (oM rfl rfl) ⟨rfl,trivial⟩
 ·rw[if_neg h];have c:=uG l a (o:=o) (by omega)
  obtain⟨hk,hb⟩:=hk (by omega)
  cases hr:k a (o+1)with
  |ok n a'=>
   rw[hr]at hk;unfold CR at hk;show aj _ _ _ _ _;refine aj.fnF func451 results451 ntmps451 rfl rfl rfl rfl (fun w0 T B E0 hB=>?_)
   refine SX.goM ?_;exact aM (ak.aX rfl rfl rfl) (AV0.imp.refl _) ⟨rfl,trivial⟩
  |bad e p n a' o'=>
   rw[hr]at hk hb;unfold CR at hk;unfold yB at hb;show aj _ _ _ _ _;refine aj.fnF func451 results451 ntmps451 rfl rfl rfl rfl (fun w0 T B E0 hB=>?_)
   refine SX.goM ?_;exact aM (ak.aX rfl rfl rfl) (AV0.imp.refl _) ⟨rfl,trivial⟩
theorem alS{f:FuncId}{l:List Tok}{a o e p:Nat}(ho:o≤1000000):
  aj prog 451 [.ptr 29 0,fnA f [(81,0)]] [(29,PE l a o e p),(81,PP)] ⟨rNd nd0,[(29,.ent (PE l a (o+1) e p)),(81,.ent PP)]⟩:=by
 have c:=an3 l a e p ho;refine aj.fnF func451 results451 ntmps451 rfl rfl rfl rfl (fun w0 T B E0 hB=>?_)
 refine SX.goM ?_;exact aM (ak.aX rfl rfl rfl) (oM rfl rfl) ⟨rfl,rfl,trivial⟩
def GOK(f:FuncId)(l:List Tok)(m:Nat)(g:Gr):Prop:=∀a o,m≤a→a≤l.length→o≤600→CR rNd f [.ptr 29 0] [] l a o (g a o)
def GE(f:FuncId)(l:List Tok):Prop:=∀a o e p,aj prog f [.ptr 29 0] [(29,PE l a o e p)] ⟨rNd nd0,[(29,.ent (PE l a o e p))]⟩
theorem CR.ok{res:Nd→AV}{f:FuncId}{args:List AV}{ex:List (Nat×Ent)}{l:List Tok}{a o:Nat}{n:Nd}{a':Nat}(h:CR res f args ex l a o (.ok n a')):aj prog f args ((29,PG l a o)::ex) ⟨res n,(29,.ent (PG l a' o))::ex.map fun p=>(p.1,.ent p.2)⟩:=h
theorem CR.bad{res:Nd→AV}{f:FuncId}{args:List AV}{ex:List (Nat×Ent)}{l:List Tok}{a o:Nat}{n:Nd}{e p a' o':Nat}(h:CR res f args ex l a o (.bad e p n a' o')):aj prog f args ((29,PG l a o)::ex) ⟨res n,(29,.ent (PE l a' o' e p))::ex.map fun p=>(p.1,.ent p.2)⟩:=h
theorem lG.open{s c k:Nat}{l:List Tok}{a o:Nat}{r:Res}(h:lG s c k l a o r):yB k o r:=by
 cases r with
 |ok n a'=>trivial
 |bad e p n a' o'=>exact h
theorem yB.mono{k k' o:Nat}{r:Res}(h:yB k o r)(hk:k≤k'):yB k' o r:=by
 cases r with
 |ok n a'=>trivial
 |bad e p n a' o'=>exact⟨h.1,by have:=h.2;omega⟩
theorem lG.mono{s c k s' c' k':Nat}{l:List Tok}{a o a2:Nat}{r:Res}(h:lG s c k l a2 o r)(hk:k≤k')(ha:a≤a2)(hc:a+c'+s≤a2+c+s'):lG s' c' k' l a o r:=by
 cases r with
 |ok n a'=>exact⟨by have:=h.1;omega,by have:=h.2.1;omega,h.2.2⟩
 |bad e p n a' o'=>exact⟨h.1,by have:=h.2;omega⟩
theorem iJ{f:Nd→Nd}{s s' c c' k:Nat}{l:List Tok}{a o:Nat}{r:Res}(h:lG s c k l a o r)(hf:∀n,cnt (f n)+c'+s≤cnt n+c+s'):lG s' c' k l a o (iH f r):=by
 cases r with
 |ok n a'=>exact⟨by have:=h.1;have:=hf n;omega,h.2⟩
 |bad e p n a' o'=>exact h
theorem nL{s c k:Nat}{l:List Tok}{a o:Nat}{r:Res}{t:List UInt8}(h:lG s c k l a o r):lG s (c+1) k l a o (thenS l r o t):=by
 cases r with
 |ok n a'=>
  unfold thenS
  dsimp only
  split
  ·rename_i hs;exact⟨by have:=h.1;omega,by have:=h.2.1;omega,bG hs⟩
  ·exact⟨Nat.le_refl _,by omega⟩
 |bad e p n a' o'=>exact h
theorem mF{K s c k:Nat}{l:List Tok}{a o:Nat}{g:Gr}(hk:1≤k)(h:lG s c k l a (o+1) (g a (o+1))):lG s c k l a o (ins K g a o):=by
 unfold ins
 split
 ·exact⟨by omega,by omega⟩
 ·cases hr:g a (o+1)with
  |ok n a'=>rw[hr]at h;exact h
  |bad e p n a' o'=>rw[hr]at h;exact⟨by have:=h.1;omega,by have:=h.2;omega⟩
end
theorem vQ(n:Nd)(x:Int)(t:List UInt8):cnt (.mk x t n.kids)=cnt n:=by
 cases n;rw[eF,eF];rfl
theorem lu{s c k:Nat}{l:List Tok}{a o e p:Nat}{n:Nd}{a':Nat}(hk:1≤k):lG s c k l a o (.bad e p n a' o):=⟨Nat.le_refl _,by omega⟩
theorem af5{l:List Tok}{m:Nat}{X:Gr}{e:List UInt8}(h:Adv 1 l m X):∀(f:Nat) (ks:List Nd) (a o:Nat),m≤a→a≤l.length→lG (iW ks) 0 1 l a o (qx l X e f ks a o)
 |0,ks,a,o,hm,ha=>lu (Nat.le_refl _)
 |f+1,ks,a,o,hm,ha=>by
  have h1:=h a o hm ha;unfold qx;cases hr:X a o with
  |bad c p n a' o'=>rw[hr]at h1;exact h1
  |ok n a'=>
   rw[hr]at h1;obtain⟨h1,h3,h2⟩:=h1
   dsimp only
   split
   ·rename_i hs;have:=bG hs;exact⟨by rw[eF,dV,aT,bK];omega,by omega,by omega⟩
   ·split
    ·rename_i hs;have:=bG hs;refine(af5 h f (ks++[n]) (a'+1) o (by omega) (by omega)).mono (Nat.le_refl _) (by omega) ?_
     rw[dV,aT,bK];omega
    ·exact lu (Nat.le_refl _)
theorem rA{l:List Tok}{m:Nat}{X:Gr}{e:List UInt8}(h:Adv 1 l m X){a o:Nat}(hm:m≤a)(ha:a≤l.length):lG 0 0 1 l a o (jD l X e a o):=by
 unfold jD
 split
 ·rename_i hs;have:=bG hs;exact⟨by rw[eF,bK];omega,by omega,by omega⟩
 ·have:=af5 (e:=e) h (l.length+1) [] a o hm ha
  rwa [bK]at this
theorem yV{l:List Tok}{m:Nat}{X:Gr}(h:Adv 1 l m X):∀(f:Nat) (rs r:List Nd) (a o:Nat),m≤a→a≤l.length→lG (iW rs+iW r+1) 0 1 l a o (qF l X f rs r a o)
 |0,rs,r,a,o,hm,ha=>lu (Nat.le_refl _)
 |f+1,rs,r,a,o,hm,ha=>by
  have h1:=h a o hm ha;unfold qF;cases hr:X a o with
  |bad c p n a' o'=>rw[hr]at h1;exact h1
  |ok n a'=>
   rw[hr]at h1;obtain⟨h1,h3,h2⟩:=h1
   dsimp only
   split
   ·rename_i hs;have:=bG hs;refine(yV h f rs (r++[n]) (a'+1) o (by omega) (by omega)).mono (Nat.le_refl _) (by omega) ?_
    rw[dV,aT,bK];omega
   ·split
    ·rename_i hs;have:=bG hs;have hh:=yV h f (rs++[.mk 15 [] (r++[n])]) [] (a'+1) o (by omega) (by omega)
     refine hh.mono (Nat.le_refl _) (by omega) ?_
     rw[dV,aT,bK,eF,dV,aT,bK];omega
    ·split
     ·rename_i hs;have:=bG hs;exact⟨by rw[eF,dV,aT,bK,eF,dV,aT,bK];omega,by omega,by omega⟩
     ·exact lu (Nat.le_refl _)
theorem aeU{K:Nat}{l:List Tok}{m:Nat}{X:Gr}(h:Adv 1 l (m+1) X):Adv 1 l m (oZ K l X):=by
 intro a o hm ha;unfold oZ;cases ht:l[a]? with
 |none=>exact lu (Nat.le_refl _)
 |some t=>
  have hlt:a < l.length:=(List.getElem?_eq_some_iff.1 ht).1
  dsimp only
  split
  ·exact⟨by rw[eF,bK];omega,by omega,by omega⟩
  ·split
   ·split
    ·rename_i hs;have:=bG hs;refine(mF (Nat.le_refl _) (iJ (c':=0) (s':=0) (rA h (by omega) (by omega)) (fun n=>by rw[vQ];omega))).mono (Nat.le_refl _) (by omega) (by omega)
    ·exact⟨by rw[eF,bK];omega,by omega,by omega⟩
   ·split
    ·refine(mF (Nat.le_refl _) (nL (h _ _ (by omega) (by omega)))).mono (Nat.le_refl _) (by omega) (by omega)
    ·split
     ·refine(mF (Nat.le_refl _) (yV h _ _ _ _ _ (by omega) (by omega))).mono (Nat.le_refl _) (by omega) (by simp only[bK];omega)
     ·split
      ·refine(mF (Nat.le_refl _) (iJ (c':=0) (s':=0) (rA h (by omega) (by omega)) (fun n=>by rw[vQ];omega))).mono (Nat.le_refl _) (by omega) (by omega)
      ·exact lu (Nat.le_refl _)
theorem aah{l:List Tok}{m:Nat}{X:Gr}{n:Nd}(h:Adv 1 l m X){a o:Nat}(hm:m≤a)(ha:a≤l.length):lG (cnt n) 0 1 l a o (rY l X n a o):=by
 have h1:=h a o hm ha;unfold rY;cases hr:X a o with
 |bad c p m a' o'=>rw[hr]at h1;exact h1
 |ok n1 a'=>
  rw[hr]at h1;obtain⟨h1,h3,h2⟩:=h1
  dsimp only
  split
  ·rename_i hs;have:=bG hs;exact(nL (iJ (c':=0) (s':=1+cnt n+cnt n1) (h (a'+1) o (by omega) (by omega)) (fun n2=>by rw[eF,aT,aT,aT,bK];omega))).mono (Nat.le_refl _) (by omega) (by omega)
  ·exact(nL (k:=1) (s:=1+cnt n+cnt n1) (c:=0) (show lG _ _ _ l a' o (.ok _ a')from ⟨by rw[eF,aT,aT,bK];omega,Nat.le_refl _,h2⟩)).mono (Nat.le_refl _) (by omega) (by omega)
theorem ae7{K:Nat}{l:List Tok}{m:Nat}{X:Gr}(h:Adv 1 l (m+1) X):∀(f:Nat) (n:Nd) (a o:Nat),m≤a→a≤l.length→lG (cnt n) 0 1 l a o (sj K l X f n a o)
 |0,n,a,o,hm,ha=>lu (Nat.le_refl _)
 |f+1,n,a,o,hm,ha=>by
  unfold sj
  split
  ·rename_i hs;have:=bG hs;have h1:=mF (K:=K) (g:=rY l X n) (a:=a+1) (o:=o) (Nat.le_refl _) (aah (n:=n) (o:=o+1) h (by omega) (by omega))
   cases hr:ins K (rY l X n) (a+1) o with
   |bad e p n' a' o'=>rw[hr]at h1;exact h1
   |ok n' a'=>
    rw[hr]at h1;obtain⟨h1,h3,h2⟩:=h1;exact(ae7 h f n' a' o (by omega) h2).mono (Nat.le_refl _) (by omega) (by omega)
  ·exact⟨by omega,by omega,ha⟩
theorem ach{K:Nat}{l:List Tok}{m:Nat}{X:Gr}(h:Adv 1 l (m+1) X):Adv 1 l m (oP K l X):=by
 intro a o hm ha;have h1:=aeU (K:=K) h a o hm ha;unfold oP;cases hr:oZ K l X a o with
 |bad e p n a' o'=>rw[hr]at h1;exact h1
 |ok n a'=>
  rw[hr]at h1;obtain⟨h1,h3,h2⟩:=h1;exact(ae7 h _ n a' o (by omega) h2).mono (Nat.le_refl _) (by omega) (by omega)
theorem ap9{K:Nat}{l:List Tok}{m:Nat}{X U:Gr}(h:Adv 1 l (m+1) X)(hu:Adv 1 l (m+1) U):Adv 1 l m (abf K l X U):=by
 intro a o hm ha;have h1:=ach (K:=K) h a o hm ha;unfold abf;cases hr:oP K l X a o with
 |bad e p n a' o'=>rw[hr]at h1;exact h1
 |ok n a'=>
  rw[hr]at h1;obtain⟨h1,h3,h2⟩:=h1;have:=lD n
  dsimp only
  split
  ·rename_i hs;have:=bG hs;exact(iJ (c':=0) (s':=1+cnt n) (hu (a'+1) o (by omega) (by omega)) (fun k=>by rw[eF,aT,aT,bK];omega)).mono (Nat.le_refl _) (by omega) (by omega)
  ·exact⟨h1,h3,h2⟩
theorem an8{K:Nat}{l:List Tok}{m:Nat}{X U:Gr}(h:Adv 1 l (m+1) X)(hu:Adv 1 l (m+1) U):Adv 1 l m (unG K l X U):=by
 intro a o hm ha;unfold unG
 split
 ·rename_i hs;have:=bG hs;exact(mF (Nat.le_refl _) (iJ (c':=0) (s':=1) (hu (a+1) (o+1) (by omega) (by omega)) (fun k=>by rw[eF,aT,bK];omega))).mono (Nat.le_refl _) (by omega) (by omega)
 ·exact ap9 h hu a o hm ha
theorem wK{l:List Tok}{m:Nat}{S:Gr}{s1 s2:List UInt8}{x y:Nat}(h:Adv 1 l m S):∀(f:Nat) (n:Nd) (a o:Nat),m≤a→a≤l.length→lG (cnt n) 0 1 l a o (jg l S s1 x s2 y f n a o)
 |0,n,a,o,hm,ha=>lu (Nat.le_refl _)
 |f+1,n,a,o,hm,ha=>by
  unfold jg
  split
  ·rename_i hs;have:=bG hs;have h1:=h (a+1) o (by omega) (by omega)
   cases hr:S (a+1) o with
   |bad e p n' a' o'=>rw[hr]at h1;exact h1
   |ok n' a'=>
    rw[hr]at h1;obtain⟨h1,h3,h2⟩:=h1;exact(wK h f _ a' o (by omega) h2).mono (Nat.le_refl _) (by omega) (by rw[eF,aT,aT,bK];omega)
  ·split
   ·rename_i hs;have:=bG hs;have h1:=h (a+1) o (by omega) (by omega)
    cases hr:S (a+1) o with
    |bad e p n' a' o'=>rw[hr]at h1;exact h1
    |ok n' a'=>
     rw[hr]at h1;obtain⟨h1,h3,h2⟩:=h1;exact(wK h f _ a' o (by omega) h2).mono (Nat.le_refl _) (by omega) (by rw[eF,aT,aT,bK];omega)
   ·exact⟨by omega,by omega,ha⟩
theorem zH{l:List Tok}{m:Nat}{S:Gr}{s1 s2:List UInt8}{x y:Nat}(h:Adv 1 l m S):Adv 1 l m (abk l S s1 x s2 y):=by
 intro a o hm ha;have h1:=h a o hm ha;unfold abk;cases hr:S a o with
 |bad e p n a' o'=>rw[hr]at h1;exact h1
 |ok n a'=>
  rw[hr]at h1;obtain⟨h1,h3,h2⟩:=h1;exact(wK h _ n a' o (by omega) h2).mono (Nat.le_refl _) (by omega) (by omega)
theorem adK{l:List Tok}{m:Nat}{U:Gr}(h:Adv 1 l m U):Adv 1 l m (nN l U):=zH (zH h)
theorem apl{l:List Tok}{m:Nat}{U:Gr}(h:Adv 1 l m U):Adv 1 l m (aaW l U):=by
 intro a o hm ha;have h1:=adK h a o hm ha;unfold aaW;cases hr:nN l U a o with
 |bad e p n a' o'=>rw[hr]at h1;exact h1
 |ok n a'=>
  rw[hr]at h1;obtain⟨h1,h3,h2⟩:=h1;have key:∀(x:Int),a' < l.length→lG 0 0 1 l a o (iH (fun m=> .mk x [] [n,m]) (nN l U (a'+1) o)):=fun x hx=>
   (iJ (c':=0) (s':=1+cnt n) (adK h (a'+1) o (by omega) (by omega)) (fun k=>by rw[eF,aT,aT,bK];omega)).mono (Nat.le_refl _) (by omega) (by omega)
  dsimp only
  split
  ·rename_i hs;exact key 9 (bG hs)
  ·split
   ·rename_i hs;exact key 10 (bG hs)
   ·split
    ·rename_i hs;exact key 11 (bG hs)
    ·split
     ·rename_i hs;exact key 12 (bG hs)
     ·exact⟨h1,h3,h2⟩
theorem yD(K:Nat)(l:List Tok):∀(n m:Nat),l.length+1≤m+n→Adv 1 l m (lev K l n).1∧Adv 1 l m (lev K l n).2
 |0,m,h=>⟨fun a o hm ha=>by omega,fun a o hm ha=>by omega⟩
 |n+1,m,h=>by
  obtain⟨h1,h2⟩:=yD K l n (m+1) (by omega)
  have h3:=an8 (K:=K) h1 h2;exact⟨apl h3,h3⟩
end
section
attribute [local irreducible] IntKind.wrap Go1 Reg WP aR aU bR bO aN aF ak aj aY Sat
theorem g_pow{l:List Tok}{m:Nat}{X U:Gr}(hl:l.length≤1000000)(hp:GOK 552 l m (oP 600 l X))(ap:Adv 1 l m (oP 600 l X))(hu:GOK 501 l (m+1) U):GOK 531 l m (abf 600 l X U):=by
 intro a o hm ha ho;have h1:=hp a o hm ha ho;have h2:=ap a o hm ha;unfold abf;cases hr:oP 600 l X a o with
 |bad e p n a' o'=>
  rw[hr]at h1;have c1:=h1.bad;have c2:=dB l a' o' e p [94];show aj _ _ _ _ _;refine aj.fnF func531 results531 ntmps531 rfl rfl rfl rfl (fun w0 T B E0 hB=>?_)
  refine SX.goM ?_
  try(refine SX.WP.aD ?_;refine SX.goM ?_)
  exact aM (ak.aX rfl rfl rfl) (AV0.imp.refl _) ⟨rfl,trivial⟩
 |ok n a'=>
  rw[hr]at h1 h2;have c1:=h1.ok;obtain⟨g1,g2,g3⟩:=h2;have g4:=lD n;cases ht:isS l a' [94]with
  |false=>
   have c2:=dI o ht;simp only[Bool.false_eq_true,if_false,ht];show aj _ _ _ _ _;refine aj.fnF func531 results531 ntmps531 rfl rfl rfl rfl (fun w0 T B E0 hB=>?_)
   refine SX.goM ?_
   try(refine SX.WP.aD ?_;refine SX.goM ?_)
   exact aM (ak.aX rfl rfl rfl) (AV0.imp.refl _) ⟨rfl,trivial⟩
  |true=>
   have c2:=dS o hl ht;have g3:=bG ht;have h3:=hu (a'+1) o (by omega) (by omega) ho
   simp only[if_true,ht];cases hr2:U (a'+1) o with
   |bad e p n2 a2 o2=>
    rw[hr2]at h3;have c3:=h3.bad;show aj _ _ _ _ _;refine aj.fnF func531 results531 ntmps531 rfl rfl rfl rfl (fun w0 T B E0 hB=>?_)
    refine SX.goM ?_
    try(refine SX.WP.aD ?_;refine SX.goM ?_)
    exact aM (ak.aX rfl rfl rfl) (bD rfl rfl rfl (by first|(simp only[List.flatMap_cons,List.flatMap_nil,aH,List.append_nil];done)|(simp only[List.flatMap_cons,List.flatMap_nil,aH,List.append_nil];rfl))) ⟨rfl,trivial⟩
   |ok n2 a2=>
    rw[hr2]at h3;have c3:=h3.ok;show aj _ _ _ _ _;refine aj.fnF func531 results531 ntmps531 rfl rfl rfl rfl (fun w0 T B E0 hB=>?_)
    refine SX.goM ?_
    try(refine SX.WP.aD ?_;refine SX.goM ?_)
    exact aM (ak.aX rfl rfl rfl) (bD rfl rfl rfl (by first|(simp only[List.flatMap_cons,List.flatMap_nil,aH,List.append_nil];done)|(simp only[List.flatMap_cons,List.flatMap_nil,aH,List.append_nil];rfl))) ⟨rfl,trivial⟩
theorem ath{l:List Tok}(hp:GE 552 l):GE 531 l:=by
 intro a o e p;have c1:=hp a o e p;have c2:=dB l a o e p [94];refine aj.fnF func531 results531 ntmps531 rfl rfl rfl rfl (fun w0 T B E0 hB=>?_)
 refine SX.goM ?_
 try(refine SX.WP.aD ?_;refine SX.goM ?_)
 exact aM (ak.aX rfl rfl rfl) (AV0.imp.refl _) ⟨rfl,trivial⟩
theorem g_un1{l:List Tok}{m:Nat}{U:Gr}(hu:GOK 501 l m U){a o:Nat}(hm:m≤a)(ha:a≤l.length)(ho:o≤600):CR rNd 532 [.ptr 81 0] [(81,PP)] l a o (iH (fun m=> .mk 3 [] [m]) (U a o)):=by
 have h3:=hu a o hm ha ho;cases hr2:U a o with
 |bad e p n2 a2 o2=>
  rw[hr2]at h3;have c3:=h3.bad;show aj _ _ _ _ _;refine aj.fnF func532 results532 ntmps532 rfl rfl rfl rfl (fun w0 T B E0 hB=>?_)
  refine SX.goM ?_
  try(refine SX.WP.aD ?_;refine SX.goM ?_)
  exact aM (ak.aX rfl rfl rfl) (bD rfl rfl rfl (by first|(simp only[List.flatMap_cons,List.flatMap_nil,aH,List.append_nil];done)|(simp only[List.flatMap_cons,List.flatMap_nil,aH,List.append_nil];rfl))) ⟨rfl,rfl,trivial⟩
 |ok n2 a2=>
  rw[hr2]at h3;have c3:=h3.ok;show aj _ _ _ _ _;refine aj.fnF func532 results532 ntmps532 rfl rfl rfl rfl (fun w0 T B E0 hB=>?_)
  refine SX.goM ?_
  try(refine SX.WP.aD ?_;refine SX.goM ?_)
  exact aM (ak.aX rfl rfl rfl) (bD rfl rfl rfl (by first|(simp only[List.flatMap_cons,List.flatMap_nil,aH,List.append_nil];done)|(simp only[List.flatMap_cons,List.flatMap_nil,aH,List.append_nil];rfl))) ⟨rfl,rfl,trivial⟩
theorem g_un{l:List Tok}{m:Nat}{X U:Gr}(hl:l.length≤1000000)(hp:GOK 531 l m (abf 600 l X U))(hu:GOK 501 l (m+1) U)(au:Adv 1 l (m+1) U):GOK 501 l m (unG 600 l X U):=by
 intro a o hm ha ho;have nm:Named 1 81:=⟨⟩;unfold unG;cases ht:isS l a [45]with
 |false=>
  simp only[Bool.false_eq_true,if_false];have c1:=dI o ht;have h1:=hp a o hm ha ho;cases hr:abf 600 l X U a o with
  |bad e p n a' o'=>
   rw[hr]at h1;have c2:=h1.bad;show aj _ _ _ _ _;refine aj.fnF func501 results501 ntmps501 rfl rfl rfl rfl (fun w0 T B E0 hB=>?_)
   refine SX.goM ?_
   try(refine SX.WP.aD ?_;refine SX.goM ?_)
   exact aM (ak.aX rfl rfl rfl) (AV0.imp.refl _) ⟨rfl,trivial⟩
  |ok n a'=>
   rw[hr]at h1;have c2:=h1.ok;show aj _ _ _ _ _;refine aj.fnF func501 results501 ntmps501 rfl rfl rfl rfl (fun w0 T B E0 hB=>?_)
   refine SX.goM ?_
   try(refine SX.WP.aD ?_;refine SX.goM ?_)
   exact aM (ak.aX rfl rfl rfl) (AV0.imp.refl _) ⟨rfl,trivial⟩
 |true=>
  simp only[if_true];have c1:=dS o hl ht;have g3:=bG ht;have h1:=adI (f:=532) (l:=l) (a:=a+1) (o:=o) (k:=fun a o=>iH (fun m=> .mk 3 [] [m]) (U a o)) ho (fun h=>⟨g_un1 hu (by omega) (by omega) (by omega),(iJ (c':=0) (s':=1) (au (a+1) (o+1) (by omega) (by omega)) (fun k=>by rw[eF,aT,bK];omega)).open.mono (by omega)⟩)
  cases hr:ins 600 (fun a o=>iH (fun m=> .mk 3 [] [m]) (U a o)) (a+1) o with
  |bad e p n a' o'=>
   rw[hr]at h1;have c2:=h1.bad;show aj _ _ _ _ _;refine aj.fnF func501 results501 ntmps501 rfl rfl rfl rfl (fun w0 T B E0 hB=>?_)
   refine SX.goM ?_
   try(refine SX.WP.aD ?_;refine SX.goM ?_)
   exact aM (ak.aX rfl rfl rfl) (AV0.imp.refl _) ⟨rfl,trivial⟩
  |ok n a'=>
   rw[hr]at h1;have c2:=h1.ok;show aj _ _ _ _ _;refine aj.fnF func501 results501 ntmps501 rfl rfl rfl rfl (fun w0 T B E0 hB=>?_)
   refine SX.goM ?_
   try(refine SX.WP.aD ?_;refine SX.goM ?_)
   exact aM (ak.aX rfl rfl rfl) (AV0.imp.refl _) ⟨rfl,trivial⟩
theorem ge_un{l:List Tok}(hp:GE 531 l):GE 501 l:=by
 intro a o e p;have c1:=hp a o e p;have c2:=dB l a o e p [45];refine aj.fnF func501 results501 ntmps501 rfl rfl rfl rfl (fun w0 T B E0 hB=>?_)
 refine SX.goM ?_
 try(refine SX.WP.aD ?_;refine SX.goM ?_)
 exact aM (ak.aX rfl rfl rfl) (AV0.imp.refl _) ⟨rfl,trivial⟩
def bE:Option (Nat×Nat)→Nat
 |none=>0
 |some (e,_)=>e
def bP:Option (Nat×Nat)→Nat
 |none=>0
 |some (_,p)=>p
def bH:Option (Nat×Nat)→Bool
 |none=>false
 |some _=>true
abbrev PS(l:List Tok)(a o:Nat)(b:Option (Nat×Nat)):Ent:=PB l a o (bE b) (bH b) (bP b)
structure ChS where
 n:Nd
 a:Nat
 o:Nat
 b:Option (Nat×Nat)
 f:Nat
def chS(l:List Tok)(S:Gr)(s1:List UInt8)(x:Nat)(s2:List UInt8)(y:Nat)(q:ChS):Res:=match q.b with
 |none=>jg l S s1 x s2 y q.f q.n q.a q.o
 |some (e,p)=> .bad e p q.n q.a q.o
abbrev NZ:Ent:= .box 341 [.c (.val (.int .i64 0)),.c (.val (.string ByteArray.empty)),.c (.val (.slice none 0 0))]
def chI(f:FuncId)(s1:List UInt8)(x:Nat)(s2:List UInt8)(y:Nat):List (Nat×AV):=[(0,.ptr 29 0),(1,bnA f),(2,.v (str s1)),(3,.v (.int .i64 (x:Int))),(4,.v (str s2)),(5,.v (.int .i64 (y:Int))),(12,.ptr 12 0),(13,.ptr 13 0)]
def Res.nd:Res→Nd
 | .ok n _=>n
 | .bad _ _ n _ _=>n
def Res.pl:Res→Nat
 | .ok _ a=>a
 | .bad _ _ _ a _=>a
def Res.op(o:Nat):Res→Nat
 | .ok _ _=>o
 | .bad _ _ _ _ o'=>o'
def Res.er:Res→Option (Nat×Nat)
 | .ok _ _=>none
 | .bad e p _ _ _=>some (e,p)
theorem CR.of{res:Nd→AV}{f:FuncId}{args:List AV}{ex:List (Nat×Ent)}{l:List Tok}{a o:Nat}{r:Res}(h:aj prog f args ((29,PG l a o)::ex) ⟨res r.nd,(29,.ent (PS l r.pl (r.op o) r.er))::ex.map fun p=>(p.1,.ent p.2)⟩):CR res f args ex l a o r:=by
 cases r <;> exact h
abbrev caN(n:Nd):List CA:=[.val (.int .i64 (n.op:Int)),.val (str n.text),.sat (aA 3 ndC n.kids)]
theorem acY(x:Nat)(n k:Nd):Ent.box 341 [.c (.val (.int .i64 (x:Int))),.c (.val (.string ByteArray.empty)),.c (.sat (aL 3 2 (caN n++caN k)))]=NB (.mk x [] [n,k]):=by
 show _=Ent.box _ [_,_,.c (.sat (aL 3 2 ([n,k].flatMap ndC)))];rw[show [n,k].flatMap ndC=caN n++caN k by simp only[List.flatMap_cons,List.flatMap_nil,aH,List.append_nil]]
 rfl
theorem ahq{f:FuncId}{l:List Tok}{m:Nat}{S:Gr}{s1 s2:List UInt8}{x y:Nat}(hl:l.length≤1000000)(hs:GOK f l m S)(hA:Adv 1 l m S){a o:Nat}(hm:m≤a)(ha:a≤l.length)(ho:o≤600):
  CR rNd 478 [.ptr 29 0,bnA f,.v (str s1),.v (.int .i64 (x:Int)),.v (str s2),.v (.int .i64 (y:Int))] [] l a o (abk l S s1 x s2 y a o):=by
 have h1:=hs a o hm ha ho;have h2:=hA a o hm ha;unfold abk;cases hr:S a o with
 |bad e p n a' o'=>
  rw[hr]at h1;have c1:=h1.bad;have c2:=dB l a' o' e p s1;have c3:=dB l a' o' e p s2;show aj _ _ _ _ _;refine aj.fnF func478 results478 ntmps478 rfl rfl rfl rfl (fun w0 T B E0 hB=>?_)
  refine SX.goM ?_
  try(refine SX.WP.aD ?_;refine SX.goM ?_)
  refine W.loop (fun _:Unit=>True) (fun _=>chI f s1 x s2 y) (fun _=>[(29,PE l a' o' e p),(12,NZ),(13,NB n)]) (fun _=>0) () trivial (fun _ _=>?_)
  refine SX.goM ?_
  try(refine SX.WP.aD ?_;refine SX.goM ?_)
  exact aM (ak.aX rfl rfl rfl) (AV0.imp.refl _) ⟨rfl,trivial⟩
 |ok n a'=>
  rw[hr]at h1 h2;have c1:=h1.ok;obtain⟨g1,g2,g3⟩:=h2;have g4:=lD n
  dsimp only
  generalize hR:jg l S s1 x s2 y (l.length+1) n a' o=R;refine CR.of ?_;refine aj.fnF func478 results478 ntmps478 rfl rfl rfl rfl (fun w0 T B E0 hB=>?_)
  refine SX.goM ?_
  try(refine SX.WP.aD ?_;refine SX.goM ?_)
  refine W.loop (fun q:ChS=>chS l S s1 x s2 y q=R∧(q.b=none→q.o=o∧m≤q.a∧q.a≤l.length∧l.length < q.a+q.f)) (fun _=>chI f s1 x s2 y) (fun q=>[(29,PS l q.a q.o q.b),(12,NZ),(13,NB q.n)]) (fun q=>match q.b with|none=>l.length+1 - q.a|some _=>0) ⟨n,a',o,none,l.length+1⟩ ⟨hR,fun _=>by dsimp only;exact⟨rfl,by omega,by omega,by omega⟩⟩ (fun q hq=>?_)
  obtain⟨qn,qa,qo,qb,qf⟩:=q;obtain⟨hq1,hq2⟩:=hq
  dsimp only at hq1 hq2
  cases qb with
  |some b=>
   obtain⟨e,p⟩:=b;have c2:=dB l qa qo e p s1;have c3:=dB l qa qo e p s2;refine SX.goM ?_
   try(refine SX.WP.aD ?_;refine SX.goM ?_)
   subst hq1;exact aM (ak.aX rfl rfl rfl) (AV0.imp.refl _) ⟨rfl,trivial⟩
  |none=>
   obtain⟨rfl,b1,b2,b3⟩:=hq2 rfl;obtain⟨qf,rfl⟩:∃k,qf=k+1:=⟨qf - 1,by omega⟩
   have hq1:jg l S s1 x s2 y (qf+1) qn qa qo=R:=hq1;unfold jg at hq1;cases ht:isS l qa s1 with
   |true=>
    have c2:=dS qo hl ht;have g5:=bG ht;have h3:=hs (qa+1) qo (by omega) (by omega) ho
    have h4:=hA (qa+1) qo (by omega) (by omega)
    rw[if_pos ht]at hq1;cases hr2:S (qa+1) qo with
    |bad e p k a2 o2=>
     rw[hr2]at h3 hq1;have c3:=h3.bad;refine SX.goM ?_
     try(refine SX.WP.aD ?_;refine SX.goM ?_)
     exact W.next ⟨.mk x [] [qn,k],a2,o2,some (e,p),0⟩ ⟨hq1,fun h=>by cases h⟩ (by dsimp only;omega) 
      (by
       apply SX.St.lt0
       ·intro b h;exact SX.bU h
       ·repeat(first|exact trivial|refine⟨⟨_,rfl,SX.aG.same rfl⟩,?_⟩)
       ·exact⟨SX.ay.eq rfl rfl rfl,SX.ay.same rfl rfl,SX.ay.eq rfl (acY _ _ _) rfl,trivial⟩
       ·rfl)
    |ok k a2=>
     rw[hr2]at h3 hq1 h4;have c3:=h3.ok;obtain⟨j1,j2,j3⟩:=h4;refine SX.goM ?_
     try(refine SX.WP.aD ?_;refine SX.goM ?_)
     exact W.next ⟨.mk x [] [qn,k],a2,qo,none,qf⟩ ⟨hq1,fun h=>by dsimp only;exact⟨rfl,by omega,by omega,by omega⟩⟩ (by dsimp only;omega)
      (by
       apply SX.St.lt0
       ·intro b h;exact SX.bU h
       ·repeat(first|exact trivial|refine⟨⟨_,rfl,SX.aG.same rfl⟩,?_⟩)
       ·exact⟨SX.ay.eq rfl rfl rfl,SX.ay.same rfl rfl,SX.ay.eq rfl (acY _ _ _) rfl,trivial⟩
       ·rfl)
   |false=>
    have c2:=dI qo ht;rw[if_neg (by rw[ht];decide)]at hq1
    cases ht2:isS l qa s2 with
    |true=>
     have c4:=dS qo hl ht2;have g5:=bG ht2;have h3:=hs (qa+1) qo (by omega) (by omega) ho
     have h4:=hA (qa+1) qo (by omega) (by omega)
     rw[if_pos ht2]at hq1;cases hr2:S (qa+1) qo with
     |bad e p k a2 o2=>
      rw[hr2]at h3 hq1;have c3:=h3.bad;refine SX.goM ?_
      try(refine SX.WP.aD ?_;refine SX.goM ?_)
      exact W.next ⟨.mk y [] [qn,k],a2,o2,some (e,p),0⟩ ⟨hq1,fun h=>by cases h⟩ (by dsimp only;omega)
       (by
        apply SX.St.lt0
        ·intro b h;exact SX.bU h
        ·repeat(first|exact trivial|refine⟨⟨_,rfl,SX.aG.same rfl⟩,?_⟩)
        ·exact⟨SX.ay.eq rfl rfl rfl,SX.ay.same rfl rfl,SX.ay.eq rfl (acY _ _ _) rfl,trivial⟩
        ·rfl)
     |ok k a2=>
      rw[hr2]at h3 hq1 h4;have c3:=h3.ok;obtain⟨j1,j2,j3⟩:=h4;refine SX.goM ?_
      try(refine SX.WP.aD ?_;refine SX.goM ?_)
      exact W.next ⟨.mk y [] [qn,k],a2,qo,none,qf⟩ ⟨hq1,fun h=>by dsimp only;exact⟨rfl,by omega,by omega,by omega⟩⟩ (by dsimp only;omega)
       (by
        apply SX.St.lt0
        ·intro b h;exact SX.bU h
        ·repeat(first|exact trivial|refine⟨⟨_,rfl,SX.aG.same rfl⟩,?_⟩)
        ·exact⟨SX.ay.eq rfl rfl rfl,SX.ay.same rfl rfl,SX.ay.eq rfl (acY _ _ _) rfl,trivial⟩
        ·rfl)
    |false=>
     have c4:=dI qo ht2;rw[if_neg (by rw[ht2];decide)]at hq1
     refine SX.goM ?_
     try(refine SX.WP.aD ?_;refine SX.goM ?_)
     subst hq1;exact aM (ak.aX rfl rfl rfl) (AV0.imp.refl _) ⟨rfl,trivial⟩
theorem aes{f:FuncId}{l:List Tok}{s1 s2:List UInt8}{x y:Nat}(hs:GE f l)(a o e p:Nat):
  aj prog 478 [.ptr 29 0,bnA f,.v (str s1),.v (.int .i64 (x:Int)),.v (str s2),.v (.int .i64 (y:Int))] [(29,PE l a o e p)] ⟨rNd nd0,[(29,.ent (PE l a o e p))]⟩:=by
 have c1:=hs a o e p;have c2:=dB l a o e p s1;have c3:=dB l a o e p s2;refine aj.fnF func478 results478 ntmps478 rfl rfl rfl rfl (fun w0 T B E0 hB=>?_)
 refine SX.goM ?_
 try(refine SX.WP.aD ?_;refine SX.goM ?_)
 refine W.loop (fun _:Unit=>True) (fun _=>chI f s1 x s2 y) (fun _=>[(29,PE l a o e p),(12,NZ),(13,NB nd0)]) (fun _=>0) () trivial (fun _ _=>?_)
 refine SX.goM ?_
 try(refine SX.WP.aD ?_;refine SX.goM ?_)
 exact aM (ak.aX rfl rfl rfl) (AV0.imp.refl _) ⟨rfl,trivial⟩
theorem asZ{l:List Tok}{m:Nat}{U:Gr}(hl:l.length≤1000000)(hs:GOK 501 l m U)(hA:Adv 1 l m U):GOK 479 l m (ae6 l U):=by
 intro a o hm ha ho;have h1:CR rNd 478 [.ptr 29 0,bnA 501,.v (str [42]),.v (.int .i64 6),.v (str [47]),.v (.int .i64 7)] [] l a o (ae6 l U a o):=ahq hl hs hA hm ha ho;cases hr:ae6 l U a o with
 |bad e p n a' o'=>
  rw[hr]at h1;have c1:=h1.bad;show aj _ _ _ _ _;refine aj.fnF func479 results479 ntmps479 rfl rfl rfl rfl (fun w0 T B E0 hB=>?_)
  refine SX.goM ?_
  try(refine SX.WP.aD ?_;refine SX.goM ?_)
  exact aM (ak.aX rfl rfl rfl) (AV0.imp.refl _) ⟨rfl,trivial⟩
 |ok n a'=>
  rw[hr]at h1;have c1:=h1.ok;show aj _ _ _ _ _;refine aj.fnF func479 results479 ntmps479 rfl rfl rfl rfl (fun w0 T B E0 hB=>?_)
  refine SX.goM ?_
  try(refine SX.WP.aD ?_;refine SX.goM ?_)
  exact aM (ak.aX rfl rfl rfl) (AV0.imp.refl _) ⟨rfl,trivial⟩
theorem aq6{l:List Tok}(hs:GE 501 l):GE 479 l:=by
 intro a o e p;have c1:aj prog 478 [.ptr 29 0,bnA 501,.v (str [42]),.v (.int .i64 6),.v (str [47]),.v (.int .i64 7)] [(29,PE l a o e p)] ⟨rNd nd0,[(29,.ent (PE l a o e p))]⟩:=aes hs a o e p;refine aj.fnF func479 results479 ntmps479 rfl rfl rfl rfl (fun w0 T B E0 hB=>?_)
 refine SX.goM ?_
 try(refine SX.WP.aD ?_;refine SX.goM ?_)
 exact aM (ak.aX rfl rfl rfl) (AV0.imp.refl _) ⟨rfl,trivial⟩
theorem g_sum{l:List Tok}{m:Nat}{U:Gr}(hl:l.length≤1000000)(hs:GOK 479 l m (ae6 l U))(hA:Adv 1 l m U):GOK 450 l m (nN l U):=by
 intro a o hm ha ho;have h1:CR rNd 478 [.ptr 29 0,bnA 479,.v (str [43]),.v (.int .i64 4),.v (str [45]),.v (.int .i64 5)] [] l a o (nN l U a o):=ahq hl hs (zH hA) hm ha ho;cases hr:nN l U a o with
 |bad e p n a' o'=>
  rw[hr]at h1;have c1:=h1.bad;show aj _ _ _ _ _;refine aj.fnF func450 results450 ntmps450 rfl rfl rfl rfl (fun w0 T B E0 hB=>?_)
  refine SX.goM ?_
  try(refine SX.WP.aD ?_;refine SX.goM ?_)
  exact aM (ak.aX rfl rfl rfl) (AV0.imp.refl _) ⟨rfl,trivial⟩
 |ok n a'=>
  rw[hr]at h1;have c1:=h1.ok;show aj _ _ _ _ _;refine aj.fnF func450 results450 ntmps450 rfl rfl rfl rfl (fun w0 T B E0 hB=>?_)
  refine SX.goM ?_
  try(refine SX.WP.aD ?_;refine SX.goM ?_)
  exact aM (ak.aX rfl rfl rfl) (AV0.imp.refl _) ⟨rfl,trivial⟩
theorem at6{l:List Tok}(hs:GE 479 l):GE 450 l:=by
 intro a o e p;have c1:aj prog 478 [.ptr 29 0,bnA 479,.v (str [43]),.v (.int .i64 4),.v (str [45]),.v (.int .i64 5)] [(29,PE l a o e p)] ⟨rNd nd0,[(29,.ent (PE l a o e p))]⟩:=aes hs a o e p;refine aj.fnF func450 results450 ntmps450 rfl rfl rfl rfl (fun w0 T B E0 hB=>?_)
 refine SX.goM ?_
 try(refine SX.WP.aD ?_;refine SX.goM ?_)
 exact aM (ak.aX rfl rfl rfl) (AV0.imp.refl _) ⟨rfl,trivial⟩
def sgnB:Nat→List UInt8
 |0=>[61,61]
 |1=>[33,61]
 |2=>[60]
 |_=>[60,61]
def exI(i:Nat):List (Nat×AV):=[(0,.ptr 29 0),(2,.ptr 2 0),(3,.ptr 3 0),(8,.agg [.c (.val (str [61,61])),.c (.val (str [33,61])),.c (.val (str [60])),.c (.val (str [60,61]))]),(9,.v (.int .i64 (i:Int)))]
theorem arR{l:List Tok}(hs:GE 450 l):GE 388 l:=by
 intro a o e p;have c1:=hs a o e p;have k0:=dB l a o e p [61,61];have k1:=dB l a o e p [33,61];have k2:=dB l a o e p [60];have k3:=dB l a o e p [60,61];refine aj.fnF func388 results388 ntmps388 rfl rfl rfl rfl (fun w0 T B E0 hB=>?_)
 refine SX.goM ?_
 try(refine SX.WP.aD ?_;refine SX.goM ?_)
 refine W.loop (fun i=>i≤4) exI (fun _=>[(29,PE l a o e p),(2,NZ),(3,NB nd0)]) (fun i=>4 - i) 0 (by omega) (fun i hi=>?_)
 match i,hi with
 |0,_=>
  refine SX.goM ?_
  try(refine SX.WP.aD ?_;refine SX.goM ?_)
  exact W.next 1 (by omega) (by omega)
 |1,_=>
  refine SX.goM ?_
  try(refine SX.WP.aD ?_;refine SX.goM ?_)
  exact W.next 2 (by omega) (by omega)
 |2,_=>
  refine SX.goM ?_
  try(refine SX.WP.aD ?_;refine SX.goM ?_)
  exact W.next 3 (by omega) (by omega)
 |3,_=>
  refine SX.goM ?_
  try(refine SX.WP.aD ?_;refine SX.goM ?_)
  exact W.next 4 (by omega) (by omega)
 |4,_=>
  refine SX.goM ?_
  try(refine SX.WP.aD ?_;refine SX.goM ?_)
  exact aM (ak.aX rfl rfl rfl) (AV0.imp.refl _) ⟨rfl,trivial⟩
 |i+5,h=>omega
def exT(l:List Tok)(U:Gr)(n:Nd)(a o:Nat):Nat→Res
 |0=> .ok n a
 |k+1=>if isS l a (sgnB (3 - k))then iH (fun m=> .mk ((12 - k:Nat):Int) [] [n,m]) (nN l U (a+1) o)else exT l U n a o k
theorem aiQ{l:List Tok}{U:Gr}{n:Nd}{a o k:Nat}{R:Res}{s:List UInt8}(h:exT l U n a o (k+1)=R)(hs:sgnB (3 - k)=s)(ht:isS l a s=true):iH (fun m=> .mk ((12 - k:Nat):Int) [] [n,m]) (nN l U (a+1) o)=R:=by
 subst hs;unfold exT at h;rwa [if_pos ht]at h
theorem ai9{l:List Tok}{U:Gr}{n:Nd}{a o k:Nat}{R:Res}{s:List UInt8}(h:exT l U n a o (k+1)=R)(hs:sgnB (3 - k)=s)(ht:isS l a s=false):exT l U n a o k=R:=by
 subst hs;unfold exT at h;rwa [if_neg (by rw[ht];decide)]at h
theorem g_exp{l:List Tok}{m:Nat}{U:Gr}(hl:l.length≤1000000)(hs:GOK 450 l m (nN l U))(hA:Adv 1 l m U):GOK 388 l m (aaW l U):=by
 intro a o hm ha ho;have h1:=hs a o hm ha ho;have h2:=adK hA a o hm ha;unfold aaW;cases hr:nN l U a o with
 |bad e p n a' o'=>
  rw[hr]at h1;have c1:=h1.bad;show aj _ _ _ _ _;have k0:=dB l a' o' e p [61,61];have k1:=dB l a' o' e p [33,61];have k2:=dB l a' o' e p [60];have k3:=dB l a' o' e p [60,61];refine aj.fnF func388 results388 ntmps388 rfl rfl rfl rfl (fun w0 T B E0 hB=>?_)
  refine SX.goM ?_
  try(refine SX.WP.aD ?_;refine SX.goM ?_)
  refine W.loop (fun i=>i≤4) exI (fun _=>[(29,PE l a' o' e p),(2,NZ),(3,NB n)]) (fun i=>4 - i) 0 (by omega) (fun i hi=>?_)
  match i,hi with
  |0,_=>
   refine SX.goM ?_
   try(refine SX.WP.aD ?_;refine SX.goM ?_)
   exact W.next 1 (by omega) (by omega)
  |1,_=>
   refine SX.goM ?_
   try(refine SX.WP.aD ?_;refine SX.goM ?_)
   exact W.next 2 (by omega) (by omega)
  |2,_=>
   refine SX.goM ?_
   try(refine SX.WP.aD ?_;refine SX.goM ?_)
   exact W.next 3 (by omega) (by omega)
  |3,_=>
   refine SX.goM ?_
   try(refine SX.WP.aD ?_;refine SX.goM ?_)
   exact W.next 4 (by omega) (by omega)
  |4,_=>
   refine SX.goM ?_
   try(refine SX.WP.aD ?_;refine SX.goM ?_)
   exact aM (ak.aX rfl rfl rfl) (AV0.imp.refl _) ⟨rfl,trivial⟩
  |i+5,h=>omega
 |ok n a'=>
  rw[hr]at h1 h2;have c1:=h1.ok;obtain⟨g1,g2,g3⟩:=h2;have key:∀R,exT l U n a' o 4=R→CR rNd 388 [.ptr 29 0] [] l a o R:=by
   intro R hR;refine CR.of ?_;refine aj.fnF func388 results388 ntmps388 rfl rfl rfl rfl (fun w0 T B E0 hB=>?_)
   refine SX.goM ?_
   try(refine SX.WP.aD ?_;refine SX.goM ?_)
   refine W.loop (fun i=>i≤4∧exT l U n a' o (4 - i)=R) exI (fun _=>[(29,PG l a' o),(2,NZ),(3,NB n)]) (fun i=>4 - i) 0 ⟨by omega,hR⟩ (fun i hi=>?_)
   match i,hi with
   |0,⟨_,hq⟩=>
    have hq:exT l U n a' o (3+1)=R:=hq;cases ht:isS l a' [61,61]with
    |true=>
     have hq:=aiQ hq rfl ht;have k0:=dS o hl ht;have g5:=bG ht;have h3:=hs (a'+1) o (by omega) (by omega) ho
     cases hr2:nN l U (a'+1) o with
     |bad e p k a2 o2=>
      rw[hr2]at h3 hq;have c3:=h3.bad;refine SX.goM ?_
      try(refine SX.WP.aD ?_;refine SX.goM ?_)
      subst hq;exact aM (ak.aX rfl rfl rfl) (bD rfl rfl rfl (by first|(simp only[List.flatMap_cons,List.flatMap_nil,aH,List.append_nil];done)|(simp only[List.flatMap_cons,List.flatMap_nil,aH,List.append_nil];rfl))) ⟨rfl,trivial⟩
     |ok k a2=>
      rw[hr2]at h3 hq;have c3:=h3.ok;refine SX.goM ?_
      try(refine SX.WP.aD ?_;refine SX.goM ?_)
      subst hq;exact aM (ak.aX rfl rfl rfl) (bD rfl rfl rfl (by first|(simp only[List.flatMap_cons,List.flatMap_nil,aH,List.append_nil];done)|(simp only[List.flatMap_cons,List.flatMap_nil,aH,List.append_nil];rfl))) ⟨rfl,trivial⟩
    |false=>
     have hq:=ai9 hq rfl ht;have k0:=dI o ht;refine SX.goM ?_
     try(refine SX.WP.aD ?_;refine SX.goM ?_)
     exact W.next 1 ⟨by omega,hq⟩ (by omega)
   |1,⟨_,hq⟩=>
    have hq:exT l U n a' o (2+1)=R:=hq;cases ht:isS l a' [33,61]with
    |true=>
     have hq:=aiQ hq rfl ht;have k0:=dS o hl ht;have g5:=bG ht;have h3:=hs (a'+1) o (by omega) (by omega) ho
     cases hr2:nN l U (a'+1) o with
     |bad e p k a2 o2=>
      rw[hr2]at h3 hq;have c3:=h3.bad;refine SX.goM ?_
      try(refine SX.WP.aD ?_;refine SX.goM ?_)
      subst hq;exact aM (ak.aX rfl rfl rfl) (bD rfl rfl rfl (by first|(simp only[List.flatMap_cons,List.flatMap_nil,aH,List.append_nil];done)|(simp only[List.flatMap_cons,List.flatMap_nil,aH,List.append_nil];rfl))) ⟨rfl,trivial⟩
     |ok k a2=>
      rw[hr2]at h3 hq;have c3:=h3.ok;refine SX.goM ?_
      try(refine SX.WP.aD ?_;refine SX.goM ?_)
      subst hq;exact aM (ak.aX rfl rfl rfl) (bD rfl rfl rfl (by first|(simp only[List.flatMap_cons,List.flatMap_nil,aH,List.append_nil];done)|(simp only[List.flatMap_cons,List.flatMap_nil,aH,List.append_nil];rfl))) ⟨rfl,trivial⟩
    |false=>
     have hq:=ai9 hq rfl ht;have k0:=dI o ht;refine SX.goM ?_
     try(refine SX.WP.aD ?_;refine SX.goM ?_)
     exact W.next 2 ⟨by omega,hq⟩ (by omega)
   |2,⟨_,hq⟩=>
    have hq:exT l U n a' o (1+1)=R:=hq;cases ht:isS l a' [60]with
    |true=>
     have hq:=aiQ hq rfl ht;have k0:=dS o hl ht;have g5:=bG ht;have h3:=hs (a'+1) o (by omega) (by omega) ho
     cases hr2:nN l U (a'+1) o with
     |bad e p k a2 o2=>
      rw[hr2]at h3 hq;have c3:=h3.bad;refine SX.goM ?_
      try(refine SX.WP.aD ?_;refine SX.goM ?_)
      subst hq;exact aM (ak.aX rfl rfl rfl) (bD rfl rfl rfl (by first|(simp only[List.flatMap_cons,List.flatMap_nil,aH,List.append_nil];done)|(simp only[List.flatMap_cons,List.flatMap_nil,aH,List.append_nil];rfl))) ⟨rfl,trivial⟩
     |ok k a2=>
      rw[hr2]at h3 hq;have c3:=h3.ok;refine SX.goM ?_
      try(refine SX.WP.aD ?_;refine SX.goM ?_)
      subst hq;exact aM (ak.aX rfl rfl rfl) (bD rfl rfl rfl (by first|(simp only[List.flatMap_cons,List.flatMap_nil,aH,List.append_nil];done)|(simp only[List.flatMap_cons,List.flatMap_nil,aH,List.append_nil];rfl))) ⟨rfl,trivial⟩
    |false=>
     have hq:=ai9 hq rfl ht;have k0:=dI o ht;refine SX.goM ?_
     try(refine SX.WP.aD ?_;refine SX.goM ?_)
     exact W.next 3 ⟨by omega,hq⟩ (by omega)
   |3,⟨_,hq⟩=>
    have hq:exT l U n a' o (0+1)=R:=hq;cases ht:isS l a' [60,61]with
    |true=>
     have hq:=aiQ hq rfl ht;have k0:=dS o hl ht;have g5:=bG ht;have h3:=hs (a'+1) o (by omega) (by omega) ho
     cases hr2:nN l U (a'+1) o with
     |bad e p k a2 o2=>
      rw[hr2]at h3 hq;have c3:=h3.bad;refine SX.goM ?_
      try(refine SX.WP.aD ?_;refine SX.goM ?_)
      subst hq;exact aM (ak.aX rfl rfl rfl) (bD rfl rfl rfl (by first|(simp only[List.flatMap_cons,List.flatMap_nil,aH,List.append_nil];done)|(simp only[List.flatMap_cons,List.flatMap_nil,aH,List.append_nil];rfl))) ⟨rfl,trivial⟩
     |ok k a2=>
      rw[hr2]at h3 hq;have c3:=h3.ok;refine SX.goM ?_
      try(refine SX.WP.aD ?_;refine SX.goM ?_)
      subst hq;exact aM (ak.aX rfl rfl rfl) (bD rfl rfl rfl (by first|(simp only[List.flatMap_cons,List.flatMap_nil,aH,List.append_nil];done)|(simp only[List.flatMap_cons,List.flatMap_nil,aH,List.append_nil];rfl))) ⟨rfl,trivial⟩
    |false=>
     have hq:=ai9 hq rfl ht;have k0:=dI o ht;refine SX.goM ?_
     try(refine SX.WP.aD ?_;refine SX.goM ?_)
     exact W.next 4 ⟨by omega,hq⟩ (by omega)
   |4,⟨_,hq⟩=>
    refine SX.goM ?_
    try(refine SX.WP.aD ?_;refine SX.goM ?_)
    subst hq;exact aM (ak.aX rfl rfl rfl) (AV0.imp.refl _) ⟨rfl,trivial⟩
   |i+5,⟨h,_⟩=>omega
  exact key _ rfl
theorem ar3{P:Program}{C:Ctx}{st:St}{t:Tmp}{l:List (Nat×Slot)}{n:Nat}{cells:List CA}{ks:List Nd}(hh:abh st l)(h:st.tm t=some (.r (aL 3 n cells)):=by rfl)(hn:n=ks.length:=by first|rfl|(simp[Res.nd,Nd.kids];done))(hc:cells=ks.flatMap ndC:=by first|rfl|exact bF (aH _).symm):aN C P [.tmp t] ⟨.r (aA 3 ndC ks),l⟩ st:=by
 subst hn hc;exact gI (xs:=[.one (.c (.sat (aA 3 ndC ks)))]) ⟨ak.tmp h,trivial⟩ hh
theorem retK0{P:Program}{C:Ctx}{st:St}{t:Tmp}{l:List (Nat×Slot)}(hh:abh st l)(h:st.tm t=some (.v (.slice none 0 0)):=by rfl):aN C P [.tmp t] ⟨.r (aA 3 ndC []),l⟩ st:=
 gI (xs:=[.one (.c (.sat (aA 3 ndC [])))]) ⟨(ak.tmp h).imp imp_nil,trivial⟩ hh
structure LiS where
 ks:List Nd
 a:Nat
 o:Nat
 b:Option (Nat×Nat)
 f:Nat
def liS(l:List Tok)(X:Gr)(e:List UInt8)(q:LiS):Res:=match q.b with
 |none=>qx l X e q.f q.ks q.a q.o
 |some (e,p)=> .bad e p (.mk 0 [] q.ks) q.a q.o
abbrev NR(ks:List Nd):Ent:= .row 341 3 ks.length (ks.flatMap ndC)
theorem alv{l:List Tok}{m:Nat}{X:Gr}{e:List UInt8}(hl:l.length≤1000000)(hs:GOK 388 l m X)(hA:Adv 1 l m X){a o:Nat}(hm:m≤a)(ha:a≤l.length)(ho:o≤600):
  CR rKs 575 [.ptr 29 0,.v (str e)] [] l a o (jD l X e a o):=by
 unfold jD;cases h0:isS l a e with
 |true=>
  rw[if_pos rfl];have c0:=dS o hl h0;show aj _ _ _ _ _;refine aj.fnF func575 results575 ntmps575 rfl rfl rfl rfl (fun w0 T B E0 hB=>?_)
  refine SX.goM ?_;exact retK0 ⟨rfl,trivial⟩
 |false=>
  rw[if_neg (by decide)]
  have c0:=dI o h0;generalize hR:qx l X e (l.length+1) [] a o=R;refine CR.of ?_;refine aj.fnF func575 results575 ntmps575 rfl rfl rfl rfl (fun w0 T B E0 hB=>?_)
  refine SX.goM ?_;refine W.loop (fun q:LiS=>liS l X e q=R∧(q.b=none→q.o=o∧m≤q.a∧q.a≤l.length∧l.length < q.a+q.f∧q.ks.length≤q.a)) (fun _=>[(0,.ptr 29 0),(1,.v (str e)),(5,.own 100)]) (fun q=>[(29,PS l q.a q.o q.b),(100,NR q.ks)]) (fun q=>match q.b with|none=>l.length+1 - q.a|some _=>0) ⟨[],a,o,none,l.length+1⟩ ⟨hR,fun _=>by dsimp only;exact⟨rfl,by omega,by omega,by omega,Nat.zero_le _⟩⟩ (fun q hq=>?_)
  obtain⟨qk,qa,qo,qb,qf⟩:=q;obtain⟨hq1,hq2⟩:=hq
  dsimp only at hq1 hq2
  cases qb with
  |some b=>
   obtain⟨ee,p⟩:=b;show WP _ _ _ (fD [(0,.ptr 29 0),(1,.v (str e)),(5,.own 100)] [(29,PE l qa qo ee p),(100,NR qk)]) _;refine SX.goM ?_;subst hq1;refine aN.pF 100 (ps:=[29]) ?_;exact ar3 ⟨rfl,trivial⟩
  |none=>
   obtain⟨rfl,b1,b2,b3,b4⟩:=hq2 rfl;obtain⟨qf,rfl⟩:∃k,qf=k+1:=⟨qf - 1,by omega⟩
   show WP _ _ _ (fD [(0,.ptr 29 0),(1,.v (str e)),(5,.own 100)] [(29,PG l qa qo),(100,NR qk)]) _;have hq1:qx l X e (qf+1) qk qa qo=R:=hq1;unfold qx at hq1;have h3:=hs qa qo (by omega) (by omega) ho
   have h4:=hA qa qo (by omega) (by omega)
   cases hr2:X qa qo with
   |bad c p k a2 o2=>
    rw[hr2]at h3 hq1;have c3:=h3.bad;have c4:=dB l a2 o2 c p e;have c5:=je l a2 o2 c p [44];refine SX.goM ?_;exact W.next ⟨qk++[k],a2,o2,some (c,p),0⟩ ⟨hq1,fun h=>by cases h⟩ (by dsimp only;omega)
     (by
      apply SX.St.lt1
      ·intro b h;exact SX.bU h
      ·repeat(first|exact trivial|refine⟨⟨_,rfl,SX.aG.same rfl⟩,?_⟩|refine⟨⟨_,rfl,SX.aG.own rfl⟩,?_⟩)
      ·exact⟨SX.ay.eq rfl rfl rfl,SX.ay.row rfl rfl (by simp) (bF (aH _).symm),trivial⟩
      ·rfl)
   |ok k a2=>
    rw[hr2]at h3 hq1 h4;have c3:=h3.ok;obtain⟨j1,j2,j3⟩:=h4;have j4:=lD k
    dsimp only at hq1
    cases ht:isS l a2 e with
    |true=>
     have c4:=dS qo hl ht;rw[if_pos ht]at hq1;refine SX.goM ?_;subst hq1;refine aN.pF 18 (ps:=[29]) ?_;exact ar3 ⟨rfl,trivial⟩
    |false=>
     have c4:=dI qo ht;rw[if_neg (by rw[ht];decide)]at hq1
     cases ht2:isS l a2 [44]with
     |true=>
      have c5:=jJ qo hl ht2;have g5:=bG ht2;rw[if_pos ht2]at hq1;refine SX.goM ?_;exact W.next ⟨qk++[k],a2+1,qo,none,qf⟩ ⟨hq1,fun h=>by dsimp only;exact⟨rfl,by omega,by omega,by omega,by simp;omega⟩⟩ (by dsimp only;omega)
       (by
        apply SX.St.lt1
        ·intro b h;exact SX.bU h
        ·repeat(first|exact trivial|refine⟨⟨_,rfl,SX.aG.same rfl⟩,?_⟩|refine⟨⟨_,rfl,SX.aG.own rfl⟩,?_⟩)
        ·exact⟨SX.ay.eq rfl rfl rfl,SX.ay.row rfl rfl (by simp) (bF (aH _).symm),trivial⟩
        ·rfl)
     |false=>
      have c5:=kQ qo ht2;rw[if_neg (by rw[ht2];decide)]at hq1
      refine SX.goM ?_;exact W.next ⟨qk++[k],a2,qo,some (4,a2),0⟩ ⟨hq1,fun h=>by cases h⟩ (by dsimp only;omega)
       (by
        apply SX.St.lt1
        ·intro b h;exact SX.bU h
        ·repeat(first|exact trivial|refine⟨⟨_,rfl,SX.aG.same rfl⟩,?_⟩|refine⟨⟨_,rfl,SX.aG.own rfl⟩,?_⟩)
        ·exact⟨SX.ay.eq rfl rfl rfl,SX.ay.row rfl rfl (by simp) (bF (aH _).symm),trivial⟩
        ·rfl)
end
end Go.Proofs.YtjnhnbgpifohjaaGreatDoor