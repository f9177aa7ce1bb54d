import Derived.Test.YtmgfiodmdfaclaaGreatDoorA30
import Derived.Test.YtmgfiodmdfaclaaGreatDoorA29
import Derived.Lib.Join
import Derived.Test.YtmgfiodmdfaclaaGreatDoorA8
set_option linter.unusedVariables false
set_option linter.unusedSimpArgs false
namespace Go.Proofs.YtmgfiodmdfaclaaGreatDoor
open Go.RowKit SX
section
attribute [local irreducible] IntKind.wrap Go1 Reg WP aQ aR bO bN aN aB aj ah aV Sat
section
def srt(c:UInt8):Nat:=if c.toNat=32∨c.toNat=9∨c.toNat=10∨c.toNat=13 then 1 else if 48≤c.toNat∧c.toNat≤57 then 2 else if 97≤c.toNat∧c.toNat≤122 then 3 else if c.toNat=95 then 4 else
 if 0≤Lib.indexByte [43,45,42,47,94,40,41,91,93,123,125,44,59,61,60,33,46] c then 5 else 0
abbrev ixL(l:List UInt8)(c:UInt8):Int:=Lib.indexByte l c
theorem aaJ(b:UInt8)(l:List UInt8)(c:UInt8):ixL (b::l) c=if b=c then 0 else if ixL l c= -1 then -1 else ixL l c+1:=by
 have e:ixL (b::l) c=if b==c then 0 else if ixL l c== -1 then -1 else ixL l c+1:=rfl
 rw[e];simp only[beq_iff_eq]
theorem aqM(l:List UInt8)(c:UInt8):0≤ixL l c↔c∈l:=by
 induction l with
 |nil=>simp[ixL,Lib.indexByte]
 |cons b l ih=>
  have hg: -1≤ixL l c:=Lib.indexByte_ge l c;rw[aaJ,List.mem_cons,←ih];generalize ixL l c=z at*;by_cases h:b=c
  ·subst h;simp
  ·have hc:¬c=b:=fun e=>h e.symm
   simp only[hc,false_or,h,if_false]
   split <;> omega
theorem alP{f:FuncId}{args:List Value}{r:Value}(he:∃fn,Tryz.prog.funcs[f]? =some fn∧(fn.name== "runtime.NumGoroutine")=false∧fn.body.isNone=false)(h:∀w,Calls Tryz.prog f args.toArray w fun e w'=>e= .returned r∧w'=w):PureOK Tryz.prog f (args.map AV.v) (.v r):=
 PureOK.gX he rfl fun E S w vs hl hv=>by
  have hvs:vs=args:=by
   clear h
   induction args generalizing vs with
   |nil=>cases vs with|nil=>rfl|cons _ _=>exact hv.elim
   |cons a l ih=>cases vs with|nil=>exact hv.elim|cons b m=>rw[ih m hv.2,show b=a from hv.1]
  subst hvs;exact(h w).mono fun e w' ⟨h1,h2⟩=>⟨r,h1,rfl,by subst h2;exact Off.refl _ _⟩
instance ab6(l:List UInt8)(c:UInt8):Con Tryz.prog 115 [.v (str l),.v (.int .u8 (c.toNat:Int))] True (.v (.int .i64 (ixL l c))):=⟨fun _=>
 alP (args:=[str l,.int .u8 (c.toNat:Int)]) ⟨_,Tryz.func115,rfl,rfl⟩ fun w=>(Tryz.strings_IndexByte ⟨⟨l⟩⟩ (c.toNat:Int) w).mono fun e w' ⟨h1,h2⟩=>⟨by rw[h1];simp[ixL],h2⟩⟩
instance alr(l:List UInt8):Con Tryz.prog 115 [.v (str l),.v (.int .u8 10)] True (.v (.int .i64 (ixL l 10))):=ab6 l 10
instance con_sort(c:UInt8):Con Tryz.prog 114 [.v (.int .u8 (c.toNat:Int))] True (.v (.int .i64 (srt c:Int))):=⟨fun _=>by
 refine PureOK.fnF Tryz.func114 Tryz.results114 Tryz.ntmps114 rfl rfl rfl (by simp[AV.ids,AV0.ids,Atom.ids]) rfl (fun w0 T B E0 hB=>?_)
 repeat'(first|refine SX.go ?_|refine SX.W.ite (fun h=>?_) (fun h=>?_)|refine SX.W.iteN (fun h=>?_) (fun h=>?_)|refine SX.W.eY (fun h=>?_) (fun h=>?_)|refine SX.R.ite (fun h=>?_) (fun h=>?_)|refine SX.R.iteN (fun h=>?_) (fun h=>?_)|refine SX.R.eY (fun h=>?_) (fun h=>?_))
 all_goals(refine gV ?_;unfold srt;(repeat' split) <;> omega)⟩
def wrd(c:UInt8):Bool:=decide (srt c=2)||decide (srt c=3)||decide (srt c=4)
instance atd(c:UInt8):Con Tryz.prog 163 [.v (.int .u8 (c.toNat:Int))] True (.v (.bool (wrd c))):=⟨fun _=>by
 refine PureOK.fnF Tryz.func163 Tryz.results163 Tryz.ntmps163 rfl rfl rfl (by simp[AV.ids,AV0.ids,Atom.ids]) rfl (fun w0 T B E0 hB=>?_)
 repeat'(first|refine SX.go ?_|refine SX.W.ite (fun h=>?_) (fun h=>?_)|refine SX.W.iteN (fun h=>?_) (fun h=>?_)|refine SX.W.eY (fun h=>?_) (fun h=>?_)|refine SX.R.ite (fun h=>?_) (fun h=>?_)|refine SX.R.iteN (fun h=>?_) (fun h=>?_)|refine SX.R.eY (fun h=>?_) (fun h=>?_))
 all_goals(refine aG ?_;rw[Bool.eq_iff_iff];simp[wrd];omega)⟩
def run(l:List UInt8):Nat:=(l.takeWhile wrd).length
theorem amH{p:UInt8→Bool}:∀(l:List UInt8) (k:Nat),k≤(l.takeWhile p).length→k < l.length→p (byt l k)=decide (k < (l.takeWhile p).length)
 |[],k,_,h=>by simp at h
 |c::l,0,_,_=>by
  cases h:p c <;> simp[byt,List.takeWhile_cons,h]
 |c::l,k+1,h1,h2=>by
  cases h:p c
  ·simp[List.takeWhile_cons,h]at h1
  ·simp[List.takeWhile_cons,h]at h1 ⊢
   have:=amH l k h1 (by simpa using h2)
   simpa[byt]using this
theorem ao3(l:List UInt8):run l≤l.length:=(List.takeWhile_prefix _).length_le
instance con_run(l:List UInt8):Con Tryz.prog 116 [.v (str l)] (l.length≤9223372036854775807) (.v (.int .i64 (run l:Int))):=⟨fun hl=>by
 refine PureOK.fnF Tryz.func116 Tryz.results116 Tryz.ntmps116 rfl rfl rfl (by simp[AV.ids,AV0.ids,Atom.ids]) rfl (fun w0 T B E0 hB=>?_)
 refine SX.go ?_;refine W.loop (fun k=>k≤run l) (fun k=>[(0,.v (str l)),(3,.v (.int .i64 (k:Int)))]) (fun _=>[]) (fun k=>l.length - k) 0 (Nat.zero_le _) (fun k hk=>?_)
 have h1:=ao3 l;have h2:=amH (p:=wrd) l k hk
 repeat'(first|refine SX.go ?_|refine SX.W.ite (fun h=>?_) (fun h=>?_)|refine SX.W.iteN (fun h=>?_) (fun h=>?_)|refine SX.W.eY (fun h=>?_) (fun h=>?_)|refine SX.R.ite (fun h=>?_) (fun h=>?_)|refine SX.R.iteN (fun h=>?_) (fun h=>?_)|refine SX.R.eY (fun h=>?_) (fun h=>?_))
 ·exact W.next (k+1) (by rw[‹wrd _=true›]at h2;have:=of_decide_eq_true (h2 (by omega)).symm;unfold run;omega) (by omega)
 ·refine gV ?_;rw[‹wrd _=false›]at h2;have:=of_decide_eq_false (h2 (by omega)).symm;unfold run at*;omega
 ·refine gV ?_;omega⟩
instance con_two(l:List UInt8):Con Tryz.prog 119 [.v (str l)] True (.v (.bool (decide (l=[61,61]∨l=[33,61]∨l=[60,61]∨l=[46,46])))):=⟨fun hl=>by
 refine PureOK.fnF Tryz.func119 Tryz.results119 Tryz.ntmps119 rfl rfl rfl (by simp[AV.ids,AV0.ids,Atom.ids]) rfl (fun w0 T B E0 hB=>?_)
 repeat'(first|refine SX.go ?_|refine SX.W.ite (fun h=>?_) (fun h=>?_)|refine SX.W.iteN (fun h=>?_) (fun h=>?_)|refine SX.W.eY (fun h=>?_) (fun h=>?_)|refine SX.R.ite (fun h=>?_) (fun h=>?_)|refine SX.R.iteN (fun h=>?_) (fun h=>?_)|refine SX.R.eY (fun h=>?_) (fun h=>?_))
 all_goals(refine aG ?_;simp[*])⟩
def dgL(l:List UInt8):Bool:=l.all fun c=>decide (srt c=2)
def num(l:List UInt8):Bool:=decide (1≤l.length∧l.length≤2000∧(l.length=1∨(byt l 0).toNat≠48))&&dgL l
theorem ams(l:List UInt8)(k:Nat)(h:k < l.length):dgL (l.drop k)=(decide (srt (byt l k)=2)&&dgL (l.drop (k+1))):=by
 rw[List.drop_eq_getElem_cons h];have:byt l k=l[k]:=by simp[byt,h]
 rw[this];rfl
instance aru(l:List UInt8):Con Tryz.prog 117 [.v (str l)] (l.length≤9223372036854775807) (.v (.bool (num l))):=⟨fun hl=>by
 refine PureOK.fnF Tryz.func117 Tryz.results117 Tryz.ntmps117 rfl rfl rfl (by simp[AV.ids,AV0.ids,Atom.ids]) rfl (fun w0 T B E0 hB=>?_)
 repeat'(first|refine SX.go ?_|refine SX.W.ite (fun h=>?_) (fun h=>?_)|refine SX.W.iteN (fun h=>?_) (fun h=>?_)|refine SX.W.eY (fun h=>?_) (fun h=>?_)|refine SX.R.ite (fun h=>?_) (fun h=>?_)|refine SX.R.iteN (fun h=>?_) (fun h=>?_)|refine SX.R.eY (fun h=>?_) (fun h=>?_))
 all_goals(first|(refine aG ?_;rw[eq_comm];unfold num;rw[Bool.and_eq_false_iff];refine .inl (decide_eq_false fun hn=>?_);omega)|skip)
 all_goals
  have hb:decide (1≤l.length∧l.length≤2000∧(l.length=1∨(byt l 0).toNat≠48))=true:=decide_eq_true (by omega)
  refine W.loop (fun k=>k≤l.length∧num l=dgL (l.drop k)) (fun k=>[(0,.v (str l)),(23,.v (.int .i64 (l.length:Int))),(24,.v (.int .i64 (k:Int)))]) (fun _=>[]) (fun k=>l.length - k) 0 ⟨Nat.zero_le _,by unfold num;rw[hb];rfl⟩ (fun k ⟨hk,hn⟩=>?_)
  have hs:=ams l k
  repeat'(first|refine SX.go ?_|refine SX.W.ite (fun h=>?_) (fun h=>?_)|refine SX.W.iteN (fun h=>?_) (fun h=>?_)|refine SX.W.eY (fun h=>?_) (fun h=>?_)|refine SX.R.ite (fun h=>?_) (fun h=>?_)|refine SX.R.iteN (fun h=>?_) (fun h=>?_)|refine SX.R.eY (fun h=>?_) (fun h=>?_))
  ·refine aG ?_;rw[hn,hs (by omega),decide_eq_false (by omega)];rfl
  ·exact W.next (k+1) ⟨by omega,by rw[hn,hs (by omega),decide_eq_true (by omega)];rfl⟩ (by omega)
  ·refine aG ?_;rw[hn,List.drop_eq_nil_of_le (by omega)];rfl⟩
def nam(l:List UInt8):Bool:=decide (1≤l.length∧l.length≤30∧srt (byt l 0)=3∧run l=l.length)
instance con_name(l:List UInt8):Con Tryz.prog 118 [.v (str l)] (l.length≤9223372036854775807) (.v (.bool (nam l))):=⟨fun hl=>by
 refine PureOK.fnF Tryz.func118 Tryz.results118 Tryz.ntmps118 rfl rfl rfl (by simp[AV.ids,AV0.ids,Atom.ids]) rfl (fun w0 T B E0 hB=>?_)
 repeat'(first|refine SX.go ?_|refine SX.W.ite (fun h=>?_) (fun h=>?_)|refine SX.W.iteN (fun h=>?_) (fun h=>?_)|refine SX.W.eY (fun h=>?_) (fun h=>?_)|refine SX.R.ite (fun h=>?_) (fun h=>?_)|refine SX.R.iteN (fun h=>?_) (fun h=>?_)|refine SX.R.eY (fun h=>?_) (fun h=>?_))
 all_goals(refine aG ?_;unfold nam;first|(rw[eq_comm];exact decide_eq_true (by omega))|(rw[eq_comm];exact decide_eq_false (by omega))|(rw[decide_eq_decide];omega))⟩
def sg1(l:List UInt8):Bool:=decide (l.length=1∧byt l 0∈[43,45,42,47,94,40,41,91,93,123,125,44,59,61,60])
theorem amu{l:List UInt8}(h:l.length=1):∃c,l=[c]:=by
 match l,h with
 |[c],_=>exact⟨c,rfl⟩
instance aoT(l:List UInt8)(c:UInt8):Con Tryz.prog 164 [.v (str l),.v (str [c])] True (.v (.bool (decide (0≤ixL l c)))):=⟨fun _=>
 alP (args:=[str l,str [c]]) ⟨_,Tryz.func164,rfl,rfl⟩ fun w=>(Tryz.strings_Contains_one ⟨⟨l⟩⟩ c w).mono fun e w' ⟨h1,h2⟩=>⟨h1,h2⟩⟩
instance con_one(l:List UInt8):Con Tryz.prog 120 [.v (str l)] True (.v (.bool (sg1 l))):=⟨fun hl=>by
 by_cases h1:l.length=1
 ·obtain⟨c,rfl⟩:=amu h1;refine PureOK.fnF Tryz.func120 Tryz.results120 Tryz.ntmps120 rfl rfl rfl (by simp[AV.ids,AV0.ids,Atom.ids]) rfl (fun w0 T B E0 hB=>?_)
  repeat'(first|refine SX.go ?_|refine SX.W.ite (fun h=>?_) (fun h=>?_)|refine SX.W.iteN (fun h=>?_) (fun h=>?_)|refine SX.W.eY (fun h=>?_) (fun h=>?_)|refine SX.R.ite (fun h=>?_) (fun h=>?_)|refine SX.R.iteN (fun h=>?_) (fun h=>?_)|refine SX.R.eY (fun h=>?_) (fun h=>?_))
  all_goals(refine aG ?_;unfold sg1;rw[decide_eq_decide,aqM];simp[byt])
 ·refine PureOK.fnF Tryz.func120 Tryz.results120 Tryz.ntmps120 rfl rfl rfl (by simp[AV.ids,AV0.ids,Atom.ids]) rfl (fun w0 T B E0 hB=>?_)
  repeat'(first|refine SX.go ?_|refine SX.W.ite (fun h=>?_) (fun h=>?_)|refine SX.W.iteN (fun h=>?_) (fun h=>?_)|refine SX.W.eY (fun h=>?_) (fun h=>?_)|refine SX.R.ite (fun h=>?_) (fun h=>?_)|refine SX.R.iteN (fun h=>?_) (fun h=>?_)|refine SX.R.eY (fun h=>?_) (fun h=>?_))
  all_goals(refine aG ?_;rw[eq_comm];exact decide_eq_false (by omega))⟩
attribute [irreducible] sg1 nam num wrd srt
end
section
structure Tok where
 kind:Int
 text:List UInt8
 pos:Int
def abf(t:Tok):List CA:=[.val (.int .i64 t.kind),.val (str t.text),.val (.int .i64 t.pos)]
abbrev tokA(t:Tok):List Atom:=[.c (.val (.int .i64 t.kind)),.c (.val (str t.text)),.c (.val (.int .i64 t.pos))]
instance:dU abf 3:=⟨fun _=>rfl⟩
def fst(l:List UInt8):Tok:=
 if num (l.take (run l))then⟨1,l.take (run l),0⟩else if nam (l.take (run l))then⟨2,l.take (run l),0⟩else
 if 2≤l.length∧(l.take 2=[61,61]∨l.take 2=[33,61]∨l.take 2=[60,61]∨l.take 2=[46,46])then⟨3,l.take 2,0⟩else if sg1 (l.take 1)then⟨3,l.take 1,0⟩else⟨0,[],0⟩
instance asY(l:List UInt8):Con Tryz.prog 75 [.v (str l)] (l.length≤1000000000∧1≤l.length) (.agg (tokA (fst l))):=⟨fun⟨hl,h0⟩=>by
 have h1:=ao3 l;have h2:(l.take (run l)).length≤1000000000:=by rw[List.length_take];omega
 refine PureOK.fnF Tryz.func75 Tryz.results75 Tryz.ntmps75 rfl rfl rfl (by simp[AV.ids,AV0.ids,Atom.ids]) rfl (fun w0 T B E0 hB=>?_)
 repeat'(first|refine SX.go ?_|refine SX.W.ite (fun h=>?_) (fun h=>?_)|refine SX.W.iteN (fun h=>?_) (fun h=>?_)|refine SX.W.eY (fun h=>?_) (fun h=>?_)|refine SX.R.ite (fun h=>?_) (fun h=>?_)|refine SX.R.iteN (fun h=>?_) (fun h=>?_)|refine SX.R.eY (fun h=>?_) (fun h=>?_))
 all_goals(refine nC (aj.aT rfl rfl rfl) ?_)
 all_goals(unfold fst;first|rw[if_pos (by assumption)]|(rw[if_neg (by simp[*]),if_pos (by assumption)])|(rw[if_neg (by simp[*]),if_neg (by simp[*]),if_pos ⟨by omega,by assumption⟩])|(rw[if_neg (by simp[*]),if_neg (by simp[*]),if_neg (by omega)];first|rw[if_pos (by assumption)]|(rw[if_neg (by simp[*])];rfl))|(rw[if_neg (by simp[*]),if_neg (by simp[*]),if_neg (fun h=>by simp_all)];first|rw[if_pos (by assumption)]|(rw[if_neg (by simp[*])];rfl)))⟩
def gp:Bool→List UInt8→Nat
 |_,[]=>0
 |false,c::l=>if srt c=1 then 1+gp false l else if c.toNat=35 then 1+gp true l else 0
 |true,c::l=>if c.toNat=10 then 1+gp false l else 1+gp true l
theorem arh:∀l:List UInt8,gp true l=if ixL l 10 < 0 then l.length else(ixL l 10).toNat+1+gp false (l.drop ((ixL l 10).toNat+1))
 |[]=>by simp[gp,ixL,Lib.indexByte]
 |c::l=>by
  have ih:=arh l;have hg: -1≤ixL l 10:=Lib.indexByte_ge l 10;rw[gp,aaJ];by_cases h:c=10
  ·subst h;simp
  ·have h':¬c.toNat=10:=fun e=>h (UInt8.toNat_inj.1 e)
   rw[if_neg h',if_neg h,ih];by_cases h2:ixL l 10= -1
   ·simp[h2];omega
   ·rw[if_neg h2,if_neg (by omega),if_neg (by omega),show (ixL l 10+1).toNat=(ixL l 10).toNat+1 by omega,List.drop_succ_cons];omega
theorem arW(l:List UInt8)(c:UInt8):ixL l c < l.length:=by
 induction l with
 |nil=>simp[ixL,Lib.indexByte]
 |cons b l ih=>
  rw[aaJ,List.length_cons]
  repeat' split
  all_goals omega
theorem abY:∀(b:Bool) (l:List UInt8),gp b l≤l.length
 |_,[]=>by simp[gp]
 |false,c::l=>by
  have h1:=abY false l;have h2:=abY true l;unfold gp;repeat' split
  all_goals(simp only[List.length_cons];omega)
 |true,c::l=>by
  have h1:=abY false l;have h2:=abY true l;unfold gp;repeat' split
  all_goals(simp only[List.length_cons];omega)
instance con_gap(l:List UInt8):Con Tryz.prog 74 [.v (str l)] (l.length≤1000000000) (.v (.int .i64 (gp false l:Int))):=⟨fun hl=>by
 refine PureOK.fnF Tryz.func74 Tryz.results74 Tryz.ntmps74 rfl rfl rfl (by simp[AV.ids,AV0.ids,Atom.ids]) rfl (fun w0 T B E0 hB=>?_)
 refine SX.go ?_;refine W.loop (fun k=>k≤l.length∧gp false l=k+gp false (l.drop k)) (fun k=>[(0,.v (str l)),(3,.v (.int .i64 (k:Int)))]) (fun _=>[]) (fun k=>l.length - k) 0 ⟨Nat.zero_le _,by simp⟩ (fun k ⟨hk,hn⟩=>?_)
 have hx1:=arW (l.drop k) 10;have hx2: -1≤ixL (l.drop k) 10:=Lib.indexByte_ge _ _;have hx3:(l.drop k).length=l.length - k:=List.length_drop;have hc:k < l.length→gp false (l.drop k)=if srt (byt l k)=1 then 1+gp false (l.drop (k+1))else if(byt l k).toNat=35 then gp true (l.drop k)else 0:=fun h=>by
  have hb:byt l k=l[k]:=by simp[byt,h]
  rw[List.drop_eq_getElem_cons h,gp,gp,hb];by_cases h35:l[k].toNat=35
  ·simp[h35]
  ·simp[h35]
 have hi:=arh (l.drop k);rw[List.drop_drop]at hi
 repeat'(first|refine SX.go ?_|refine SX.W.ite (fun h=>?_) (fun h=>?_)|refine SX.W.iteN (fun h=>?_) (fun h=>?_)|refine SX.W.eY (fun h=>?_) (fun h=>?_)|refine SX.R.ite (fun h=>?_) (fun h=>?_)|refine SX.R.iteN (fun h=>?_) (fun h=>?_)|refine SX.R.eY (fun h=>?_) (fun h=>?_))
 ·rw[if_pos (by omega)]at hc
  exact W.next (k+1) ⟨by omega,by rw[hn,hc (by omega)];omega⟩ (by omega)
 ·rw[if_neg (by omega),if_pos (by omega),hi,if_pos (by omega)]at hc
  refine gV ?_;rw[hn,hc (by omega)];omega
 ·rw[if_neg (by omega),if_pos (by omega),hi,if_neg (by omega)]at hc
  exact W.next (k+((ixL (l.drop k) 10).toNat+1)) ⟨by omega,by rw[hn,hc (by omega)];omega⟩ (by omega)
 ·rw[if_neg (by omega),if_neg (by omega)]at hc
  refine gV ?_;rw[hn,hc (by omega)];omega
 ·rw[List.drop_eq_nil_of_le (by omega)]at hn
  refine gV ?_;rw[hn,gp];omega⟩
attribute [irreducible] fst gp
theorem aio(l:List UInt8):(fst l).text.length≤l.length:=by
 unfold fst
 repeat' split
 all_goals simp[List.length_take];try omega
def qO(l:List UInt8)(k:Nat):List Tok×Option Nat:=
 if h:l.length≤k then([],none)else
 if h0:(fst (l.drop k)).kind=0∨(fst (l.drop k)).text.length=0 then([],some k)else
 let r:=qO l (k+(fst (l.drop k)).text.length+gp false (l.drop (k+(fst (l.drop k)).text.length)))
 (⟨(fst (l.drop k)).kind,(fst (l.drop k)).text,k⟩::r.1,r.2)
termination_by l.length - k
decreasing_by omega
def adB(l:List UInt8):List Tok×Nat×Nat:=
 if 20000 < l.length then([],0,7)else
 match (qO l (gp false l)).2 with
 |some k=>([],k,4)
 |none=>((qO l (gp false l)).1,0,0)
abbrev tupL(r:List Tok×Nat×Nat):AV:= .tup [.one (.c (.sat (ay 3 abf r.1))),.one (.c (.val (.int .i64 (r.2.1:Int)))),.one (.c (.val (.int .i64 (r.2.2:Int))))]
theorem aql(l:List UInt8)(h:1≤l.length)(hk:(fst l).kind≠0):(fst l).text.length≠0:=by
 have hn:num []=false:=by unfold num;rfl
 have hm:nam []=false:=by unfold nam;rfl
 intro e;unfold fst at*
 split at hk
 ·rename_i h1;rw[if_pos h1]at e;rw[List.eq_nil_of_length_eq_zero (show (l.take (run l)).length=0 from e),hn]at h1;cases h1
 ·rename_i h1;rw[if_neg h1]at e
  split at hk
  ·rename_i h2;rw[if_pos h2]at e;rw[List.eq_nil_of_length_eq_zero (show (l.take (run l)).length=0 from e),hm]at h2;cases h2
  ·rename_i h2;rw[if_neg h2]at e
   split at hk
   ·rename_i h3;rw[if_pos h3]at e;have e':(l.take 2).length=0:=e;rw[List.length_take]at e';omega
   ·rename_i h3;rw[if_neg h3]at e
    split at hk
    ·rename_i h4;rw[if_pos h4]at e;have e':(l.take 1).length=0:=e;rw[List.length_take]at e';omega
    ·exact absurd rfl hk
instance aqs(l:List UInt8):Con Tryz.prog 47 [.v (str l)] (l.length≤1000000000) (tupL (adB l)):=⟨fun hl=>by
 refine PureOK.fnF Tryz.func47 Tryz.results47 Tryz.ntmps47 rfl rfl rfl (by simp[AV.ids,AV0.ids,Atom.ids]) rfl (fun w0 T B E0 hB=>?_)
 have hg:=abY false l
 repeat'(first|refine SX.go ?_|refine SX.W.ite (fun h=>?_) (fun h=>?_)|refine SX.W.iteN (fun h=>?_) (fun h=>?_)|refine SX.W.eY (fun h=>?_) (fun h=>?_)|refine SX.R.ite (fun h=>?_) (fun h=>?_)|refine SX.R.iteN (fun h=>?_) (fun h=>?_)|refine SX.R.eY (fun h=>?_) (fun h=>?_))
 ·refine wL (aj.tmp rfl) (aj.tmp rfl) (aj.tmp rfl) ?_ ?_ ?_;all_goals(unfold adB;rw[if_pos (by omega)])
  ·exact imp_nil
  all_goals exact AV0.imp.refl _
 ·refine W.om (fun(k:Nat) (ts:List Tok)=>k≤l.length∧ts.length≤k∧qO l (gp false l)=(ts++(qO l k).1,(qO l k).2))
   (fun k ts=>[(0,.v (str l)),(5,.own 100),(6,.v (.int .i64 (k:Int)))]) (fun k ts=>[(100,.row 122 3 ts.length (ts.flatMap abf))]) (fun k _=>l.length - k) (gp false l) [] ⟨hg,Nat.zero_le _,by simp⟩ (fun k ts ⟨hk,hts,hx⟩=>?_)
  have hdl:(l.drop k).length=l.length - k:=List.length_drop;have h2:=aql (l.drop k);have h3:=aio (l.drop k);have h4:=abY false (l.drop (k+(fst (l.drop k)).text.length));have hdl2:(l.drop (k+(fst (l.drop k)).text.length)).length=l.length - (k+(fst (l.drop k)).text.length):=List.length_drop;have hw:=qO.eq_1 l k
  repeat'(first|refine SX.go ?_|refine SX.W.ite (fun h=>?_) (fun h=>?_)|refine SX.W.iteN (fun h=>?_) (fun h=>?_)|refine SX.W.eY (fun h=>?_) (fun h=>?_)|refine SX.R.ite (fun h=>?_) (fun h=>?_)|refine SX.R.iteN (fun h=>?_) (fun h=>?_)|refine SX.R.eY (fun h=>?_) (fun h=>?_))
  ·rw[dif_neg (by omega),dif_pos (.inl (by assumption))]at hw
   refine wL (aj.tmp rfl) (aj.tmp rfl) (aj.tmp rfl) ?_ ?_ ?_;all_goals(unfold adB;rw[if_neg (by omega),hx,hw])
   ·exact imp_nil
   all_goals exact AV0.imp.refl _
  ·rw[dif_neg (by omega),dif_neg (by omega)]at hw
   exact W.oM (k+(fst (l.drop k)).text.length+gp false (l.drop (k+(fst (l.drop k)).text.length))) (ts++[⟨(fst (l.drop k)).kind,(fst (l.drop k)).text,k⟩]) ⟨by omega,by simp;omega,by rw[hx,hw];simp⟩ (by omega)
  ·rw[dif_pos (by omega)]at hw
   refine aN.frz 100 ?_;refine wL (aj.tmp rfl) (aj.tmp rfl) (aj.tmp rfl) ?_ ?_ ?_;all_goals(unfold adB;rw[if_neg (by omega),hx,hw])
   ·simp only[List.append_nil];exact AV0.imp.refl _
   all_goals exact AV0.imp.refl _⟩
def iF(t:Tok):Bool:=if t.kind=1 then num t.text else if t.kind=2 then nam t.text else if t.kind=3 then sg1 t.text||decide (t.text=[61,61]∨t.text=[33,61]∨t.text=[60,61]∨t.text=[46,46])else false
instance asM(t:Tok):Con Tryz.prog 76 [.agg (tokA t)] (t.text.length≤9223372036854775807) (.v (.bool (iF t))):=⟨fun hl=>by
 refine PureOK.fnF Tryz.func76 Tryz.results76 Tryz.ntmps76 rfl rfl rfl (by simp[AV.ids,AV0.ids,Atom.ids]) rfl (fun w0 T B E0 hB=>?_)
 repeat'(first|refine SX.go ?_|refine SX.W.ite (fun h=>?_) (fun h=>?_)|refine SX.W.iteN (fun h=>?_) (fun h=>?_)|refine SX.W.eY (fun h=>?_) (fun h=>?_)|refine SX.R.ite (fun h=>?_) (fun h=>?_)|refine SX.R.iteN (fun h=>?_) (fun h=>?_)|refine SX.R.eY (fun h=>?_) (fun h=>?_))
 all_goals(refine aG ?_;simp[iF, *])⟩
def joinR(ts:List Tok):List UInt8×Nat:=
 if ts.all iF then(if 20001 < min 40000 (ts.foldl (fun n t=>min (n+t.text.length+1) 40000) 0)then([],7)else(Lib.join (ts.map (·.text)) [32],0))else([],1)
attribute [irreducible] adB joinR iF
end
section
theorem srt2(c:UInt8):srt c=2↔48≤c.toNat∧c.toNat≤57:=by
 unfold srt;(repeat' split) <;> omega
theorem srt3(c:UInt8):srt c=3↔97≤c.toNat∧c.toNat≤122:=by
 unfold srt;(repeat' split) <;> omega
theorem ap6(l:List UInt8):num l=(decide (1≤l.length∧l.length≤2000∧(l.length=1∨(byt l 0).toNat≠48))&&l.all fun c=>decide (srt c=2)):=by unfold num;rfl
theorem ahL:∀l:List UInt8,run l=l.length↔l.all wrd=true
 |[]=>by simp[run]
 |c::l=>by
  have ih:=ahL l;unfold run at*;cases h:wrd c
  ·simp[List.takeWhile_cons,h]
  ·simp[List.takeWhile_cons,h,ih]
theorem apx(l:List UInt8):nam l=(decide (1≤l.length∧l.length≤30∧srt (byt l 0)=3)&&l.all wrd):=by
 have:=ahL l;unfold nam;rw[Bool.eq_iff_iff];simp[this];simp[←and_assoc]
def sgt(l:List UInt8):Bool:=sg1 l||decide (l=[61,61]∨l=[33,61]∨l=[60,61]∨l=[46,46])
theorem aiB(l:List UInt8):sg1 l=true↔∃c,l=[c]∧c∈[43,45,42,47,94,40,41,91,93,123,125,44,59,61,60]:=by
 unfold sg1;rw[decide_eq_true_iff];constructor
 ·rintro⟨h1,h2⟩;obtain⟨c,rfl⟩:=amu h1;exact⟨c,rfl,by simpa[byt]using h2⟩
 ·rintro⟨c,rfl,h⟩;exact⟨rfl,by simpa[byt]using h⟩
theorem aif(l:List UInt8):sgt l=true↔(∃c,l=[c]∧c∈[43,45,42,47,94,40,41,91,93,123,125,44,59,61,60])∨(l=[61,61]∨l=[33,61]∨l=[60,61]∨l=[46,46]):=by
 unfold sgt;rw[Bool.or_eq_true,aiB,decide_eq_true_iff]
theorem aeW(t:Tok):iF t=if t.kind=1 then num t.text else if t.kind=2 then nam t.text else if t.kind=3 then sgt t.text else false:=by unfold iF sgt;rfl
attribute [irreducible] sgt
end
end
section
theorem apS(l:List UInt8):(fst l).text=l.take (fst l).text.length:=by
 have key:∀n:Nat,l.take n=l.take (l.take n).length:=fun n=>by
  rw[List.length_take,List.take_eq_take_iff];omega
 unfold fst
 repeat' split
 all_goals first|exact key _|simp
theorem apo(l:List UInt8)(h:(fst l).kind≠0)(p:Int):iF ⟨(fst l).kind,(fst l).text,p⟩=true:=by
 rw[aeW];unfold fst at*
 repeat' split at h
 all_goals first|exact absurd rfl h|skip
 ·rename_i h1;rw[if_pos h1];exact h1
 ·rename_i h1 h2;rw[if_neg h1,if_pos h2];exact h2
 ·rename_i h1 h2 h3;rw[if_neg h1,if_neg h2,if_pos h3];show sgt _=true;rw[aif];exact .inr h3.2
 ·rename_i h1 h2 h3 h4;rw[if_neg h1,if_neg h2,if_neg h3,if_pos h4];show sgt _=true;rw[aif];exact .inl ((aiB _).1 h4)
theorem abR{l:List UInt8}(h:num l=true):l.all wrd=true∧∃c m,l=c::m∧srt c=2:=by
 rw[ap6,Bool.and_eq_true,decide_eq_true_iff]at h;obtain⟨h1,h2⟩:=h;refine⟨?_,?_⟩
 ·rw[List.all_eq_true]at*;intro c hc;have:=h2 c hc;unfold wrd;rw[this];rfl
 ·match l,h1 with
  |c::m,_=>exact⟨c,m,rfl,by simpa using(List.all_eq_true.1 h2) c (by simp)⟩
theorem acC{l:List UInt8}(h:nam l=true):l.all wrd=true∧∃c m,l=c::m∧srt c=3:=by
 rw[apx,Bool.and_eq_true,decide_eq_true_iff]at h;obtain⟨h1,h2⟩:=h;refine⟨h2,?_⟩
 match l,h1 with
 |c::m,h1=>exact⟨c,m,rfl,by simpa[byt]using h1.2.2⟩
def okP(l:List UInt8):Nat→List Tok→Prop
 |_,[]=>True
 |n,t::ts=>∃p:Nat,t.pos=p∧n≤p∧t.text≠[]∧p+t.text.length≤l.length∧(l.drop p).take t.text.length=t.text∧okP l (p+t.text.length) ts
theorem ao6(l:List UInt8){m n:Nat}(h:m≤n):∀ts,okP l n ts→okP l m ts
 |[],_=>trivial
 |t::ts,⟨p,h1,h2,h3⟩=>⟨p,h1,by omega,h3⟩
theorem aiw(l:List UInt8)(k:Nat):okP l k (qO l k).1∧((qO l k).1).all iF=true∧((qO l k).1.map fun t=>t.text.length+1).sum≤2*(l.length - k):=by
 rw[qO.eq_1];have hlen:(l.drop k).length=l.length - k:=List.length_drop;have h3:=aio (l.drop k)
 split
 ·exact⟨trivial,rfl,by simp⟩
 ·rename_i hk
  split
  ·exact⟨trivial,rfl,by simp⟩
  ·rename_i hf;have ih:=aiw l (k+(fst (l.drop k)).text.length+gp false (l.drop (k+(fst (l.drop k)).text.length)));refine⟨⟨k,rfl,Nat.le_refl _,fun e=>?_,?_,?_,ao6 l (by show k+(fst (l.drop k)).text.length≤_;omega) _ ih.1⟩,?_,?_⟩
   ·have e':(fst (l.drop k)).text=[]:=e;rw[e']at hf;simp at hf
   ·show k+(fst (l.drop k)).text.length≤_;omega
   ·exact(apS (l.drop k)).symm
   ·rw[List.all_cons,ih.2.1,apo _ (fun e=>hf (.inl e))];rfl
   ·rw[List.map_cons,List.sum_cons];show (fst (l.drop k)).text.length+1+_≤_;have:=ih.2.2;have h4:(fst (l.drop k)).text.length≠0:=fun e=>hf (.inr e)
    omega
termination_by l.length - k
decreasing_by omega
section
inductive Nd where
 |mk (op:Int) (text:List UInt8) (kids:List Nd)
def Nd.op:Nd→Int| .mk o _ _=>o
def Nd.text:Nd→List UInt8| .mk _ t _=>t
def Nd.kids:Nd→List Nd| .mk _ _ k=>k
mutual
def ndC:Nd→List CA
 | .mk o t ks=>[.val (.int .i64 o),.val (str t),.sat (aI 3 ks.length (ndL ks))]
def ndL:List Nd→List CA
 |[]=>[]
 |k::ks=>ndC k++ndL ks
end
theorem amq:∀ks:List Nd,ndL ks=ks.flatMap ndC
 |[]=>by rw[ndL];rfl
 |k::ks=>by rw[ndL,amq ks,List.flatMap_cons]
theorem amv(o:Int)(t:List UInt8)(ks:List Nd):ndC (.mk o t ks)=[.val (.int .i64 o),.val (str t),.sat (ay 3 ndC ks)]:=by
 rw[ndC,amq]
theorem aF(n:Nd):ndC n=[.val (.int .i64 n.op),.val (str n.text),.sat (ay 3 ndC n.kids)]:=by
 cases n;exact amv _ _ _
instance:agC ndC:=⟨fun n=>by rw[aF];rfl⟩
abbrev ndA(n:Nd):List Atom:=[.c (.val (.int .i64 n.op)),.c (.val (str n.text)),.c (.sat (ay 3 ndC n.kids))]
abbrev PB(l:List Tok)(a o:Nat)(bad:Nat)(has:Bool)(tq:Nat):Ent:= .box 127 [.c (.sat (ay 3 abf l)),.c (.val (.int .i64 (a:Int))),.c (.val (.int .i64 (o:Int))),.c (.val (.int .i64 (bad:Int))),.c (.val (.bool has)),.c (.val (.int .i64 (tq:Int)))]
def ownB(s:List UInt8):Bool:=decide (s=[105,102])||decide (s=[101,108,115,101])||decide (s=[102,111,114])
def isS(l:List Tok)(a:Nat)(s:List UInt8):Bool:=match l[a]? with
 |some t=>!decide (t.kind=1)&&decide (t.text=s)
 |none=>false
def nA(l:List Tok)(a:Nat):Bool:=match l[a]? with
 |some t=>decide (t.kind=2)&&!ownB t.text
 |none=>false
attribute [local irreducible] IntKind.wrap Go1 Reg WP aQ aR bO bN aN aB aj ah aV Sat
theorem al7(s:List UInt8):PureOK Tryz.prog 170 [.v (str s)] (.v (.bool (ownB s))):=by
 refine PureOK.fnF Tryz.func170 Tryz.results170 Tryz.ntmps170 rfl rfl rfl (by simp[AV.ids,AV0.ids,Atom.ids]) rfl (fun w0 T B E0 hB=>?_)
 repeat'(first|refine SX.goP ?_|refine SX.W.ite (fun h=>?_) (fun h=>?_)|refine SX.W.iteN (fun h=>?_) (fun h=>?_)|refine SX.W.eY (fun h=>?_) (fun h=>?_)|refine SX.R.ite (fun h=>?_) (fun h=>?_)|refine SX.R.iteN (fun h=>?_) (fun h=>?_)|refine SX.R.eY (fun h=>?_) (fun h=>?_))
 all_goals(refine aG ?_;simp[ownB, *])
abbrev PG(l:List Tok)(a o:Nat):Ent:=PB l a o 0 false 0
abbrev PE(l:List Tok)(a o e p:Nat):Ent:=PB l a o e true p
abbrev nd0:Nd:= .mk 0 [] []
theorem pF{o z:Int}{s s':List UInt8}(h:z=o)(hs:s=s'):AV0.imp (.agg [.c (.val (.int .i64 z)),.c (.val (str s)),.c (.val (.slice none 0 0))]) (.agg (ndA (.mk o s' []))):=fun E S w v hv=>by
 obtain⟨vs,rfl,hall⟩:=hv;subst h hs
 match vs,hall with
 |[a,b,c],⟨h1,h2,h3,_⟩=>exact⟨[a,b,c],rfl,h1,h2,imp_nil (size:=3) E S w c h3,trivial⟩
theorem bg{o z:Int}{s s':List UInt8}{n:Nat}{cells:List CA}{ks:List Nd}(h:z=o)(hs:s=s')(hn:n=ks.length)(hc:cells=ks.flatMap ndC):AV0.imp (.agg [.c (.val (.int .i64 z)),.c (.val (str s)),.c (.sat (aI 3 n cells))]) (.agg (ndA (.mk o s' ks))):=by
 subst h hs hn hc;exact AV0.imp.refl _
theorem aM{P:Program}{C:Ctx}{st:St}{r:ResultVar}{x y:AV0}{l:List (Nat×Slot)}(h:aj P st r x)(e:x.imp y)(hh:abD st l):aN C P [r] ⟨.it y,l⟩ st:=kT (xs:=[y]) ⟨h.imp e,trivial⟩ hh
theorem ai9(l:List Tok)(a o e p:Nat):ah Tryz.prog 205 [.ptr 29 0,.v (.int .i64 (e:Int)),.v (.int .i64 (p:Int))] [(29,PG l a o)] ⟨.agg (ndA nd0),[(29,.ent (PE l a o e p))]⟩:=by
 refine ah.fnF Tryz.func205 Tryz.results205 Tryz.ntmps205 rfl rfl rfl rfl (fun w0 T B E0 hB=>?_)
 refine SX.goP ?_;exact aM (aj.aT rfl rfl rfl) (pF rfl rfl) ⟨rfl,trivial⟩
theorem ahZ(l:List Tok)(a o e p e' p':Nat):ah Tryz.prog 205 [.ptr 29 0,.v (.int .i64 (e':Int)),.v (.int .i64 (p':Int))] [(29,PE l a o e p)] ⟨.agg (ndA nd0),[(29,.ent (PE l a o e p))]⟩:=by
 refine ah.fnF Tryz.func205 Tryz.results205 Tryz.ntmps205 rfl rfl rfl rfl (fun w0 T B E0 hB=>?_)
 refine SX.goP ?_;exact aM (aj.aT rfl rfl rfl) (pF rfl rfl) ⟨rfl,trivial⟩
theorem vH(l:List Tok)(a o:Nat):ah Tryz.prog 169 [.ptr 29 0] [(29,PG l a o)] ⟨.agg (ndA nd0),[(29,.ent (PE l a o 4 a))]⟩:=by
 have c:=ai9 l a o 4 a;refine ah.fnF Tryz.func169 Tryz.results169 Tryz.ntmps169 rfl rfl rfl rfl (fun w0 T B E0 hB=>?_)
 refine SX.goP ?_;exact aM (aj.aT rfl rfl rfl) (AV0.imp.refl _) ⟨rfl,trivial⟩
theorem afz(l:List Tok)(a o e p:Nat):ah Tryz.prog 169 [.ptr 29 0] [(29,PE l a o e p)] ⟨.agg (ndA nd0),[(29,.ent (PE l a o e p))]⟩:=by
 have c:=ahZ l a o e p 4 a;refine ah.fnF Tryz.func169 Tryz.results169 Tryz.ntmps169 rfl rfl rfl rfl (fun w0 T B E0 hB=>?_)
 refine SX.goP ?_;exact aM (aj.aT rfl rfl rfl) (AV0.imp.refl _) ⟨rfl,trivial⟩
theorem nR{P:Program}{C:Ctx}{st:St}{t:Tmp}{b b':Bool}{l:List (Nat×Slot)}(e:b=b')(hh:abD st l)(h:st.tm t=some (.v (.bool b)):=by rfl):aN C P [.tmp t] ⟨.v (.bool b'),l⟩ st:=kT (xs:=[.one (.c (.val (.bool b')))]) ⟨by rw[←e];exact aj.tmp h,trivial⟩ hh
theorem aqP{P:Program}{C:Ctx}{st:St}{t:Tmp}{b b':List UInt8}{l:List (Nat×Slot)}(e:b=b')(hh:abD st l)(h:st.tm t=some (.v (str b)):=by rfl):aN C P [.tmp t] ⟨.v (str b'),l⟩ st:=kT (xs:=[.one (.c (.val (str b')))]) ⟨by rw[←e];exact aj.tmp h,trivial⟩ hh
theorem aoA{P:Program}{C:Ctx}{st:St}{l:List (Nat×Slot)}(hh:abD st l):aN C P [] ⟨.tup [],l⟩ st:=kT (xs:=[]) trivial hh
theorem aro(l:List Tok)(a o:Nat)(s:List UInt8):ah Tryz.prog 165 [.ptr 29 0,.v (str s)] [(29,PG l a o)] ⟨.v (.bool (isS l a s)),[(29,.ent (PG l a o))]⟩:=by
 by_cases h:a < l.length
 ·obtain⟨⟨tk,tt,tp⟩,ht⟩:∃t,l[a]? =some t:=⟨_,List.getElem?_eq_getElem h⟩
  have hv:isS l a s=(!decide (tk=1)&&decide (tt=s)):=by unfold isS;rw[ht]
  rw[hv];by_cases hk:tk=1
  ·subst hk;have e1:decide ((1:Int)≠1)=false:=by decide
   refine ah.fnF Tryz.func165 Tryz.results165 Tryz.ntmps165 rfl rfl rfl rfl (fun w0 T B E0 hB=>?_)
   refine SX.goP ?_;exact nR rfl ⟨rfl,trivial⟩
  ·refine ah.fnF Tryz.func165 Tryz.results165 Tryz.ntmps165 rfl rfl rfl rfl (fun w0 T B E0 hB=>?_)
   refine SX.goP ?_
   (refine nR ?_ ⟨rfl,trivial⟩;simp[hk])
 ·have hv:isS l a s=false:=by unfold isS;rw[List.getElem?_eq_none (by omega)]
  rw[hv];refine ah.fnF Tryz.func165 Tryz.results165 Tryz.ntmps165 rfl rfl rfl rfl (fun w0 T B E0 hB=>?_)
  refine SX.goP ?_;exact nR rfl ⟨rfl,trivial⟩
theorem c_isE(l:List Tok)(a o e p:Nat)(s:List UInt8):ah Tryz.prog 165 [.ptr 29 0,.v (str s)] [(29,PE l a o e p)] ⟨.v (.bool false),[(29,.ent (PE l a o e p))]⟩:=by
 refine ah.fnF Tryz.func165 Tryz.results165 Tryz.ntmps165 rfl rfl rfl rfl (fun w0 T B E0 hB=>?_)
 refine SX.goP ?_;exact nR rfl ⟨rfl,trivial⟩
theorem bC{l:List Tok}{a:Nat}{s:List UInt8}(h:isS l a s=true):a < l.length:=by
 refine Nat.lt_of_not_le fun hn=>?_
 unfold isS at h;rw[List.getElem?_eq_none hn]at h;cases h
theorem dQ{l:List Tok}{a:Nat}(o:Nat){s:List UInt8}(hl:l.length≤1000000)(h:isS l a s=true):ah Tryz.prog 121 [.ptr 29 0,.v (str s)] [(29,PG l a o)] ⟨.v (.bool true),[(29,.ent (PG l (a+1) o))]⟩:=by
 have hlt:=bC h;have c:=aro l a o s;rw[h]at c;refine ah.fnF Tryz.func121 Tryz.results121 Tryz.ntmps121 rfl rfl rfl rfl (fun w0 T B E0 hB=>?_)
 refine SX.goP ?_;exact nR rfl ⟨rfl,trivial⟩
theorem dH{l:List Tok}{a:Nat}(o:Nat){s:List UInt8}(h:isS l a s=false):ah Tryz.prog 121 [.ptr 29 0,.v (str s)] [(29,PG l a o)] ⟨.v (.bool false),[(29,.ent (PG l a o))]⟩:=by
 have c:=aro l a o s;rw[h]at c;refine ah.fnF Tryz.func121 Tryz.results121 Tryz.ntmps121 rfl rfl rfl rfl (fun w0 T B E0 hB=>?_)
 refine SX.goP ?_;exact nR rfl ⟨rfl,trivial⟩
theorem dB(l:List Tok)(a o e p:Nat)(s:List UInt8):ah Tryz.prog 121 [.ptr 29 0,.v (str s)] [(29,PE l a o e p)] ⟨.v (.bool false),[(29,.ent (PE l a o e p))]⟩:=by
 have c:=c_isE l a o e p s;refine ah.fnF Tryz.func121 Tryz.results121 Tryz.ntmps121 rfl rfl rfl rfl (fun w0 T B E0 hB=>?_)
 refine SX.goP ?_;exact nR rfl ⟨rfl,trivial⟩
theorem jQ{l:List Tok}{a:Nat}(o:Nat){s:List UInt8}(hl:l.length≤1000000)(h:isS l a s=true):ah Tryz.prog 125 [.ptr 29 0,.v (str s)] [(29,PG l a o)] ⟨.tup [],[(29,.ent (PG l (a+1) o))]⟩:=by
 have c:=dQ o hl h;refine ah.fnF Tryz.func125 Tryz.results125 Tryz.ntmps125 rfl rfl rfl rfl (fun w0 T B E0 hB=>?_)
 refine SX.goP ?_;exact aoA ⟨rfl,trivial⟩
theorem kZ{l:List Tok}{a:Nat}(o:Nat){s:List UInt8}(h:isS l a s=false):ah Tryz.prog 125 [.ptr 29 0,.v (str s)] [(29,PG l a o)] ⟨.tup [],[(29,.ent (PE l a o 4 a))]⟩:=by
 have c:=dH o h;have c2:=vH l a o;refine ah.fnF Tryz.func125 Tryz.results125 Tryz.ntmps125 rfl rfl rfl rfl (fun w0 T B E0 hB=>?_)
 refine SX.goP ?_;exact aoA ⟨rfl,trivial⟩
theorem jf(l:List Tok)(a o e p:Nat)(s:List UInt8):ah Tryz.prog 125 [.ptr 29 0,.v (str s)] [(29,PE l a o e p)] ⟨.tup [],[(29,.ent (PE l a o e p))]⟩:=by
 have c:=dB l a o e p s;have c2:=afz l a o e p;refine ah.fnF Tryz.func125 Tryz.results125 Tryz.ntmps125 rfl rfl rfl rfl (fun w0 T B E0 hB=>?_)
 refine SX.goP ?_;exact aoA ⟨rfl,trivial⟩
theorem vY(l:List Tok)(a:Nat){o:Nat}(h:o+1≤600):ah Tryz.prog 204 [.ptr 29 0] [(29,PG l a o)] ⟨.v (.bool true),[(29,.ent (PG l a (o+1)))]⟩:=by
 refine ah.fnF Tryz.func204 Tryz.results204 Tryz.ntmps204 rfl rfl rfl rfl (fun w0 T B E0 hB=>?_)
 refine SX.goP ?_;exact nR rfl ⟨rfl,trivial⟩
theorem wR(l:List Tok)(a:Nat){o:Nat}(h:600 < o+1)(ho:o≤1000000):ah Tryz.prog 204 [.ptr 29 0] [(29,PG l a o)] ⟨.v (.bool false),[(29,.ent (PE l a (o+1) 8 0))]⟩:=by
 have c:=ai9 l a (o+1) 8 0;refine ah.fnF Tryz.func204 Tryz.results204 Tryz.ntmps204 rfl rfl rfl rfl (fun w0 T B E0 hB=>?_)
 refine SX.goP ?_;exact nR rfl ⟨rfl,trivial⟩
theorem ao7(l:List Tok)(a:Nat){o:Nat}(e p:Nat)(ho:o≤1000000):ah Tryz.prog 204 [.ptr 29 0] [(29,PE l a o e p)] ⟨.v (.bool false),[(29,.ent (PE l a (o+1) e p))]⟩:=by
 have c:=ahZ l a (o+1) e p 8 0;by_cases h:600 < o+1
 ·refine ah.fnF Tryz.func204 Tryz.results204 Tryz.ntmps204 rfl rfl rfl rfl (fun w0 T B E0 hB=>?_)
  refine SX.goP ?_;exact nR rfl ⟨rfl,trivial⟩
 ·refine ah.fnF Tryz.func204 Tryz.results204 Tryz.ntmps204 rfl rfl rfl rfl (fun w0 T B E0 hB=>?_)
  refine SX.goP ?_;exact nR rfl ⟨rfl,trivial⟩
theorem rR(l:List Tok)(a o:Nat):ah Tryz.prog 126 [.ptr 29 0] [(29,PG l a o)] ⟨.v (.bool (nA l a)),[(29,.ent (PG l a o))]⟩:=by
 by_cases h:a < l.length
 ·obtain⟨⟨tk,tt,tp⟩,ht⟩:∃t,l[a]? =some t:=⟨_,List.getElem?_eq_getElem h⟩
  have hv:nA l a=(decide (tk=2)&&!ownB tt):=by unfold nA;rw[ht]
  rw[hv];have cO:=al7 tt;by_cases hk:tk=2
  ·refine ah.fnF Tryz.func126 Tryz.results126 Tryz.ntmps126 rfl rfl rfl rfl (fun w0 T B E0 hB=>?_)
   refine SX.goP ?_
   (refine nR ?_ ⟨rfl,trivial⟩;simp[hk])
  ·refine ah.fnF Tryz.func126 Tryz.results126 Tryz.ntmps126 rfl rfl rfl rfl (fun w0 T B E0 hB=>?_)
   refine SX.goP ?_
   (refine nR ?_ ⟨rfl,trivial⟩;simp[hk])
 ·have hv:nA l a=false:=by unfold nA;rw[List.getElem?_eq_none (by omega)]
  rw[hv];refine ah.fnF Tryz.func126 Tryz.results126 Tryz.ntmps126 rfl rfl rfl rfl (fun w0 T B E0 hB=>?_)
  refine SX.goP ?_;exact nR rfl ⟨rfl,trivial⟩
theorem ade{l:List Tok}{a:Nat}(h:nA l a=true):a < l.length:=by
 refine Nat.lt_of_not_le fun hn=>?_
 unfold nA at h;rw[List.getElem?_eq_none hn]at h;cases h
def txt(l:List Tok)(a:Nat):List UInt8:=match l[a]? with
 |some t=>t.text
 |none=>[]
theorem ajd{l:List Tok}{a:Nat}(o:Nat)(hl:l.length≤1000000)(h:nA l a=true):ah Tryz.prog 124 [.ptr 29 0] [(29,PG l a o)] ⟨.v (str (txt l a)),[(29,.ent (PG l (a+1) o))]⟩:=by
 have hlt:=ade h;have c:=rR l a o;rw[h]at c;obtain⟨⟨tk,tt,tp⟩,ht⟩:∃t,l[a]? =some t:=⟨_,List.getElem?_eq_getElem hlt⟩
 have hv:txt l a=tt:=by unfold txt;rw[ht]
 rw[hv];refine ah.fnF Tryz.func124 Tryz.results124 Tryz.ntmps124 rfl rfl rfl rfl (fun w0 T B E0 hB=>?_)
 refine SX.goP ?_;exact aqP rfl ⟨rfl,trivial⟩
theorem apt{l:List Tok}{a:Nat}(o:Nat)(h:nA l a=false):ah Tryz.prog 124 [.ptr 29 0] [(29,PG l a o)] ⟨.v (str []),[(29,.ent (PE l a o 4 a))]⟩:=by
 have c:=rR l a o;rw[h]at c;have c2:=vH l a o;refine ah.fnF Tryz.func124 Tryz.results124 Tryz.ntmps124 rfl rfl rfl rfl (fun w0 T B E0 hB=>?_)
 refine SX.goP ?_;exact aqP rfl ⟨rfl,trivial⟩
end
section
inductive Res where
 |ok (n:Nd) (a:Nat)
 |bad (e p:Nat) (n:Nd) (a o:Nat)
abbrev Gr:=Nat→Nat→Res
def gM(f:Nd→Nd):Res→Res
 | .ok n a=> .ok (f n) a
 | .bad e p n a o=> .bad e p (f n) a o
section
variable(K:Nat)(l:List Tok)
def thenS(r:Res)(o:Nat)(s:List UInt8):Res:=match r with
 | .ok n a=>if isS l a s then .ok n (a+1)else .bad 4 a n a o
 | .bad e p n a o'=> .bad e p n a o'
def ins(k:Gr):Gr:=fun a o=>if K < o+1 then .bad 8 0 nd0 a (o+1)else match k a (o+1)with
 | .ok n a'=> .ok n a'
 | .bad e p n a' o'=> .bad e p n a' (o' - 1)
def rD(X:Gr)(e:List UInt8):Nat→List Nd→Gr
 |0,_=>fun a o=> .bad 4 a nd0 a o
 |m+1,ks=>fun a o=>match X a o with
  | .bad c p n a' o'=> .bad c p (.mk 0 [] (ks++[n])) a' o'
  | .ok n a'=>if isS l a' e then .ok (.mk 0 [] (ks++[n])) (a'+1)else if isS l a' [44]then rD X e m (ks++[n]) (a'+1) o else .bad 4 a' (.mk 0 [] (ks++[n])) a' o
def jv(X:Gr)(e:List UInt8):Gr:=fun a o=>if isS l a e then .ok (.mk 0 [] []) (a+1)else rD l X e (l.length+1) [] a o
def rX(X:Gr):Nat→List Nd→List Nd→Gr
 |0,_,_=>fun a o=> .bad 4 a nd0 a o
 |m+1,rs,r=>fun a o=>match X a o with
  | .bad c p n a' o'=> .bad c p (.mk 14 [] (rs++[.mk 15 [] (r++[n])])) a' o'
  | .ok n a'=>if isS l a' [44]then rX X m rs (r++[n]) (a'+1) o else if isS l a' [59]then rX X m (rs++[.mk 15 [] (r++[n])]) [] (a'+1) o
   else if isS l a' [93]then .ok (.mk 14 [] (rs++[.mk 15 [] (r++[n])])) (a'+1)else .bad 4 a' (.mk 14 [] (rs++[.mk 15 [] (r++[n])])) a' o
def oJ(X:Gr):Gr:=fun a o=>match l[a]? with
 |none=> .bad 4 a nd0 a o
 |some t=>if t.kind=1 then .ok (.mk 1 t.text []) (a+1)
  else if nA l a then(if isS l (a+1) [40]then ins K (fun a o=>gM (fun n=> .mk 13 t.text n.kids) (jv l X [41] a o)) (a+2) o else .ok (.mk 2 t.text []) (a+1))
  else if isS l a [40]then ins K (fun a o=>thenS l (X a o) o [41]) (a+1) o
  else if isS l a [91]then ins K (fun a o=>rX l X (l.length+1) [] [] a o) (a+1) o
  else if isS l a [123]then ins K (fun a o=>gM (fun n=> .mk 16 [] n.kids) (jv l X [125] a o)) (a+1) o
  else .bad 4 a nd0 a o
def tX(X:Gr)(n:Nd):Gr:=fun a o=>match X a o with
 | .bad e p m a' o'=> .bad e p (.mk 17 [] [n,m]) a' o'
 | .ok m a'=>if isS l a' [44]then thenS l (gM (fun m2=> .mk 17 [] [n,m,m2]) (X (a'+1) o)) o [93]
  else thenS l (.ok (.mk 17 [] [n,m]) a') o [93]
def um(X:Gr):Nat→Nd→Gr
 |0,_=>fun a o=> .bad 4 a nd0 a o
 |k+1,n=>fun a o=>if isS l a [91]then(match ins K (tX l X n) (a+1) o with
   | .bad e p n' a' o'=> .bad e p n' a' o'
   | .ok n' a'=>um X k n' a' o)
  else .ok n a
def qw(X:Gr):Gr:=fun a o=>match oJ K l X a o with
 | .bad e p n a' o'=> .bad e p n a' o'
 | .ok n a'=>um K l X (l.length+1) n a' o
def ab7(X U:Gr):Gr:=fun a o=>match qw K l X a o with
 | .bad e p n a' o'=> .bad e p n a' o'
 | .ok n a'=>if isS l a' [94]then gM (fun m=> .mk 8 [] [n,m]) (U (a'+1) o)else .ok n a'
def unG(X U:Gr):Gr:=fun a o=>if isS l a [45]then ins K (fun a o=>gM (fun m=> .mk 3 [] [m]) (U a o)) (a+1) o else ab7 K l X U a o
def gW(S:Gr)(s1:List UInt8)(x:Nat)(s2:List UInt8)(y:Nat):Nat→Nd→Gr
 |0,_=>fun a o=> .bad 4 a nd0 a o
 |m+1,n=>fun a o=>if isS l a s1 then(match S (a+1) o with
   | .bad e p k a' o'=> .bad e p (.mk x [] [n,k]) a' o'
   | .ok k a'=>gW S s1 x s2 y m (.mk x [] [n,k]) a' o)
  else if isS l a s2 then(match S (a+1) o with
   | .bad e p k a' o'=> .bad e p (.mk y [] [n,k]) a' o'
   | .ok k a'=>gW S s1 x s2 y m (.mk y [] [n,k]) a' o)
  else .ok n a
def yZ(S:Gr)(s1:List UInt8)(x:Nat)(s2:List UInt8)(y:Nat):Gr:=fun a o=>match S a o with
 | .bad e p n a' o'=> .bad e p n a' o'
 | .ok n a'=>gW l S s1 x s2 y (l.length+1) n a' o
def abm(U:Gr):Gr:=yZ l U [42] 6 [47] 7
def kE(U:Gr):Gr:=yZ l (abm l U) [43] 4 [45] 5
def rG(U:Gr):Gr:=fun a o=>match kE l U a o with
 | .bad e p n a' o'=> .bad e p n a' o'
 | .ok n a'=>if isS l a' [61,61]then gM (fun m=> .mk 9 [] [n,m]) (kE l U (a'+1) o)else if isS l a' [33,61]then gM (fun m=> .mk 10 [] [n,m]) (kE l U (a'+1) o)
  else if isS l a' [60]then gM (fun m=> .mk 11 [] [n,m]) (kE l U (a'+1) o)else if isS l a' [60,61]then gM (fun m=> .mk 12 [] [n,m]) (kE l U (a'+1) o)else .ok n a'
def lev:Nat→Gr×Gr
 |0=>(fun a o=> .bad 4 a nd0 a o,fun a o=> .bad 4 a nd0 a o)
 |n+1=>(rG l (unG K l (lev n).1 (lev n).2),unG K l (lev n).1 (lev n).2)
end
def CR(res:Nd→AV)(f:FuncId)(args:List AV)(ex:List (Nat×Ent))(l:List Tok)(a o:Nat):Res→Prop
 | .ok n a'=>ah Tryz.prog f args ((29,PG l a o)::ex) ⟨res n,(29,.ent (PG l a' o))::ex.map fun p=>(p.1,.ent p.2)⟩
 | .bad e p n a' o'=>ah Tryz.prog f args ((29,PG l a o)::ex) ⟨res n,(29,.ent (PE l a' o' e p))::ex.map fun p=>(p.1,.ent p.2)⟩
mutual
def cnt:Nd→Nat
 | .mk _ _ ks=>1+iX ks
def iX:List Nd→Nat
 |[]=>0
 |k::ks=>cnt k+iX ks
end
theorem dX:∀ks ms:List Nd,iX (ks++ms)=iX ks+iX ms
 |[],ms=>by simp[iX]
 |k::ks,ms=>by simp[iX,dX ks ms];omega
theorem mE:∀n:Nd,1≤cnt n
 | .mk _ _ _=>by rw[cnt];omega
theorem eO(x:Int)(t:List UInt8)(ks:List Nd):cnt (.mk x t ks)=1+iX ks:=by rw[cnt]
theorem aS(k:Nd)(ks:List Nd):iX (k::ks)=cnt k+iX ks:=by rw[iX]
theorem bG:iX []=0:=by rw[iX]
theorem vL:∀ks:List Nd,ks.length≤iX ks
 |[]=>by simp[iX]
 |k::ks=>by have:=vL ks;have:=mE k;simp[iX];omega
def mG(s c k:Nat)(l:List Tok)(a o:Nat):Res→Prop
 | .ok n a'=>a+cnt n+c≤a'+s∧a≤a'∧a'≤l.length
 | .bad _ _ _ _ o'=>o≤o'∧o'≤o+k
def zl(k o:Nat):Res→Prop
 | .ok _ _=>True
 | .bad _ _ _ _ o'=>o≤o'∧o'≤o+k
def Adv(k:Nat)(l:List Tok)(m:Nat)(g:Gr):Prop:=∀a o,m≤a→a≤l.length→mG 0 0 k l a o (g a o)
abbrev rNd(n:Nd):AV:= .agg (ndA n)
abbrev rKs(n:Nd):AV:= .r (ay 3 ndC n.kids)
abbrev PP:Ent:= .box 125 [.ptr 29 0]
abbrev NB(n:Nd):Ent:= .box 69 (ndA n)
abbrev KB(t:Tok):Ent:= .box 122 (tokA t)
abbrev fnA(f:FuncId)(cap:List (Nat×Nat)):AV:= .it (.one (.clo f cap))
abbrev bnA(f:FuncId):AV:= .it (.one (.bnd f 29))
attribute [local irreducible] IntKind.wrap Go1 Reg WP aQ aR bO bN aN aB aj ah aV Sat
theorem acM{f:FuncId}{l:List Tok}{a o:Nat}{k:Gr}(ho:o≤600)(hk:o+1≤600→CR rNd f [.ptr 81 0] [(81,PP)] l a (o+1) (k a (o+1))∧zl 2 (o+1) (k a (o+1))):
  CR rNd 167 [.ptr 29 0,fnA f [(81,0)]] [(81,PP)] l a o (ins 600 k a o):=by
 unfold ins;by_cases h:600 < o+1
 ·rw[if_pos h];have c:=wR l a h (by omega)
  show ah _ _ _ _ _;refine ah.fnF Tryz.func167 Tryz.results167 Tryz.ntmps167 rfl rfl rfl rfl (fun w0 T B E0 hB=>?_)
  refine SX.goP ?_;exact aM (aj.aT rfl rfl rfl) (pF rfl rfl) ⟨rfl,rfl,trivial⟩
 ·rw[if_neg h];have c:=vY l a (o:=o) (by omega)
  obtain⟨hk,hb⟩:=hk (by omega)
  cases hr:k a (o+1)with
  |ok n a'=>
   rw[hr]at hk;unfold CR at hk;show ah _ _ _ _ _;refine ah.fnF Tryz.func167 Tryz.results167 Tryz.ntmps167 rfl rfl rfl rfl (fun w0 T B E0 hB=>?_)
   refine SX.goP ?_;exact aM (aj.aT rfl rfl rfl) (AV0.imp.refl _) ⟨rfl,rfl,trivial⟩
  |bad e p n a' o'=>
   rw[hr]at hk hb;unfold CR at hk;unfold zl at hb;show ah _ _ _ _ _;refine ah.fnF Tryz.func167 Tryz.results167 Tryz.ntmps167 rfl rfl rfl rfl (fun w0 T B E0 hB=>?_)
   refine SX.goP ?_;exact aM (aj.aT rfl rfl rfl) (AV0.imp.refl _) ⟨rfl,rfl,trivial⟩
theorem arG{f:FuncId}{l:List Tok}{a o:Nat}{k:Gr}{N:Nd}(ho:o≤600)(hk:o+1≤600→CR rNd f [.ptr 83 0,.ptr 81 0] [(81,PP),(83,NB N)] l a (o+1) (k a (o+1))∧zl 2 (o+1) (k a (o+1))):
  CR rNd 167 [.ptr 29 0,fnA f [(83,0),(81,0)]] [(81,PP),(83,NB N)] l a o (ins 600 k a o):=by
 unfold ins;by_cases h:600 < o+1
 ·rw[if_pos h];have c:=wR l a h (by omega)
  show ah _ _ _ _ _;refine ah.fnF Tryz.func167 Tryz.results167 Tryz.ntmps167 rfl rfl rfl rfl (fun w0 T B E0 hB=>?_)
  refine SX.goP ?_;exact aM (aj.aT rfl rfl rfl) (pF rfl rfl) ⟨rfl,rfl,rfl,trivial⟩
 ·rw[if_neg h];have c:=vY l a (o:=o) (by omega)
  obtain⟨hk,hb⟩:=hk (by omega)
  cases hr:k a (o+1)with
  |ok n a'=>
   rw[hr]at hk;unfold CR at hk;show ah _ _ _ _ _;refine ah.fnF Tryz.func167 Tryz.results167 Tryz.ntmps167 rfl rfl rfl rfl (fun w0 T B E0 hB=>?_)
   refine SX.goP ?_;exact aM (aj.aT rfl rfl rfl) (AV0.imp.refl _) ⟨rfl,rfl,rfl,trivial⟩
  |bad e p n a' o'=>
   rw[hr]at hk hb;unfold CR at hk;unfold zl at hb;show ah _ _ _ _ _;refine ah.fnF Tryz.func167 Tryz.results167 Tryz.ntmps167 rfl rfl rfl rfl (fun w0 T B E0 hB=>?_)
   refine SX.goP ?_;exact aM (aj.aT rfl rfl rfl) (AV0.imp.refl _) ⟨rfl,rfl,rfl,trivial⟩
theorem asj{f:FuncId}{l:List Tok}{a o:Nat}{k:Gr}{t:Tok}(ho:o≤600)(hk:o+1≤600→CR rNd f [.ptr 82 0,.ptr 81 0] [(81,PP),(82,KB t)] l a (o+1) (k a (o+1))∧zl 2 (o+1) (k a (o+1))):
  CR rNd 167 [.ptr 29 0,fnA f [(82,0),(81,0)]] [(81,PP),(82,KB t)] l a o (ins 600 k a o):=by
 unfold ins;by_cases h:600 < o+1
 ·rw[if_pos h];have c:=wR l a h (by omega)
  show ah _ _ _ _ _;refine ah.fnF Tryz.func167 Tryz.results167 Tryz.ntmps167 rfl rfl rfl rfl (fun w0 T B E0 hB=>?_)
  refine SX.goP ?_;exact aM (aj.aT rfl rfl rfl) (pF rfl rfl) ⟨rfl,rfl,rfl,trivial⟩
 ·rw[if_neg h];have c:=vY l a (o:=o) (by omega)
  obtain⟨hk,hb⟩:=hk (by omega)
  cases hr:k a (o+1)with
  |ok n a'=>
   rw[hr]at hk;unfold CR at hk;show ah _ _ _ _ _;refine ah.fnF Tryz.func167 Tryz.results167 Tryz.ntmps167 rfl rfl rfl rfl (fun w0 T B E0 hB=>?_)
   refine SX.goP ?_;exact aM (aj.aT rfl rfl rfl) (AV0.imp.refl _) ⟨rfl,rfl,rfl,trivial⟩
  |bad e p n a' o'=>
   rw[hr]at hk hb;unfold CR at hk;unfold zl at hb;show ah _ _ _ _ _;refine ah.fnF Tryz.func167 Tryz.results167 Tryz.ntmps167 rfl rfl rfl rfl (fun w0 T B E0 hB=>?_)
   refine SX.goP ?_;exact aM (aj.aT rfl rfl rfl) (AV0.imp.refl _) ⟨rfl,rfl,rfl,trivial⟩
theorem arX{f:FuncId}{l:List Tok}{a o:Nat}{k:Gr}(ho:o≤600)(hk:o+1≤600→CR rNd f [.ptr 29 0] [] l a (o+1) (k a (o+1))∧zl 2 (o+1) (k a (o+1))):
  CR rNd 167 [.ptr 29 0,bnA f] [] l a o (ins 600 k a o):=by
 unfold ins;by_cases h:600 < o+1
 ·rw[if_pos h];have c:=wR l a h (by omega)
  show ah _ _ _ _ _;refine ah.fnF Tryz.func167 Tryz.results167 Tryz.ntmps167 rfl rfl rfl rfl (fun w0 T B E0 hB=>?_)
  refine SX.goP ?_;exact aM (aj.aT rfl rfl rfl) (pF rfl rfl) ⟨rfl,trivial⟩
 ·rw[if_neg h];have c:=vY l a (o:=o) (by omega)
  obtain⟨hk,hb⟩:=hk (by omega)
  cases hr:k a (o+1)with
  |ok n a'=>
   rw[hr]at hk;unfold CR at hk;show ah _ _ _ _ _;refine ah.fnF Tryz.func167 Tryz.results167 Tryz.ntmps167 rfl rfl rfl rfl (fun w0 T B E0 hB=>?_)
   refine SX.goP ?_;exact aM (aj.aT rfl rfl rfl) (AV0.imp.refl _) ⟨rfl,trivial⟩
  |bad e p n a' o'=>
   rw[hr]at hk hb;unfold CR at hk;unfold zl at hb;show ah _ _ _ _ _;refine ah.fnF Tryz.func167 Tryz.results167 Tryz.ntmps167 rfl rfl rfl rfl (fun w0 T B E0 hB=>?_)
   refine SX.goP ?_;exact aM (aj.aT rfl rfl rfl) (AV0.imp.refl _) ⟨rfl,trivial⟩
theorem alk{f:FuncId}{l:List Tok}{a o e p:Nat}(ho:o≤1000000):
  ah Tryz.prog 167 [.ptr 29 0,fnA f [(81,0)]] [(29,PE l a o e p),(81,PP)] ⟨rNd nd0,[(29,.ent (PE l a (o+1) e p)),(81,.ent PP)]⟩:=by
 have c:=ao7 l a e p ho;refine ah.fnF Tryz.func167 Tryz.results167 Tryz.ntmps167 rfl rfl rfl rfl (fun w0 T B E0 hB=>?_)
 refine SX.goP ?_;exact aM (aj.aT rfl rfl rfl) (pF rfl rfl) ⟨rfl,rfl,trivial⟩
def GOK(f:FuncId)(l:List Tok)(m:Nat)(g:Gr):Prop:=∀a o,m≤a→a≤l.length→o≤600→CR rNd f [.ptr 29 0] [] l a o (g a o)
def GE(f:FuncId)(l:List Tok):Prop:=∀a o e p,ah Tryz.prog f [.ptr 29 0] [(29,PE l a o e p)] ⟨rNd nd0,[(29,.ent (PE l a o e p))]⟩
theorem CR.ok{res:Nd→AV}{f:FuncId}{args:List AV}{ex:List (Nat×Ent)}{l:List Tok}{a o:Nat}{n:Nd}{a':Nat}(h:CR res f args ex l a o (.ok n a')):ah Tryz.prog f args ((29,PG l a o)::ex) ⟨res n,(29,.ent (PG l a' o))::ex.map fun p=>(p.1,.ent p.2)⟩:=h
theorem CR.bad{res:Nd→AV}{f:FuncId}{args:List AV}{ex:List (Nat×Ent)}{l:List Tok}{a o:Nat}{n:Nd}{e p a' o':Nat}(h:CR res f args ex l a o (.bad e p n a' o')):ah Tryz.prog f args ((29,PG l a o)::ex) ⟨res n,(29,.ent (PE l a' o' e p))::ex.map fun p=>(p.1,.ent p.2)⟩:=h
theorem mG.open{s c k:Nat}{l:List Tok}{a o:Nat}{r:Res}(h:mG s c k l a o r):zl k o r:=by
 cases r with
 |ok n a'=>trivial
 |bad e p n a' o'=>exact h
theorem zl.mono{k k' o:Nat}{r:Res}(h:zl k o r)(hk:k≤k'):zl k' o r:=by
 cases r with
 |ok n a'=>trivial
 |bad e p n a' o'=>exact⟨h.1,by have:=h.2;omega⟩
theorem mG.mono{s c k s' c' k':Nat}{l:List Tok}{a o a2:Nat}{r:Res}(h:mG s c k l a2 o r)(hk:k≤k')(ha:a≤a2)(hc:a+c'+s≤a2+c+s'):mG s' c' k' l a o r:=by
 cases r with
 |ok n a'=>exact⟨by have:=h.1;omega,by have:=h.2.1;omega,h.2.2⟩
 |bad e p n a' o'=>exact⟨h.1,by have:=h.2;omega⟩
theorem iT{f:Nd→Nd}{s s' c c' k:Nat}{l:List Tok}{a o:Nat}{r:Res}(h:mG s c k l a o r)(hf:∀n,cnt (f n)+c'+s≤cnt n+c+s'):mG s' c' k l a o (gM f r):=by
 cases r with
 |ok n a'=>exact⟨by have:=h.1;have:=hf n;omega,h.2⟩
 |bad e p n a' o'=>exact h
theorem oF{s c k:Nat}{l:List Tok}{a o:Nat}{r:Res}{t:List UInt8}(h:mG s c k l a o r):mG s (c+1) k l a o (thenS l r o t):=by
 cases r with
 |ok n a'=>
  unfold thenS
  dsimp only
  split
  ·rename_i hs;exact⟨by have:=h.1;omega,by have:=h.2.1;omega,bC hs⟩
  ·exact⟨Nat.le_refl _,by omega⟩
 |bad e p n a' o'=>exact h
theorem nN{K s c k:Nat}{l:List Tok}{a o:Nat}{g:Gr}(hk:1≤k)(h:mG s c k l a (o+1) (g a (o+1))):mG s c k l a o (ins K g a o):=by
 unfold ins
 split
 ·exact⟨by omega,by omega⟩
 ·cases hr:g a (o+1)with
  |ok n a'=>rw[hr]at h;exact h
  |bad e p n a' o'=>rw[hr]at h;exact⟨by have:=h.1;omega,by have:=h.2;omega⟩
end
end
end Go.Proofs.YtmgfiodmdfaclaaGreatDoor