import Derived.Test.YtegehclknhmkgaaGreatDoorA30
import Derived.Test.YtegehclknhmkgaaGreatDoorA35
import Derived.Lib.Join
import Derived.Test.YtegehclknhmkgaaGreatDoorA9
set_option linter.unusedVariables false
set_option linter.unusedSimpArgs false
namespace Go.Proofs.YtegehclknhmkgaaGreatDoor
open Go.RowKit SX
section
attribute [local irreducible] IntKind.wrap Go1 Reg WP aN aQ bM bI aL aC aj ah aT Sat
section
def srt(c:UInt8):Nat:=if c.toNat=32∨c.toNat=9∨c.toNat=10∨c.toNat=13 then 1 else if 48≤c.toNat∧c.toNat≤57 then 2 else if 97≤c.toNat∧c.toNat≤122 then 3 else if c.toNat=95 then 4 else
 if 0≤Lib.indexByte [43,45,42,47,94,40,41,91,93,123,125,44,59,61,60,33,46] c then 5 else 0
abbrev ixL(l:List UInt8)(c:UInt8):Int:=Lib.indexByte l c
theorem yH(b:UInt8)(l:List UInt8)(c:UInt8):ixL (b::l) c=if b=c then 0 else if ixL l c= -1 then -1 else ixL l c+1:=by
 have e:ixL (b::l) c=if b==c then 0 else if ixL l c== -1 then -1 else ixL l c+1:=rfl
 rw[e];simp only[beq_iff_eq]
theorem anu(l:List UInt8)(c:UInt8):0≤ixL l c↔c∈l:=by
 induction l with
 |nil=>simp[ixL,Lib.indexByte]
 |cons b l ih=>
  have hg: -1≤ixL l c:=Lib.indexByte_ge l c;rw[yH,List.mem_cons,←ih];generalize ixL l c=z at*;by_cases h:b=c
  ·subst h;simp
  ·have hc:¬c=b:=fun e=>h e.symm
   simp only[hc,false_or,h,if_false]
   split <;> omega
theorem ajv{f:FuncId}{args:List Value}{r:Value}(he:∃fn,Tryz.prog.funcs[f]? =some fn∧(fn.name== "runtime.NumGoroutine")=false∧fn.body.isNone=false)(h:∀w,Calls Tryz.prog f args.toArray w fun e w'=>e= .returned r∧w'=w):PureOK Tryz.prog f (args.map AV.v) (.v r):=
 PureOK.gQ he rfl fun E S w vs hl hv=>by
  have hvs:vs=args:=by
   clear h
   induction args generalizing vs with
   |nil=>cases vs with|nil=>rfl|cons _ _=>exact hv.elim
   |cons a l ih=>cases vs with|nil=>exact hv.elim|cons b m=>rw[ih m hv.2,show b=a from hv.1]
  subst hvs;exact(h w).mono fun e w' ⟨h1,h2⟩=>⟨r,h1,rfl,by subst h2;exact Off.refl _ _⟩
instance aaj(l:List UInt8)(c:UInt8):Con Tryz.prog 127 [.v (str l),.v (.int .u8 (c.toNat:Int))] True (.v (.int .i64 (ixL l c))):=⟨fun _=>
 ajv (args:=[str l,.int .u8 (c.toNat:Int)]) ⟨_,Tryz.func127,rfl,rfl⟩ fun w=>(Tryz.strings_IndexByte ⟨⟨l⟩⟩ (c.toNat:Int) w).mono fun e w' ⟨h1,h2⟩=>⟨by rw[h1];simp[ixL],h2⟩⟩
instance aj0(l:List UInt8):Con Tryz.prog 127 [.v (str l),.v (.int .u8 10)] True (.v (.int .i64 (ixL l 10))):=aaj l 10
instance con_sort(c:UInt8):Con Tryz.prog 126 [.v (.int .u8 (c.toNat:Int))] True (.v (.int .i64 (srt c:Int))):=⟨fun _=>by
 refine PureOK.fnF Tryz.func126 Tryz.results126 Tryz.ntmps126 rfl rfl rfl (by simp[AV.ids,AV0.ids,Atom.ids]) rfl (fun w0 T B E0 hB=>?_)
 repeat'(first|refine SX.goM ?_|refine SX.W.ite (fun h=>?_) (fun h=>?_)|refine SX.W.iteN (fun h=>?_) (fun h=>?_)|refine SX.W.eO (fun h=>?_) (fun h=>?_)|refine SX.R.ite (fun h=>?_) (fun h=>?_)|refine SX.R.iteN (fun h=>?_) (fun h=>?_)|refine SX.R.eO (fun h=>?_) (fun h=>?_))
 all_goals(refine iN ?_;unfold srt;(repeat' split) <;> omega)⟩
def wrd(c:UInt8):Bool:=decide (srt c=2)||decide (srt c=3)||decide (srt c=4)
instance apY(c:UInt8):Con Tryz.prog 176 [.v (.int .u8 (c.toNat:Int))] True (.v (.bool (wrd c))):=⟨fun _=>by
 refine PureOK.fnF Tryz.func176 Tryz.results176 Tryz.ntmps176 rfl rfl rfl (by simp[AV.ids,AV0.ids,Atom.ids]) rfl (fun w0 T B E0 hB=>?_)
 repeat'(first|refine SX.goM ?_|refine SX.W.ite (fun h=>?_) (fun h=>?_)|refine SX.W.iteN (fun h=>?_) (fun h=>?_)|refine SX.W.eO (fun h=>?_) (fun h=>?_)|refine SX.R.ite (fun h=>?_) (fun h=>?_)|refine SX.R.iteN (fun h=>?_) (fun h=>?_)|refine SX.R.eO (fun h=>?_) (fun h=>?_))
 all_goals(refine bK ?_;rw[Bool.eq_iff_iff];simp[wrd];omega)⟩
def run(l:List UInt8):Nat:=(l.takeWhile wrd).length
theorem alJ{p:UInt8→Bool}:∀(l:List UInt8) (k:Nat),k≤(l.takeWhile p).length→k < l.length→p (byt l k)=decide (k < (l.takeWhile p).length)
 |[],k,_,h=>by simp at h
 |c::l,0,_,_=>by
  cases h:p c <;> simp[byt,List.takeWhile_cons,h]
 |c::l,k+1,h1,h2=>by
  cases h:p c
  ·simp[List.takeWhile_cons,h]at h1
  ·simp[List.takeWhile_cons,h]at h1 ⊢
   have:=alJ l k h1 (by simpa using h2)
   simpa[byt]using this
theorem akK(l:List UInt8):run l≤l.length:=(List.takeWhile_prefix _).length_le
instance con_run(l:List UInt8):Con Tryz.prog 128 [.v (str l)] (l.length≤9223372036854775807) (.v (.int .i64 (run l:Int))):=⟨fun hl=>by
 refine PureOK.fnF Tryz.func128 Tryz.results128 Tryz.ntmps128 rfl rfl rfl (by simp[AV.ids,AV0.ids,Atom.ids]) rfl (fun w0 T B E0 hB=>?_)
 refine SX.goM ?_;refine W.loop (fun k=>k≤run l) (fun k=>[(0,.v (str l)),(3,.v (.int .i64 (k:Int)))]) (fun _=>[]) (fun k=>l.length - k) 0 (Nat.zero_le _) (fun k hk=>?_)
 have h1:=akK l;have h2:=alJ (p:=wrd) l k hk
 repeat'(first|refine SX.goM ?_|refine SX.W.ite (fun h=>?_) (fun h=>?_)|refine SX.W.iteN (fun h=>?_) (fun h=>?_)|refine SX.W.eO (fun h=>?_) (fun h=>?_)|refine SX.R.ite (fun h=>?_) (fun h=>?_)|refine SX.R.iteN (fun h=>?_) (fun h=>?_)|refine SX.R.eO (fun h=>?_) (fun h=>?_))
 ·exact W.next (k+1) (by rw[‹wrd _=true›]at h2;have:=of_decide_eq_true (h2 (by omega)).symm;unfold run;omega) (by omega)
 ·refine iN ?_;rw[‹wrd _=false›]at h2;have:=of_decide_eq_false (h2 (by omega)).symm;unfold run at*;omega
 ·refine iN ?_;omega⟩
instance con_two(l:List UInt8):Con Tryz.prog 131 [.v (str l)] True (.v (.bool (decide (l=[61,61]∨l=[33,61]∨l=[60,61]∨l=[46,46])))):=⟨fun hl=>by
 refine PureOK.fnF Tryz.func131 Tryz.results131 Tryz.ntmps131 rfl rfl rfl (by simp[AV.ids,AV0.ids,Atom.ids]) rfl (fun w0 T B E0 hB=>?_)
 repeat'(first|refine SX.goM ?_|refine SX.W.ite (fun h=>?_) (fun h=>?_)|refine SX.W.iteN (fun h=>?_) (fun h=>?_)|refine SX.W.eO (fun h=>?_) (fun h=>?_)|refine SX.R.ite (fun h=>?_) (fun h=>?_)|refine SX.R.iteN (fun h=>?_) (fun h=>?_)|refine SX.R.eO (fun h=>?_) (fun h=>?_))
 all_goals(refine bK ?_;simp[*])⟩
def dgL(l:List UInt8):Bool:=l.all fun c=>decide (srt c=2)
def num(l:List UInt8):Bool:=decide (1≤l.length∧l.length≤2000∧(l.length=1∨(byt l 0).toNat≠48))&&dgL l
theorem ajH(l:List UInt8)(k:Nat)(h:k < l.length):dgL (l.drop k)=(decide (srt (byt l k)=2)&&dgL (l.drop (k+1))):=by
 rw[List.drop_eq_getElem_cons h];have:byt l k=l[k]:=by simp[byt,h]
 rw[this];rfl
instance anX(l:List UInt8):Con Tryz.prog 129 [.v (str l)] (l.length≤9223372036854775807) (.v (.bool (num l))):=⟨fun hl=>by
 refine PureOK.fnF Tryz.func129 Tryz.results129 Tryz.ntmps129 rfl rfl rfl (by simp[AV.ids,AV0.ids,Atom.ids]) rfl (fun w0 T B E0 hB=>?_)
 repeat'(first|refine SX.goM ?_|refine SX.W.ite (fun h=>?_) (fun h=>?_)|refine SX.W.iteN (fun h=>?_) (fun h=>?_)|refine SX.W.eO (fun h=>?_) (fun h=>?_)|refine SX.R.ite (fun h=>?_) (fun h=>?_)|refine SX.R.iteN (fun h=>?_) (fun h=>?_)|refine SX.R.eO (fun h=>?_) (fun h=>?_))
 all_goals(first|(refine bK ?_;rw[eq_comm];unfold num;rw[Bool.and_eq_false_iff];refine .inl (decide_eq_false fun hn=>?_);omega)|skip)
 all_goals
  have hb:decide (1≤l.length∧l.length≤2000∧(l.length=1∨(byt l 0).toNat≠48))=true:=decide_eq_true (by omega)
  refine W.loop (fun k=>k≤l.length∧num l=dgL (l.drop k)) (fun k=>[(0,.v (str l)),(23,.v (.int .i64 (l.length:Int))),(24,.v (.int .i64 (k:Int)))]) (fun _=>[]) (fun k=>l.length - k) 0 ⟨Nat.zero_le _,by unfold num;rw[hb];rfl⟩ (fun k ⟨hk,hn⟩=>?_)
  have hs:=ajH l k
  repeat'(first|refine SX.goM ?_|refine SX.W.ite (fun h=>?_) (fun h=>?_)|refine SX.W.iteN (fun h=>?_) (fun h=>?_)|refine SX.W.eO (fun h=>?_) (fun h=>?_)|refine SX.R.ite (fun h=>?_) (fun h=>?_)|refine SX.R.iteN (fun h=>?_) (fun h=>?_)|refine SX.R.eO (fun h=>?_) (fun h=>?_))
  ·refine bK ?_;rw[hn,hs (by omega),decide_eq_false (by omega)];rfl
  ·exact W.next (k+1) ⟨by omega,by rw[hn,hs (by omega),decide_eq_true (by omega)];rfl⟩ (by omega)
  ·refine bK ?_;rw[hn,List.drop_eq_nil_of_le (by omega)];rfl⟩
def nam(l:List UInt8):Bool:=decide (1≤l.length∧l.length≤30∧srt (byt l 0)=3∧run l=l.length)
instance con_name(l:List UInt8):Con Tryz.prog 130 [.v (str l)] (l.length≤9223372036854775807) (.v (.bool (nam l))):=⟨fun hl=>by
 refine PureOK.fnF Tryz.func130 Tryz.results130 Tryz.ntmps130 rfl rfl rfl (by simp[AV.ids,AV0.ids,Atom.ids]) rfl (fun w0 T B E0 hB=>?_)
 repeat'(first|refine SX.goM ?_|refine SX.W.ite (fun h=>?_) (fun h=>?_)|refine SX.W.iteN (fun h=>?_) (fun h=>?_)|refine SX.W.eO (fun h=>?_) (fun h=>?_)|refine SX.R.ite (fun h=>?_) (fun h=>?_)|refine SX.R.iteN (fun h=>?_) (fun h=>?_)|refine SX.R.eO (fun h=>?_) (fun h=>?_))
 all_goals(refine bK ?_;unfold nam;first|(rw[eq_comm];exact decide_eq_true (by omega))|(rw[eq_comm];exact decide_eq_false (by omega))|(rw[decide_eq_decide];omega))⟩
def sg1(l:List UInt8):Bool:=decide (l.length=1∧byt l 0∈[43,45,42,47,94,40,41,91,93,123,125,44,59,61,60])
theorem alj{l:List UInt8}(h:l.length=1):∃c,l=[c]:=by
 match l,h with
 |[c],_=>exact⟨c,rfl⟩
instance alY(l:List UInt8)(c:UInt8):Con Tryz.prog 177 [.v (str l),.v (str [c])] True (.v (.bool (decide (0≤ixL l c)))):=⟨fun _=>
 ajv (args:=[str l,str [c]]) ⟨_,Tryz.func177,rfl,rfl⟩ fun w=>(Tryz.strings_Contains_one ⟨⟨l⟩⟩ c w).mono fun e w' ⟨h1,h2⟩=>⟨h1,h2⟩⟩
instance con_one(l:List UInt8):Con Tryz.prog 132 [.v (str l)] True (.v (.bool (sg1 l))):=⟨fun hl=>by
 by_cases h1:l.length=1
 ·obtain⟨c,rfl⟩:=alj h1;refine PureOK.fnF Tryz.func132 Tryz.results132 Tryz.ntmps132 rfl rfl rfl (by simp[AV.ids,AV0.ids,Atom.ids]) rfl (fun w0 T B E0 hB=>?_)
  repeat'(first|refine SX.goM ?_|refine SX.W.ite (fun h=>?_) (fun h=>?_)|refine SX.W.iteN (fun h=>?_) (fun h=>?_)|refine SX.W.eO (fun h=>?_) (fun h=>?_)|refine SX.R.ite (fun h=>?_) (fun h=>?_)|refine SX.R.iteN (fun h=>?_) (fun h=>?_)|refine SX.R.eO (fun h=>?_) (fun h=>?_))
  all_goals(refine bK ?_;unfold sg1;rw[decide_eq_decide,anu];simp[byt])
 ·refine PureOK.fnF Tryz.func132 Tryz.results132 Tryz.ntmps132 rfl rfl rfl (by simp[AV.ids,AV0.ids,Atom.ids]) rfl (fun w0 T B E0 hB=>?_)
  repeat'(first|refine SX.goM ?_|refine SX.W.ite (fun h=>?_) (fun h=>?_)|refine SX.W.iteN (fun h=>?_) (fun h=>?_)|refine SX.W.eO (fun h=>?_) (fun h=>?_)|refine SX.R.ite (fun h=>?_) (fun h=>?_)|refine SX.R.iteN (fun h=>?_) (fun h=>?_)|refine SX.R.eO (fun h=>?_) (fun h=>?_))
  all_goals(refine bK ?_;rw[eq_comm];exact decide_eq_false (by omega))⟩
attribute [irreducible] sg1 nam num wrd srt
end
section
structure Tok where
 kind:Int
 text:List UInt8
 pos:Int
def ze(t:Tok):List CA:=[.val (.int .i64 t.kind),.val (str t.text),.val (.int .i64 t.pos)]
abbrev tokA(t:Tok):List Atom:=[.c (.val (.int .i64 t.kind)),.c (.val (str t.text)),.c (.val (.int .i64 t.pos))]
instance:eB ze 3:=⟨fun _=>rfl⟩
def fst(l:List UInt8):Tok:=
 if num (l.take (run l))then⟨1,l.take (run l),0⟩else if nam (l.take (run l))then⟨2,l.take (run l),0⟩else
 if 2≤l.length∧(l.take 2=[61,61]∨l.take 2=[33,61]∨l.take 2=[60,61]∨l.take 2=[46,46])then⟨3,l.take 2,0⟩else if sg1 (l.take 1)then⟨3,l.take 1,0⟩else⟨0,[],0⟩
instance apU(l:List UInt8):Con Tryz.prog 83 [.v (str l)] (l.length≤1000000000∧1≤l.length) (.agg (tokA (fst l))):=⟨fun⟨hl,h0⟩=>by
 have h1:=akK l;have h2:(l.take (run l)).length≤1000000000:=by rw[List.length_take];omega
 refine PureOK.fnF Tryz.func83 Tryz.results83 Tryz.ntmps83 rfl rfl rfl (by simp[AV.ids,AV0.ids,Atom.ids]) rfl (fun w0 T B E0 hB=>?_)
 repeat'(first|refine SX.goM ?_|refine SX.W.ite (fun h=>?_) (fun h=>?_)|refine SX.W.iteN (fun h=>?_) (fun h=>?_)|refine SX.W.eO (fun h=>?_) (fun h=>?_)|refine SX.R.ite (fun h=>?_) (fun h=>?_)|refine SX.R.iteN (fun h=>?_) (fun h=>?_)|refine SX.R.eO (fun h=>?_) (fun h=>?_))
 all_goals(refine qg (aj.aX rfl rfl rfl) ?_)
 all_goals(unfold fst;first|rw[if_pos (by assumption)]|(rw[if_neg (by simp[*]),if_pos (by assumption)])|(rw[if_neg (by simp[*]),if_neg (by simp[*]),if_pos ⟨by omega,by assumption⟩])|(rw[if_neg (by simp[*]),if_neg (by simp[*]),if_neg (by omega)];first|rw[if_pos (by assumption)]|(rw[if_neg (by simp[*])];rfl))|(rw[if_neg (by simp[*]),if_neg (by simp[*]),if_neg (fun h=>by simp_all)];first|rw[if_pos (by assumption)]|(rw[if_neg (by simp[*])];rfl)))⟩
def gp:Bool→List UInt8→Nat
 |_,[]=>0
 |false,c::l=>if srt c=1 then 1+gp false l else if c.toNat=35 then 1+gp true l else 0
 |true,c::l=>if c.toNat=10 then 1+gp false l else 1+gp true l
theorem anV:∀l:List UInt8,gp true l=if ixL l 10 < 0 then l.length else(ixL l 10).toNat+1+gp false (l.drop ((ixL l 10).toNat+1))
 |[]=>by simp[gp,ixL,Lib.indexByte]
 |c::l=>by
  have ih:=anV l;have hg: -1≤ixL l 10:=Lib.indexByte_ge l 10;rw[gp,yH];by_cases h:c=10
  ·subst h;simp
  ·have h':¬c.toNat=10:=fun e=>h (UInt8.toNat_inj.1 e)
   rw[if_neg h',if_neg h,ih];by_cases h2:ixL l 10= -1
   ·simp[h2];omega
   ·rw[if_neg h2,if_neg (by omega),if_neg (by omega),show (ixL l 10+1).toNat=(ixL l 10).toNat+1 by omega,List.drop_succ_cons];omega
theorem apL(l:List UInt8)(c:UInt8):ixL l c < l.length:=by
 induction l with
 |nil=>simp[ixL,Lib.indexByte]
 |cons b l ih=>
  rw[yH,List.length_cons]
  repeat' split
  all_goals omega
theorem aaJ:∀(b:Bool) (l:List UInt8),gp b l≤l.length
 |_,[]=>by simp[gp]
 |false,c::l=>by
  have h1:=aaJ false l;have h2:=aaJ true l;unfold gp;repeat' split
  all_goals(simp only[List.length_cons];omega)
 |true,c::l=>by
  have h1:=aaJ false l;have h2:=aaJ true l;unfold gp;repeat' split
  all_goals(simp only[List.length_cons];omega)
instance con_gap(l:List UInt8):Con Tryz.prog 82 [.v (str l)] (l.length≤1000000000) (.v (.int .i64 (gp false l:Int))):=⟨fun hl=>by
 refine PureOK.fnF Tryz.func82 Tryz.results82 Tryz.ntmps82 rfl rfl rfl (by simp[AV.ids,AV0.ids,Atom.ids]) rfl (fun w0 T B E0 hB=>?_)
 refine SX.goM ?_;refine W.loop (fun k=>k≤l.length∧gp false l=k+gp false (l.drop k)) (fun k=>[(0,.v (str l)),(3,.v (.int .i64 (k:Int)))]) (fun _=>[]) (fun k=>l.length - k) 0 ⟨Nat.zero_le _,by simp⟩ (fun k ⟨hk,hn⟩=>?_)
 have hx1:=apL (l.drop k) 10;have hx2: -1≤ixL (l.drop k) 10:=Lib.indexByte_ge _ _;have hx3:(l.drop k).length=l.length - k:=List.length_drop;have hc:k < l.length→gp false (l.drop k)=if srt (byt l k)=1 then 1+gp false (l.drop (k+1))else if(byt l k).toNat=35 then gp true (l.drop k)else 0:=fun h=>by
  have hb:byt l k=l[k]:=by simp[byt,h]
  rw[List.drop_eq_getElem_cons h,gp,gp,hb];by_cases h35:l[k].toNat=35
  ·simp[h35]
  ·simp[h35]
 have hi:=anV (l.drop k);rw[List.drop_drop]at hi
 repeat'(first|refine SX.goM ?_|refine SX.W.ite (fun h=>?_) (fun h=>?_)|refine SX.W.iteN (fun h=>?_) (fun h=>?_)|refine SX.W.eO (fun h=>?_) (fun h=>?_)|refine SX.R.ite (fun h=>?_) (fun h=>?_)|refine SX.R.iteN (fun h=>?_) (fun h=>?_)|refine SX.R.eO (fun h=>?_) (fun h=>?_))
 ·rw[if_pos (by omega)]at hc
  exact W.next (k+1) ⟨by omega,by rw[hn,hc (by omega)];omega⟩ (by omega)
 ·rw[if_neg (by omega),if_pos (by omega),hi,if_pos (by omega)]at hc
  refine iN ?_;rw[hn,hc (by omega)];omega
 ·rw[if_neg (by omega),if_pos (by omega),hi,if_neg (by omega)]at hc
  exact W.next (k+((ixL (l.drop k) 10).toNat+1)) ⟨by omega,by rw[hn,hc (by omega)];omega⟩ (by omega)
 ·rw[if_neg (by omega),if_neg (by omega)]at hc
  refine iN ?_;rw[hn,hc (by omega)];omega
 ·rw[List.drop_eq_nil_of_le (by omega)]at hn
  refine iN ?_;rw[hn,gp];omega⟩
attribute [irreducible] fst gp
theorem afF(l:List UInt8):(fst l).text.length≤l.length:=by
 unfold fst
 repeat' split
 all_goals simp[List.length_take];try omega
def nX(l:List UInt8)(k:Nat):List Tok×Option Nat:=
 if h:l.length≤k then([],none)else
 if h0:(fst (l.drop k)).kind=0∨(fst (l.drop k)).text.length=0 then([],some k)else
 let r:=nX l (k+(fst (l.drop k)).text.length+gp false (l.drop (k+(fst (l.drop k)).text.length)))
 (⟨(fst (l.drop k)).kind,(fst (l.drop k)).text,k⟩::r.1,r.2)
termination_by l.length - k
decreasing_by omega
def ach(l:List UInt8):List Tok×Nat×Nat:=
 if 20000 < l.length then([],0,7)else
 match (nX l (gp false l)).2 with
 |some k=>([],k,4)
 |none=>((nX l (gp false l)).1,0,0)
abbrev tupL(r:List Tok×Nat×Nat):AV:= .tup [.one (.c (.sat (aF 3 ze r.1))),.one (.c (.val (.int .i64 (r.2.1:Int)))),.one (.c (.val (.int .i64 (r.2.2:Int))))]
theorem anv(l:List UInt8)(h:1≤l.length)(hk:(fst l).kind≠0):(fst l).text.length≠0:=by
 have hn:num []=false:=by unfold num;rfl
 have hm:nam []=false:=by unfold nam;rfl
 intro e;unfold fst at*
 split at hk
 ·rename_i h1;rw[if_pos h1]at e;rw[List.eq_nil_of_length_eq_zero (show (l.take (run l)).length=0 from e),hn]at h1;cases h1
 ·rename_i h1;rw[if_neg h1]at e
  split at hk
  ·rename_i h2;rw[if_pos h2]at e;rw[List.eq_nil_of_length_eq_zero (show (l.take (run l)).length=0 from e),hm]at h2;cases h2
  ·rename_i h2;rw[if_neg h2]at e
   split at hk
   ·rename_i h3;rw[if_pos h3]at e;have e':(l.take 2).length=0:=e;rw[List.length_take]at e';omega
   ·rename_i h3;rw[if_neg h3]at e
    split at hk
    ·rename_i h4;rw[if_pos h4]at e;have e':(l.take 1).length=0:=e;rw[List.length_take]at e';omega
    ·exact absurd rfl hk
instance amK(l:List UInt8):Con Tryz.prog 41 [.v (str l)] (l.length≤1000000000) (tupL (ach l)):=⟨fun hl=>by
 refine PureOK.fnF Tryz.func41 Tryz.results41 Tryz.ntmps41 rfl rfl rfl (by simp[AV.ids,AV0.ids,Atom.ids]) rfl (fun w0 T B E0 hB=>?_)
 have hg:=aaJ false l
 repeat'(first|refine SX.goM ?_|refine SX.W.ite (fun h=>?_) (fun h=>?_)|refine SX.W.iteN (fun h=>?_) (fun h=>?_)|refine SX.W.eO (fun h=>?_) (fun h=>?_)|refine SX.R.ite (fun h=>?_) (fun h=>?_)|refine SX.R.iteN (fun h=>?_) (fun h=>?_)|refine SX.R.eO (fun h=>?_) (fun h=>?_))
 ·refine sP (aj.tmp rfl) (aj.tmp rfl) (aj.tmp rfl) ?_ ?_ ?_;all_goals(unfold ach;rw[if_pos (by omega)])
  ·exact imp_nil
  all_goals exact AV0.imp.refl _
 ·refine W.lC (fun(k:Nat) (ts:List Tok)=>k≤l.length∧ts.length≤k∧nX l (gp false l)=(ts++(nX l k).1,(nX l k).2))
   (fun k ts=>[(0,.v (str l)),(5,.own 100),(6,.v (.int .i64 (k:Int)))]) (fun k ts=>[(100,.row 136 3 ts.length (ts.flatMap ze))]) (fun k _=>l.length - k) (gp false l) [] ⟨hg,Nat.zero_le _,by simp⟩ (fun k ts ⟨hk,hts,hx⟩=>?_)
  have hdl:(l.drop k).length=l.length - k:=List.length_drop;have h2:=anv (l.drop k);have h3:=afF (l.drop k);have h4:=aaJ false (l.drop (k+(fst (l.drop k)).text.length));have hdl2:(l.drop (k+(fst (l.drop k)).text.length)).length=l.length - (k+(fst (l.drop k)).text.length):=List.length_drop;have hw:=nX.eq_1 l k
  repeat'(first|refine SX.goM ?_|refine SX.W.ite (fun h=>?_) (fun h=>?_)|refine SX.W.iteN (fun h=>?_) (fun h=>?_)|refine SX.W.eO (fun h=>?_) (fun h=>?_)|refine SX.R.ite (fun h=>?_) (fun h=>?_)|refine SX.R.iteN (fun h=>?_) (fun h=>?_)|refine SX.R.eO (fun h=>?_) (fun h=>?_))
  ·rw[dif_neg (by omega),dif_pos (.inl (by assumption))]at hw
   refine sP (aj.tmp rfl) (aj.tmp rfl) (aj.tmp rfl) ?_ ?_ ?_;all_goals(unfold ach;rw[if_neg (by omega),hx,hw])
   ·exact imp_nil
   all_goals exact AV0.imp.refl _
  ·rw[dif_neg (by omega),dif_neg (by omega)]at hw
   exact W.kG (k+(fst (l.drop k)).text.length+gp false (l.drop (k+(fst (l.drop k)).text.length))) (ts++[⟨(fst (l.drop k)).kind,(fst (l.drop k)).text,k⟩]) ⟨by omega,by simp;omega,by rw[hx,hw];simp⟩ (by omega)
  ·rw[dif_pos (by omega)]at hw
   refine aL.frz 100 ?_;refine sP (aj.tmp rfl) (aj.tmp rfl) (aj.tmp rfl) ?_ ?_ ?_;all_goals(unfold ach;rw[if_neg (by omega),hx,hw])
   ·simp only[List.append_nil];exact AV0.imp.refl _
   all_goals exact AV0.imp.refl _⟩
def fV(t:Tok):Bool:=if t.kind=1 then num t.text else if t.kind=2 then nam t.text else if t.kind=3 then sg1 t.text||decide (t.text=[61,61]∨t.text=[33,61]∨t.text=[60,61]∨t.text=[46,46])else false
instance apR(t:Tok):Con Tryz.prog 84 [.agg (tokA t)] (t.text.length≤9223372036854775807) (.v (.bool (fV t))):=⟨fun hl=>by
 refine PureOK.fnF Tryz.func84 Tryz.results84 Tryz.ntmps84 rfl rfl rfl (by simp[AV.ids,AV0.ids,Atom.ids]) rfl (fun w0 T B E0 hB=>?_)
 repeat'(first|refine SX.goM ?_|refine SX.W.ite (fun h=>?_) (fun h=>?_)|refine SX.W.iteN (fun h=>?_) (fun h=>?_)|refine SX.W.eO (fun h=>?_) (fun h=>?_)|refine SX.R.ite (fun h=>?_) (fun h=>?_)|refine SX.R.iteN (fun h=>?_) (fun h=>?_)|refine SX.R.eO (fun h=>?_) (fun h=>?_))
 all_goals(refine bK ?_;simp[fV, *])⟩
def joinR(ts:List Tok):List UInt8×Nat:=
 if ts.all fV then(if 20001 < min 40000 (ts.foldl (fun n t=>min (n+t.text.length+1) 40000) 0)then([],7)else(Lib.join (ts.map (·.text)) [32],0))else([],1)
attribute [irreducible] ach joinR fV
end
section
theorem srt2(c:UInt8):srt c=2↔48≤c.toNat∧c.toNat≤57:=by
 unfold srt;(repeat' split) <;> omega
theorem srt3(c:UInt8):srt c=3↔97≤c.toNat∧c.toNat≤122:=by
 unfold srt;(repeat' split) <;> omega
theorem alZ(l:List UInt8):num l=(decide (1≤l.length∧l.length≤2000∧(l.length=1∨(byt l 0).toNat≠48))&&l.all fun c=>decide (srt c=2)):=by unfold num;rfl
theorem afQ:∀l:List UInt8,run l=l.length↔l.all wrd=true
 |[]=>by simp[run]
 |c::l=>by
  have ih:=afQ l;unfold run at*;cases h:wrd c
  ·simp[List.takeWhile_cons,h]
  ·simp[List.takeWhile_cons,h,ih]
theorem amO(l:List UInt8):nam l=(decide (1≤l.length∧l.length≤30∧srt (byt l 0)=3)&&l.all wrd):=by
 have:=afQ l;unfold nam;rw[Bool.eq_iff_iff];simp[this];simp[←and_assoc]
def sgt(l:List UInt8):Bool:=sg1 l||decide (l=[61,61]∨l=[33,61]∨l=[60,61]∨l=[46,46])
theorem agd(l:List UInt8):sg1 l=true↔∃c,l=[c]∧c∈[43,45,42,47,94,40,41,91,93,123,125,44,59,61,60]:=by
 unfold sg1;rw[decide_eq_true_iff];constructor
 ·rintro⟨h1,h2⟩;obtain⟨c,rfl⟩:=alj h1;exact⟨c,rfl,by simpa[byt]using h2⟩
 ·rintro⟨c,rfl,h⟩;exact⟨rfl,by simpa[byt]using h⟩
theorem ag0(l:List UInt8):sgt l=true↔(∃c,l=[c]∧c∈[43,45,42,47,94,40,41,91,93,123,125,44,59,61,60])∨(l=[61,61]∨l=[33,61]∨l=[60,61]∨l=[46,46]):=by
 unfold sgt;rw[Bool.or_eq_true,agd,decide_eq_true_iff]
theorem ad9(t:Tok):fV t=if t.kind=1 then num t.text else if t.kind=2 then nam t.text else if t.kind=3 then sgt t.text else false:=by unfold fV sgt;rfl
attribute [irreducible] sgt
end
end
section
theorem am5(l:List UInt8):(fst l).text=l.take (fst l).text.length:=by
 have key:∀n:Nat,l.take n=l.take (l.take n).length:=fun n=>by
  rw[List.length_take,List.take_eq_take_iff];omega
 unfold fst
 repeat' split
 all_goals first|exact key _|simp
theorem amb(l:List UInt8)(h:(fst l).kind≠0)(p:Int):fV ⟨(fst l).kind,(fst l).text,p⟩=true:=by
 rw[ad9];unfold fst at*
 repeat' split at h
 all_goals first|exact absurd rfl h|skip
 ·rename_i h1;rw[if_pos h1];exact h1
 ·rename_i h1 h2;rw[if_neg h1,if_pos h2];exact h2
 ·rename_i h1 h2 h3;rw[if_neg h1,if_neg h2,if_pos h3];show sgt _=true;rw[ag0];exact .inr h3.2
 ·rename_i h1 h2 h3 h4;rw[if_neg h1,if_neg h2,if_neg h3,if_pos h4];show sgt _=true;rw[ag0];exact .inl ((agd _).1 h4)
theorem aay{l:List UInt8}(h:num l=true):l.all wrd=true∧∃c m,l=c::m∧srt c=2:=by
 rw[alZ,Bool.and_eq_true,decide_eq_true_iff]at h;obtain⟨h1,h2⟩:=h;refine⟨?_,?_⟩
 ·rw[List.all_eq_true]at*;intro c hc;have:=h2 c hc;unfold wrd;rw[this];rfl
 ·match l,h1 with
  |c::m,_=>exact⟨c,m,rfl,by simpa using(List.all_eq_true.1 h2) c (by simp)⟩
theorem aa9{l:List UInt8}(h:nam l=true):l.all wrd=true∧∃c m,l=c::m∧srt c=3:=by
 rw[amO,Bool.and_eq_true,decide_eq_true_iff]at h;obtain⟨h1,h2⟩:=h;refine⟨h2,?_⟩
 match l,h1 with
 |c::m,h1=>exact⟨c,m,rfl,by simpa[byt]using h1.2.2⟩
def okP(l:List UInt8):Nat→List Tok→Prop
 |_,[]=>True
 |n,t::ts=>∃p:Nat,t.pos=p∧n≤p∧t.text≠[]∧p+t.text.length≤l.length∧(l.drop p).take t.text.length=t.text∧okP l (p+t.text.length) ts
theorem akt(l:List UInt8){m n:Nat}(h:m≤n):∀ts,okP l n ts→okP l m ts
 |[],_=>trivial
 |t::ts,⟨p,h1,h2,h3⟩=>⟨p,h1,by omega,h3⟩
theorem afM(l:List UInt8)(k:Nat):okP l k (nX l k).1∧((nX l k).1).all fV=true∧((nX l k).1.map fun t=>t.text.length+1).sum≤2*(l.length - k):=by
 rw[nX.eq_1];have hlen:(l.drop k).length=l.length - k:=List.length_drop;have h3:=afF (l.drop k)
 split
 ·exact⟨trivial,rfl,by simp⟩
 ·rename_i hk
  split
  ·exact⟨trivial,rfl,by simp⟩
  ·rename_i hf;have ih:=afM l (k+(fst (l.drop k)).text.length+gp false (l.drop (k+(fst (l.drop k)).text.length)));refine⟨⟨k,rfl,Nat.le_refl _,fun e=>?_,?_,?_,akt l (by show k+(fst (l.drop k)).text.length≤_;omega) _ ih.1⟩,?_,?_⟩
   ·have e':(fst (l.drop k)).text=[]:=e;rw[e']at hf;simp at hf
   ·show k+(fst (l.drop k)).text.length≤_;omega
   ·exact(am5 (l.drop k)).symm
   ·rw[List.all_cons,ih.2.1,amb _ (fun e=>hf (.inl e))];rfl
   ·rw[List.map_cons,List.sum_cons];show (fst (l.drop k)).text.length+1+_≤_;have:=ih.2.2;have h4:(fst (l.drop k)).text.length≠0:=fun e=>hf (.inr e)
    omega
termination_by l.length - k
decreasing_by omega
section
inductive Nd where
 |mk (op:Int) (text:List UInt8) (kids:List Nd)
def Nd.op:Nd→Int| .mk o _ _=>o
def Nd.text:Nd→List UInt8| .mk _ t _=>t
def Nd.kids:Nd→List Nd| .mk _ _ k=>k
mutual
def ndC:Nd→List CA
 | .mk o t ks=>[.val (.int .i64 o),.val (str t),.sat (aM 3 ks.length (ndL ks))]
def ndL:List Nd→List CA
 |[]=>[]
 |k::ks=>ndC k++ndL ks
end
theorem aiU:∀ks:List Nd,ndL ks=ks.flatMap ndC
 |[]=>by rw[ndL];rfl
 |k::ks=>by rw[ndL,aiU ks,List.flatMap_cons]
theorem alm(o:Int)(t:List UInt8)(ks:List Nd):ndC (.mk o t ks)=[.val (.int .i64 o),.val (str t),.sat (aF 3 ndC ks)]:=by
 rw[ndC,aiU]
theorem aD(n:Nd):ndC n=[.val (.int .i64 n.op),.val (str n.text),.sat (aF 3 ndC n.kids)]:=by
 cases n;exact alm _ _ _
instance:afp ndC:=⟨fun n=>by rw[aD];rfl⟩
abbrev ndA(n:Nd):List Atom:=[.c (.val (.int .i64 n.op)),.c (.val (str n.text)),.c (.sat (aF 3 ndC n.kids))]
abbrev PB(l:List Tok)(a o:Nat)(bad:Nat)(has:Bool)(tq:Nat):Ent:= .box 141 [.c (.sat (aF 3 ze l)),.c (.val (.int .i64 (a:Int))),.c (.val (.int .i64 (o:Int))),.c (.val (.int .i64 (bad:Int))),.c (.val (.bool has)),.c (.val (.int .i64 (tq:Int)))]
def ownB(s:List UInt8):Bool:=decide (s=[105,102])||decide (s=[101,108,115,101])||decide (s=[102,111,114])
def isS(l:List Tok)(a:Nat)(s:List UInt8):Bool:=match l[a]? with
 |some t=>!decide (t.kind=1)&&decide (t.text=s)
 |none=>false
def kX(l:List Tok)(a:Nat):Bool:=match l[a]? with
 |some t=>decide (t.kind=2)&&!ownB t.text
 |none=>false
attribute [local irreducible] IntKind.wrap Go1 Reg WP aN aQ bM bI aL aC aj ah aT Sat
theorem ajs(s:List UInt8):PureOK Tryz.prog 183 [.v (str s)] (.v (.bool (ownB s))):=by
 refine PureOK.fnF Tryz.func183 Tryz.results183 Tryz.ntmps183 rfl rfl rfl (by simp[AV.ids,AV0.ids,Atom.ids]) rfl (fun w0 T B E0 hB=>?_)
 repeat'(first|refine SX.goM ?_|refine SX.W.ite (fun h=>?_) (fun h=>?_)|refine SX.W.iteN (fun h=>?_) (fun h=>?_)|refine SX.W.eO (fun h=>?_) (fun h=>?_)|refine SX.R.ite (fun h=>?_) (fun h=>?_)|refine SX.R.iteN (fun h=>?_) (fun h=>?_)|refine SX.R.eO (fun h=>?_) (fun h=>?_))
 all_goals(refine bK ?_;simp[ownB, *])
abbrev PG(l:List Tok)(a o:Nat):Ent:=PB l a o 0 false 0
abbrev PE(l:List Tok)(a o e p:Nat):Ent:=PB l a o e true p
abbrev nd0:Nd:= .mk 0 [] []
theorem ny{o z:Int}{s s':List UInt8}(h:z=o)(hs:s=s'):AV0.imp (.agg [.c (.val (.int .i64 z)),.c (.val (str s)),.c (.val (.slice none 0 0))]) (.agg (ndA (.mk o s' []))):=fun E S w v hv=>by
 obtain⟨vs,rfl,hall⟩:=hv;subst h hs
 match vs,hall with
 |[a,b,c],⟨h1,h2,h3,_⟩=>exact⟨[a,b,c],rfl,h1,h2,imp_nil (size:=3) E S w c h3,trivial⟩
theorem aY{o z:Int}{s s':List UInt8}{n:Nat}{cells:List CA}{ks:List Nd}(h:z=o)(hs:s=s')(hn:n=ks.length)(hc:cells=ks.flatMap ndC):AV0.imp (.agg [.c (.val (.int .i64 z)),.c (.val (str s)),.c (.sat (aM 3 n cells))]) (.agg (ndA (.mk o s' ks))):=by
 subst h hs hn hc;exact AV0.imp.refl _
theorem aK{P:Program}{C:Ctx}{st:St}{r:ResultVar}{x y:AV0}{l:List (Nat×Slot)}(h:aj P st r x)(e:x.imp y)(hh:zU st l):aL C P [r] ⟨.it y,l⟩ st:=gG (xs:=[y]) ⟨h.imp e,trivial⟩ hh
theorem ahc(l:List Tok)(a o e p:Nat):ah Tryz.prog 219 [.ptr 29 0,.v (.int .i64 (e:Int)),.v (.int .i64 (p:Int))] [(29,PG l a o)] ⟨.agg (ndA nd0),[(29,.ent (PE l a o e p))]⟩:=by
 refine ah.fnF Tryz.func219 Tryz.results219 Tryz.ntmps219 rfl rfl rfl rfl (fun w0 T B E0 hB=>?_)
 refine SX.goM ?_;exact aK (aj.aX rfl rfl rfl) (ny rfl rfl) ⟨rfl,trivial⟩
theorem afK(l:List Tok)(a o e p e' p':Nat):ah Tryz.prog 219 [.ptr 29 0,.v (.int .i64 (e':Int)),.v (.int .i64 (p':Int))] [(29,PE l a o e p)] ⟨.agg (ndA nd0),[(29,.ent (PE l a o e p))]⟩:=by
 refine ah.fnF Tryz.func219 Tryz.results219 Tryz.ntmps219 rfl rfl rfl rfl (fun w0 T B E0 hB=>?_)
 refine SX.goM ?_;exact aK (aj.aX rfl rfl rfl) (ny rfl rfl) ⟨rfl,trivial⟩
theorem rC(l:List Tok)(a o:Nat):ah Tryz.prog 182 [.ptr 29 0] [(29,PG l a o)] ⟨.agg (ndA nd0),[(29,.ent (PE l a o 4 a))]⟩:=by
 have c:=ahc l a o 4 a;refine ah.fnF Tryz.func182 Tryz.results182 Tryz.ntmps182 rfl rfl rfl rfl (fun w0 T B E0 hB=>?_)
 refine SX.goM ?_;exact aK (aj.aX rfl rfl rfl) (AV0.imp.refl _) ⟨rfl,trivial⟩
theorem adi(l:List Tok)(a o e p:Nat):ah Tryz.prog 182 [.ptr 29 0] [(29,PE l a o e p)] ⟨.agg (ndA nd0),[(29,.ent (PE l a o e p))]⟩:=by
 have c:=afK l a o e p 4 a;refine ah.fnF Tryz.func182 Tryz.results182 Tryz.ntmps182 rfl rfl rfl rfl (fun w0 T B E0 hB=>?_)
 refine SX.goM ?_;exact aK (aj.aX rfl rfl rfl) (AV0.imp.refl _) ⟨rfl,trivial⟩
theorem lW{P:Program}{C:Ctx}{st:St}{t:Tmp}{b b':Bool}{l:List (Nat×Slot)}(e:b=b')(hh:zU st l)(h:st.tm t=some (.v (.bool b)):=by rfl):aL C P [.tmp t] ⟨.v (.bool b'),l⟩ st:=gG (xs:=[.one (.c (.val (.bool b')))]) ⟨by rw[←e];exact aj.tmp h,trivial⟩ hh
theorem anF{P:Program}{C:Ctx}{st:St}{t:Tmp}{b b':List UInt8}{l:List (Nat×Slot)}(e:b=b')(hh:zU st l)(h:st.tm t=some (.v (str b)):=by rfl):aL C P [.tmp t] ⟨.v (str b'),l⟩ st:=gG (xs:=[.one (.c (.val (str b')))]) ⟨by rw[←e];exact aj.tmp h,trivial⟩ hh
theorem aj5{P:Program}{C:Ctx}{st:St}{l:List (Nat×Slot)}(hh:zU st l):aL C P [] ⟨.tup [],l⟩ st:=gG (xs:=[]) trivial hh
theorem anO(l:List Tok)(a o:Nat)(s:List UInt8):ah Tryz.prog 178 [.ptr 29 0,.v (str s)] [(29,PG l a o)] ⟨.v (.bool (isS l a s)),[(29,.ent (PG l a o))]⟩:=by
 by_cases h:a < l.length
 ·obtain⟨⟨tk,tt,tp⟩,ht⟩:∃t,l[a]? =some t:=⟨_,List.getElem?_eq_getElem h⟩
  have hv:isS l a s=(!decide (tk=1)&&decide (tt=s)):=by unfold isS;rw[ht]
  rw[hv];by_cases hk:tk=1
  ·subst hk;have e1:decide ((1:Int)≠1)=false:=by decide
   refine ah.fnF Tryz.func178 Tryz.results178 Tryz.ntmps178 rfl rfl rfl rfl (fun w0 T B E0 hB=>?_)
   refine SX.goM ?_;exact lW rfl ⟨rfl,trivial⟩
  ·refine ah.fnF Tryz.func178 Tryz.results178 Tryz.ntmps178 rfl rfl rfl rfl (fun w0 T B E0 hB=>?_)
   refine SX.goM ?_
   (refine lW ?_ ⟨rfl,trivial⟩;simp[hk])
 ·have hv:isS l a s=false:=by unfold isS;rw[List.getElem?_eq_none (by omega)]
  rw[hv];refine ah.fnF Tryz.func178 Tryz.results178 Tryz.ntmps178 rfl rfl rfl rfl (fun w0 T B E0 hB=>?_)
  refine SX.goM ?_;exact lW rfl ⟨rfl,trivial⟩
theorem c_isE(l:List Tok)(a o e p:Nat)(s:List UInt8):ah Tryz.prog 178 [.ptr 29 0,.v (str s)] [(29,PE l a o e p)] ⟨.v (.bool false),[(29,.ent (PE l a o e p))]⟩:=by
 refine ah.fnF Tryz.func178 Tryz.results178 Tryz.ntmps178 rfl rfl rfl rfl (fun w0 T B E0 hB=>?_)
 refine SX.goM ?_;exact lW rfl ⟨rfl,trivial⟩
theorem bf{l:List Tok}{a:Nat}{s:List UInt8}(h:isS l a s=true):a < l.length:=by
 refine Nat.lt_of_not_le fun hn=>?_
 unfold isS at h;rw[List.getElem?_eq_none hn]at h;cases h
theorem dP{l:List Tok}{a:Nat}(o:Nat){s:List UInt8}(hl:l.length≤1000000)(h:isS l a s=true):ah Tryz.prog 133 [.ptr 29 0,.v (str s)] [(29,PG l a o)] ⟨.v (.bool true),[(29,.ent (PG l (a+1) o))]⟩:=by
 have hlt:=bf h;have c:=anO l a o s;rw[h]at c;refine ah.fnF Tryz.func133 Tryz.results133 Tryz.ntmps133 rfl rfl rfl rfl (fun w0 T B E0 hB=>?_)
 refine SX.goM ?_;exact lW rfl ⟨rfl,trivial⟩
theorem dG{l:List Tok}{a:Nat}(o:Nat){s:List UInt8}(h:isS l a s=false):ah Tryz.prog 133 [.ptr 29 0,.v (str s)] [(29,PG l a o)] ⟨.v (.bool false),[(29,.ent (PG l a o))]⟩:=by
 have c:=anO l a o s;rw[h]at c;refine ah.fnF Tryz.func133 Tryz.results133 Tryz.ntmps133 rfl rfl rfl rfl (fun w0 T B E0 hB=>?_)
 refine SX.goM ?_;exact lW rfl ⟨rfl,trivial⟩
theorem dx(l:List Tok)(a o e p:Nat)(s:List UInt8):ah Tryz.prog 133 [.ptr 29 0,.v (str s)] [(29,PE l a o e p)] ⟨.v (.bool false),[(29,.ent (PE l a o e p))]⟩:=by
 have c:=c_isE l a o e p s;refine ah.fnF Tryz.func133 Tryz.results133 Tryz.ntmps133 rfl rfl rfl rfl (fun w0 T B E0 hB=>?_)
 refine SX.goM ?_;exact lW rfl ⟨rfl,trivial⟩
theorem jk{l:List Tok}{a:Nat}(o:Nat){s:List UInt8}(hl:l.length≤1000000)(h:isS l a s=true):ah Tryz.prog 137 [.ptr 29 0,.v (str s)] [(29,PG l a o)] ⟨.tup [],[(29,.ent (PG l (a+1) o))]⟩:=by
 have c:=dP o hl h;refine ah.fnF Tryz.func137 Tryz.results137 Tryz.ntmps137 rfl rfl rfl rfl (fun w0 T B E0 hB=>?_)
 refine SX.goM ?_;exact aj5 ⟨rfl,trivial⟩
theorem jV{l:List Tok}{a:Nat}(o:Nat){s:List UInt8}(h:isS l a s=false):ah Tryz.prog 137 [.ptr 29 0,.v (str s)] [(29,PG l a o)] ⟨.tup [],[(29,.ent (PE l a o 4 a))]⟩:=by
 have c:=dG o h;have c2:=rC l a o;refine ah.fnF Tryz.func137 Tryz.results137 Tryz.ntmps137 rfl rfl rfl rfl (fun w0 T B E0 hB=>?_)
 refine SX.goM ?_;exact aj5 ⟨rfl,trivial⟩
theorem iR(l:List Tok)(a o e p:Nat)(s:List UInt8):ah Tryz.prog 137 [.ptr 29 0,.v (str s)] [(29,PE l a o e p)] ⟨.tup [],[(29,.ent (PE l a o e p))]⟩:=by
 have c:=dx l a o e p s;have c2:=adi l a o e p;refine ah.fnF Tryz.func137 Tryz.results137 Tryz.ntmps137 rfl rfl rfl rfl (fun w0 T B E0 hB=>?_)
 refine SX.goM ?_;exact aj5 ⟨rfl,trivial⟩
theorem rY(l:List Tok)(a:Nat){o:Nat}(h:o+1≤600):ah Tryz.prog 218 [.ptr 29 0] [(29,PG l a o)] ⟨.v (.bool true),[(29,.ent (PG l a (o+1)))]⟩:=by
 refine ah.fnF Tryz.func218 Tryz.results218 Tryz.ntmps218 rfl rfl rfl rfl (fun w0 T B E0 hB=>?_)
 refine SX.goM ?_;exact lW rfl ⟨rfl,trivial⟩
theorem sJ(l:List Tok)(a:Nat){o:Nat}(h:600 < o+1)(ho:o≤1000000):ah Tryz.prog 218 [.ptr 29 0] [(29,PG l a o)] ⟨.v (.bool false),[(29,.ent (PE l a (o+1) 8 0))]⟩:=by
 have c:=ahc l a (o+1) 8 0;refine ah.fnF Tryz.func218 Tryz.results218 Tryz.ntmps218 rfl rfl rfl rfl (fun w0 T B E0 hB=>?_)
 refine SX.goM ?_;exact lW rfl ⟨rfl,trivial⟩
theorem akI(l:List Tok)(a:Nat){o:Nat}(e p:Nat)(ho:o≤1000000):ah Tryz.prog 218 [.ptr 29 0] [(29,PE l a o e p)] ⟨.v (.bool false),[(29,.ent (PE l a (o+1) e p))]⟩:=by
 have c:=afK l a (o+1) e p 8 0;by_cases h:600 < o+1
 ·refine ah.fnF Tryz.func218 Tryz.results218 Tryz.ntmps218 rfl rfl rfl rfl (fun w0 T B E0 hB=>?_)
  refine SX.goM ?_;exact lW rfl ⟨rfl,trivial⟩
 ·refine ah.fnF Tryz.func218 Tryz.results218 Tryz.ntmps218 rfl rfl rfl rfl (fun w0 T B E0 hB=>?_)
  refine SX.goM ?_;exact lW rfl ⟨rfl,trivial⟩
theorem oK(l:List Tok)(a o:Nat):ah Tryz.prog 138 [.ptr 29 0] [(29,PG l a o)] ⟨.v (.bool (kX l a)),[(29,.ent (PG l a o))]⟩:=by
 by_cases h:a < l.length
 ·obtain⟨⟨tk,tt,tp⟩,ht⟩:∃t,l[a]? =some t:=⟨_,List.getElem?_eq_getElem h⟩
  have hv:kX l a=(decide (tk=2)&&!ownB tt):=by unfold kX;rw[ht]
  rw[hv];have cO:=ajs tt;by_cases hk:tk=2
  ·refine ah.fnF Tryz.func138 Tryz.results138 Tryz.ntmps138 rfl rfl rfl rfl (fun w0 T B E0 hB=>?_)
   refine SX.goM ?_
   (refine lW ?_ ⟨rfl,trivial⟩;simp[hk])
  ·refine ah.fnF Tryz.func138 Tryz.results138 Tryz.ntmps138 rfl rfl rfl rfl (fun w0 T B E0 hB=>?_)
   refine SX.goM ?_
   (refine lW ?_ ⟨rfl,trivial⟩;simp[hk])
 ·have hv:kX l a=false:=by unfold kX;rw[List.getElem?_eq_none (by omega)]
  rw[hv];refine ah.fnF Tryz.func138 Tryz.results138 Tryz.ntmps138 rfl rfl rfl rfl (fun w0 T B E0 hB=>?_)
  refine SX.goM ?_;exact lW rfl ⟨rfl,trivial⟩
theorem acf{l:List Tok}{a:Nat}(h:kX l a=true):a < l.length:=by
 refine Nat.lt_of_not_le fun hn=>?_
 unfold kX at h;rw[List.getElem?_eq_none hn]at h;cases h
def txt(l:List Tok)(a:Nat):List UInt8:=match l[a]? with
 |some t=>t.text
 |none=>[]
theorem ag1{l:List Tok}{a:Nat}(o:Nat)(hl:l.length≤1000000)(h:kX l a=true):ah Tryz.prog 136 [.ptr 29 0] [(29,PG l a o)] ⟨.v (str (txt l a)),[(29,.ent (PG l (a+1) o))]⟩:=by
 have hlt:=acf h;have c:=oK l a o;rw[h]at c;obtain⟨⟨tk,tt,tp⟩,ht⟩:∃t,l[a]? =some t:=⟨_,List.getElem?_eq_getElem hlt⟩
 have hv:txt l a=tt:=by unfold txt;rw[ht]
 rw[hv];refine ah.fnF Tryz.func136 Tryz.results136 Tryz.ntmps136 rfl rfl rfl rfl (fun w0 T B E0 hB=>?_)
 refine SX.goM ?_;exact anF rfl ⟨rfl,trivial⟩
theorem anE{l:List Tok}{a:Nat}(o:Nat)(h:kX l a=false):ah Tryz.prog 136 [.ptr 29 0] [(29,PG l a o)] ⟨.v (str []),[(29,.ent (PE l a o 4 a))]⟩:=by
 have c:=oK l a o;rw[h]at c;have c2:=rC l a o;refine ah.fnF Tryz.func136 Tryz.results136 Tryz.ntmps136 rfl rfl rfl rfl (fun w0 T B E0 hB=>?_)
 refine SX.goM ?_;exact anF rfl ⟨rfl,trivial⟩
end
section
inductive Res where
 |ok (n:Nd) (a:Nat)
 |bad (e p:Nat) (n:Nd) (a o:Nat)
abbrev Gr:=Nat→Nat→Res
def gV(f:Nd→Nd):Res→Res
 | .ok n a=> .ok (f n) a
 | .bad e p n a o=> .bad e p (f n) a o
section
variable(K:Nat)(l:List Tok)
def thenS(r:Res)(o:Nat)(s:List UInt8):Res:=match r with
 | .ok n a=>if isS l a s then .ok n (a+1)else .bad 4 a n a o
 | .bad e p n a o'=> .bad e p n a o'
def ins(k:Gr):Gr:=fun a o=>if K < o+1 then .bad 8 0 nd0 a (o+1)else match k a (o+1)with
 | .ok n a'=> .ok n a'
 | .bad e p n a' o'=> .bad e p n a' (o' - 1)
def oN(X:Gr)(e:List UInt8):Nat→List Nd→Gr
 |0,_=>fun a o=> .bad 4 a nd0 a o
 |m+1,ks=>fun a o=>match X a o with
  | .bad c p n a' o'=> .bad c p (.mk 0 [] (ks++[n])) a' o'
  | .ok n a'=>if isS l a' e then .ok (.mk 0 [] (ks++[n])) (a'+1)else if isS l a' [44]then oN X e m (ks++[n]) (a'+1) o else .bad 4 a' (.mk 0 [] (ks++[n])) a' o
def jh(X:Gr)(e:List UInt8):Gr:=fun a o=>if isS l a e then .ok (.mk 0 [] []) (a+1)else oN l X e (l.length+1) [] a o
def oH(X:Gr):Nat→List Nd→List Nd→Gr
 |0,_,_=>fun a o=> .bad 4 a nd0 a o
 |m+1,rs,r=>fun a o=>match X a o with
  | .bad c p n a' o'=> .bad c p (.mk 14 [] (rs++[.mk 15 [] (r++[n])])) a' o'
  | .ok n a'=>if isS l a' [44]then oH X m rs (r++[n]) (a'+1) o else if isS l a' [59]then oH X m (rs++[.mk 15 [] (r++[n])]) [] (a'+1) o
   else if isS l a' [93]then .ok (.mk 14 [] (rs++[.mk 15 [] (r++[n])])) (a'+1)else .bad 4 a' (.mk 14 [] (rs++[.mk 15 [] (r++[n])])) a' o
def lU(X:Gr):Gr:=fun a o=>match l[a]? with
 |none=> .bad 4 a nd0 a o
 |some t=>if t.kind=1 then .ok (.mk 1 t.text []) (a+1)
  else if kX l a then(if isS l (a+1) [40]then ins K (fun a o=>gV (fun n=> .mk 13 t.text n.kids) (jh l X [41] a o)) (a+2) o else .ok (.mk 2 t.text []) (a+1))
  else if isS l a [40]then ins K (fun a o=>thenS l (X a o) o [41]) (a+1) o
  else if isS l a [91]then ins K (fun a o=>oH l X (l.length+1) [] [] a o) (a+1) o
  else if isS l a [123]then ins K (fun a o=>gV (fun n=> .mk 16 [] n.kids) (jh l X [125] a o)) (a+1) o
  else .bad 4 a nd0 a o
def qw(X:Gr)(n:Nd):Gr:=fun a o=>match X a o with
 | .bad e p m a' o'=> .bad e p (.mk 17 [] [n,m]) a' o'
 | .ok m a'=>if isS l a' [44]then thenS l (gV (fun m2=> .mk 17 [] [n,m,m2]) (X (a'+1) o)) o [93]
  else thenS l (.ok (.mk 17 [] [n,m]) a') o [93]
def qp(X:Gr):Nat→Nd→Gr
 |0,_=>fun a o=> .bad 4 a nd0 a o
 |k+1,n=>fun a o=>if isS l a [91]then(match ins K (qw l X n) (a+1) o with
   | .bad e p n' a' o'=> .bad e p n' a' o'
   | .ok n' a'=>qp X k n' a' o)
  else .ok n a
def nV(X:Gr):Gr:=fun a o=>match lU K l X a o with
 | .bad e p n a' o'=> .bad e p n a' o'
 | .ok n a'=>qp K l X (l.length+1) n a' o
def zW(X U:Gr):Gr:=fun a o=>match nV K l X a o with
 | .bad e p n a' o'=> .bad e p n a' o'
 | .ok n a'=>if isS l a' [94]then gV (fun m=> .mk 8 [] [n,m]) (U (a'+1) o)else .ok n a'
def unG(X U:Gr):Gr:=fun a o=>if isS l a [45]then ins K (fun a o=>gV (fun m=> .mk 3 [] [m]) (U a o)) (a+1) o else zW K l X U a o
def gB(S:Gr)(s1:List UInt8)(x:Nat)(s2:List UInt8)(y:Nat):Nat→Nd→Gr
 |0,_=>fun a o=> .bad 4 a nd0 a o
 |m+1,n=>fun a o=>if isS l a s1 then(match S (a+1) o with
   | .bad e p k a' o'=> .bad e p (.mk x [] [n,k]) a' o'
   | .ok k a'=>gB S s1 x s2 y m (.mk x [] [n,k]) a' o)
  else if isS l a s2 then(match S (a+1) o with
   | .bad e p k a' o'=> .bad e p (.mk y [] [n,k]) a' o'
   | .ok k a'=>gB S s1 x s2 y m (.mk y [] [n,k]) a' o)
  else .ok n a
def wE(S:Gr)(s1:List UInt8)(x:Nat)(s2:List UInt8)(y:Nat):Gr:=fun a o=>match S a o with
 | .bad e p n a' o'=> .bad e p n a' o'
 | .ok n a'=>gB l S s1 x s2 y (l.length+1) n a' o
def zM(U:Gr):Gr:=wE l U [42] 6 [47] 7
def mI(U:Gr):Gr:=wE l (zM l U) [43] 4 [45] 5
def wB(U:Gr):Gr:=fun a o=>match mI l U a o with
 | .bad e p n a' o'=> .bad e p n a' o'
 | .ok n a'=>if isS l a' [61,61]then gV (fun m=> .mk 9 [] [n,m]) (mI l U (a'+1) o)else if isS l a' [33,61]then gV (fun m=> .mk 10 [] [n,m]) (mI l U (a'+1) o)
  else if isS l a' [60]then gV (fun m=> .mk 11 [] [n,m]) (mI l U (a'+1) o)else if isS l a' [60,61]then gV (fun m=> .mk 12 [] [n,m]) (mI l U (a'+1) o)else .ok n a'
def lev:Nat→Gr×Gr
 |0=>(fun a o=> .bad 4 a nd0 a o,fun a o=> .bad 4 a nd0 a o)
 |n+1=>(wB l (unG K l (lev n).1 (lev n).2),unG K l (lev n).1 (lev n).2)
end
def CR(res:Nd→AV)(f:FuncId)(args:List AV)(ex:List (Nat×Ent))(l:List Tok)(a o:Nat):Res→Prop
 | .ok n a'=>ah Tryz.prog f args ((29,PG l a o)::ex) ⟨res n,(29,.ent (PG l a' o))::ex.map fun p=>(p.1,.ent p.2)⟩
 | .bad e p n a' o'=>ah Tryz.prog f args ((29,PG l a o)::ex) ⟨res n,(29,.ent (PE l a' o' e p))::ex.map fun p=>(p.1,.ent p.2)⟩
mutual
def cnt:Nd→Nat
 | .mk _ _ ks=>1+ig ks
def ig:List Nd→Nat
 |[]=>0
 |k::ks=>cnt k+ig ks
end
theorem dR:∀ks ms:List Nd,ig (ks++ms)=ig ks+ig ms
 |[],ms=>by simp[ig]
 |k::ks,ms=>by simp[ig,dR ks ms];omega
theorem kT:∀n:Nd,1≤cnt n
 | .mk _ _ _=>by rw[cnt];omega
theorem eF(x:Int)(t:List UInt8)(ks:List Nd):cnt (.mk x t ks)=1+ig ks:=by rw[cnt]
theorem aS(k:Nd)(ks:List Nd):ig (k::ks)=cnt k+ig ks:=by rw[ig]
theorem bD:ig []=0:=by rw[ig]
theorem rR:∀ks:List Nd,ks.length≤ig ks
 |[]=>by simp[ig]
 |k::ks=>by have:=rR ks;have:=kT k;simp[ig];omega
def kL(s c k:Nat)(l:List Tok)(a o:Nat):Res→Prop
 | .ok n a'=>a+cnt n+c≤a'+s∧a≤a'∧a'≤l.length
 | .bad _ _ _ _ o'=>o≤o'∧o'≤o+k
def wm(k o:Nat):Res→Prop
 | .ok _ _=>True
 | .bad _ _ _ _ o'=>o≤o'∧o'≤o+k
def Adv(k:Nat)(l:List Tok)(m:Nat)(g:Gr):Prop:=∀a o,m≤a→a≤l.length→kL 0 0 k l a o (g a o)
abbrev rNd(n:Nd):AV:= .agg (ndA n)
abbrev rKs(n:Nd):AV:= .r (aF 3 ndC n.kids)
abbrev PP:Ent:= .box 139 [.ptr 29 0]
abbrev NB(n:Nd):Ent:= .box 86 (ndA n)
abbrev KB(t:Tok):Ent:= .box 136 (tokA t)
abbrev fnA(f:FuncId)(cap:List (Nat×Nat)):AV:= .it (.one (.clo f cap))
abbrev bnA(f:FuncId):AV:= .it (.one (.bnd f 29))
attribute [local irreducible] IntKind.wrap Go1 Reg WP aN aQ bM bI aL aC aj ah aT Sat
theorem abB{f:FuncId}{l:List Tok}{a o:Nat}{k:Gr}(ho:o≤600)(hk:o+1≤600→CR rNd f [.ptr 81 0] [(81,PP)] l a (o+1) (k a (o+1))∧wm 2 (o+1) (k a (o+1))):
  CR rNd 180 [.ptr 29 0,fnA f [(81,0)]] [(81,PP)] l a o (ins 600 k a o):=by
 unfold ins;by_cases h:600 < o+1
 ·rw[if_pos h];have c:=sJ l a h (by omega)
  show ah _ _ _ _ _;refine ah.fnF Tryz.func180 Tryz.results180 Tryz.ntmps180 rfl rfl rfl rfl (fun w0 T B E0 hB=>?_)
  refine SX.goM ?_;exact aK (aj.aX rfl rfl rfl) (ny rfl rfl) ⟨rfl,rfl,trivial⟩
 ·rw[if_neg h];have c:=rY l a (o:=o) (by omega)
  obtain⟨hk,hb⟩:=hk (by omega)
  cases hr:k a (o+1)with
  |ok n a'=>
   rw[hr]at hk;unfold CR at hk;show ah _ _ _ _ _;refine ah.fnF Tryz.func180 Tryz.results180 Tryz.ntmps180 rfl rfl rfl rfl (fun w0 T B E0 hB=>?_)
   refine SX.goM ?_;exact aK (aj.aX rfl rfl rfl) (AV0.imp.refl _) ⟨rfl,rfl,trivial⟩
  |bad e p n a' o'=>
   rw[hr]at hk hb;unfold CR at hk;unfold wm at hb;show ah _ _ _ _ _;refine ah.fnF Tryz.func180 Tryz.results180 Tryz.ntmps180 rfl rfl rfl rfl (fun w0 T B E0 hB=>?_)
   refine SX.goM ?_;exact aK (aj.aX rfl rfl rfl) (AV0.imp.refl _) ⟨rfl,rfl,trivial⟩
theorem aoy{f:FuncId}{l:List Tok}{a o:Nat}{k:Gr}{N:Nd}(ho:o≤600)(hk:o+1≤600→CR rNd f [.ptr 83 0,.ptr 81 0] [(81,PP),(83,NB N)] l a (o+1) (k a (o+1))∧wm 2 (o+1) (k a (o+1))):
  CR rNd 180 [.ptr 29 0,fnA f [(83,0),(81,0)]] [(81,PP),(83,NB N)] l a o (ins 600 k a o):=by
 unfold ins;by_cases h:600 < o+1
 ·rw[if_pos h];have c:=sJ l a h (by omega)
  show ah _ _ _ _ _;refine ah.fnF Tryz.func180 Tryz.results180 Tryz.ntmps180 rfl rfl rfl rfl (fun w0 T B E0 hB=>?_)
  refine SX.goM ?_;exact aK (aj.aX rfl rfl rfl) (ny rfl rfl) ⟨rfl,rfl,rfl,trivial⟩
 ·rw[if_neg h];have c:=rY l a (o:=o) (by omega)
  obtain⟨hk,hb⟩:=hk (by omega)
  cases hr:k a (o+1)with
  |ok n a'=>
   rw[hr]at hk;unfold CR at hk;show ah _ _ _ _ _;refine ah.fnF Tryz.func180 Tryz.results180 Tryz.ntmps180 rfl rfl rfl rfl (fun w0 T B E0 hB=>?_)
   refine SX.goM ?_;exact aK (aj.aX rfl rfl rfl) (AV0.imp.refl _) ⟨rfl,rfl,rfl,trivial⟩
  |bad e p n a' o'=>
   rw[hr]at hk hb;unfold CR at hk;unfold wm at hb;show ah _ _ _ _ _;refine ah.fnF Tryz.func180 Tryz.results180 Tryz.ntmps180 rfl rfl rfl rfl (fun w0 T B E0 hB=>?_)
   refine SX.goM ?_;exact aK (aj.aX rfl rfl rfl) (AV0.imp.refl _) ⟨rfl,rfl,rfl,trivial⟩
theorem ao4{f:FuncId}{l:List Tok}{a o:Nat}{k:Gr}{t:Tok}(ho:o≤600)(hk:o+1≤600→CR rNd f [.ptr 82 0,.ptr 81 0] [(81,PP),(82,KB t)] l a (o+1) (k a (o+1))∧wm 2 (o+1) (k a (o+1))):
  CR rNd 180 [.ptr 29 0,fnA f [(82,0),(81,0)]] [(81,PP),(82,KB t)] l a o (ins 600 k a o):=by
 unfold ins;by_cases h:600 < o+1
 ·rw[if_pos h];have c:=sJ l a h (by omega)
  show ah _ _ _ _ _;refine ah.fnF Tryz.func180 Tryz.results180 Tryz.ntmps180 rfl rfl rfl rfl (fun w0 T B E0 hB=>?_)
  refine SX.goM ?_;exact aK (aj.aX rfl rfl rfl) (ny rfl rfl) ⟨rfl,rfl,rfl,trivial⟩
 ·rw[if_neg h];have c:=rY l a (o:=o) (by omega)
  obtain⟨hk,hb⟩:=hk (by omega)
  cases hr:k a (o+1)with
  |ok n a'=>
   rw[hr]at hk;unfold CR at hk;show ah _ _ _ _ _;refine ah.fnF Tryz.func180 Tryz.results180 Tryz.ntmps180 rfl rfl rfl rfl (fun w0 T B E0 hB=>?_)
   refine SX.goM ?_;exact aK (aj.aX rfl rfl rfl) (AV0.imp.refl _) ⟨rfl,rfl,rfl,trivial⟩
  |bad e p n a' o'=>
   rw[hr]at hk hb;unfold CR at hk;unfold wm at hb;show ah _ _ _ _ _;refine ah.fnF Tryz.func180 Tryz.results180 Tryz.ntmps180 rfl rfl rfl rfl (fun w0 T B E0 hB=>?_)
   refine SX.goM ?_;exact aK (aj.aX rfl rfl rfl) (AV0.imp.refl _) ⟨rfl,rfl,rfl,trivial⟩
theorem apF{f:FuncId}{l:List Tok}{a o:Nat}{k:Gr}(ho:o≤600)(hk:o+1≤600→CR rNd f [.ptr 29 0] [] l a (o+1) (k a (o+1))∧wm 2 (o+1) (k a (o+1))):
  CR rNd 180 [.ptr 29 0,bnA f] [] l a o (ins 600 k a o):=by
 unfold ins;by_cases h:600 < o+1
 ·rw[if_pos h];have c:=sJ l a h (by omega)
  show ah _ _ _ _ _;refine ah.fnF Tryz.func180 Tryz.results180 Tryz.ntmps180 rfl rfl rfl rfl (fun w0 T B E0 hB=>?_)
  refine SX.goM ?_;exact aK (aj.aX rfl rfl rfl) (ny rfl rfl) ⟨rfl,trivial⟩
 ·rw[if_neg h];have c:=rY l a (o:=o) (by omega)
  obtain⟨hk,hb⟩:=hk (by omega)
  cases hr:k a (o+1)with
  |ok n a'=>
   rw[hr]at hk;unfold CR at hk;show ah _ _ _ _ _;refine ah.fnF Tryz.func180 Tryz.results180 Tryz.ntmps180 rfl rfl rfl rfl (fun w0 T B E0 hB=>?_)
   refine SX.goM ?_;exact aK (aj.aX rfl rfl rfl) (AV0.imp.refl _) ⟨rfl,trivial⟩
  |bad e p n a' o'=>
   rw[hr]at hk hb;unfold CR at hk;unfold wm at hb;show ah _ _ _ _ _;refine ah.fnF Tryz.func180 Tryz.results180 Tryz.ntmps180 rfl rfl rfl rfl (fun w0 T B E0 hB=>?_)
   refine SX.goM ?_;exact aK (aj.aX rfl rfl rfl) (AV0.imp.refl _) ⟨rfl,trivial⟩
theorem al5{f:FuncId}{l:List Tok}{a o e p:Nat}(ho:o≤1000000):
  ah Tryz.prog 180 [.ptr 29 0,fnA f [(81,0)]] [(29,PE l a o e p),(81,PP)] ⟨rNd nd0,[(29,.ent (PE l a (o+1) e p)),(81,.ent PP)]⟩:=by
 have c:=akI l a e p ho;refine ah.fnF Tryz.func180 Tryz.results180 Tryz.ntmps180 rfl rfl rfl rfl (fun w0 T B E0 hB=>?_)
 refine SX.goM ?_;exact aK (aj.aX rfl rfl rfl) (ny rfl rfl) ⟨rfl,rfl,trivial⟩
def GOK(f:FuncId)(l:List Tok)(m:Nat)(g:Gr):Prop:=∀a o,m≤a→a≤l.length→o≤600→CR rNd f [.ptr 29 0] [] l a o (g a o)
def GE(f:FuncId)(l:List Tok):Prop:=∀a o e p,ah Tryz.prog f [.ptr 29 0] [(29,PE l a o e p)] ⟨rNd nd0,[(29,.ent (PE l a o e p))]⟩
theorem CR.ok{res:Nd→AV}{f:FuncId}{args:List AV}{ex:List (Nat×Ent)}{l:List Tok}{a o:Nat}{n:Nd}{a':Nat}(h:CR res f args ex l a o (.ok n a')):ah Tryz.prog f args ((29,PG l a o)::ex) ⟨res n,(29,.ent (PG l a' o))::ex.map fun p=>(p.1,.ent p.2)⟩:=h
theorem CR.bad{res:Nd→AV}{f:FuncId}{args:List AV}{ex:List (Nat×Ent)}{l:List Tok}{a o:Nat}{n:Nd}{e p a' o':Nat}(h:CR res f args ex l a o (.bad e p n a' o')):ah Tryz.prog f args ((29,PG l a o)::ex) ⟨res n,(29,.ent (PE l a' o' e p))::ex.map fun p=>(p.1,.ent p.2)⟩:=h
theorem kL.open{s c k:Nat}{l:List Tok}{a o:Nat}{r:Res}(h:kL s c k l a o r):wm k o r:=by
 cases r with
 |ok n a'=>trivial
 |bad e p n a' o'=>exact h
theorem wm.mono{k k' o:Nat}{r:Res}(h:wm k o r)(hk:k≤k'):wm k' o r:=by
 cases r with
 |ok n a'=>trivial
 |bad e p n a' o'=>exact⟨h.1,by have:=h.2;omega⟩
theorem kL.mono{s c k s' c' k':Nat}{l:List Tok}{a o a2:Nat}{r:Res}(h:kL s c k l a2 o r)(hk:k≤k')(ha:a≤a2)(hc:a+c'+s≤a2+c+s'):kL s' c' k' l a o r:=by
 cases r with
 |ok n a'=>exact⟨by have:=h.1;omega,by have:=h.2.1;omega,h.2.2⟩
 |bad e p n a' o'=>exact⟨h.1,by have:=h.2;omega⟩
theorem iw{f:Nd→Nd}{s s' c c' k:Nat}{l:List Tok}{a o:Nat}{r:Res}(h:kL s c k l a o r)(hf:∀n,cnt (f n)+c'+s≤cnt n+c+s'):kL s' c' k l a o (gV f r):=by
 cases r with
 |ok n a'=>exact⟨by have:=h.1;have:=hf n;omega,h.2⟩
 |bad e p n a' o'=>exact h
theorem mO{s c k:Nat}{l:List Tok}{a o:Nat}{r:Res}{t:List UInt8}(h:kL s c k l a o r):kL s (c+1) k l a o (thenS l r o t):=by
 cases r with
 |ok n a'=>
  unfold thenS
  dsimp only
  split
  ·rename_i hs;exact⟨by have:=h.1;omega,by have:=h.2.1;omega,bf hs⟩
  ·exact⟨Nat.le_refl _,by omega⟩
 |bad e p n a' o'=>exact h
theorem lV{K s c k:Nat}{l:List Tok}{a o:Nat}{g:Gr}(hk:1≤k)(h:kL s c k l a (o+1) (g a (o+1))):kL s c k l a o (ins K g a o):=by
 unfold ins
 split
 ·exact⟨by omega,by omega⟩
 ·cases hr:g a (o+1)with
  |ok n a'=>rw[hr]at h;exact h
  |bad e p n a' o'=>rw[hr]at h;exact⟨by have:=h.1;omega,by have:=h.2;omega⟩
end
end
end Go.Proofs.YtegehclknhmkgaaGreatDoor