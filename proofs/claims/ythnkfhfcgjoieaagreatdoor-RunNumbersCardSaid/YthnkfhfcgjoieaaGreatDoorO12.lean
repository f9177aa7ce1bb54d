import Derived.Test.YthnkfhfcgjoieaaGreatDoorO24
import Derived.Test.YthnkfhfcgjoieaaGreatDoorO29
import Derived.Lib.Join
import Derived.Test.YthnkfhfcgjoieaaGreatDoorO5
set_option linter.unusedVariables false
set_option linter.unusedSimpArgs false
open Go.Proofs.Tryz
namespace Go.Proofs.YthnkfhfcgjoieaaGreatDoor
open Go.RowKit SX
section
attribute [local irreducible] IntKind.wrap Go1 Reg WP aJ aN bF bD aM aA ak aj aT Sat
section
def srt(c:UInt8):Nat:=if c.toNat=32\/c.toNat=9\/c.toNat=10\/c.toNat=13 then 1 else if 48<=c.toNat/\c.toNat<=57 then 2 else if 97<=c.toNat/\c.toNat<=122 then 3 else if c.toNat=95 then 4 else
 if 0<=Lib.indexByte [43,45,42,47,94,40,41,91,93,123,125,44,59,61,60,33,46] c then 5 else 0
abbrev ixL(l:List UInt8)(c:UInt8):Int:=Lib.indexByte l c
theorem abD(b:UInt8)(l:List UInt8)(c:UInt8):ixL (b::l) c=if b=c then 0 else if ixL l c= -1 then -1 else ixL l c+1:=by
 have e:ixL (b::l) c=if b==c then 0 else if ixL l c== -1 then -1 else ixL l c+1:=rfl
 rw[e];simp only[beq_iff_eq]
theorem arh(l:List UInt8)(c:UInt8):0<=ixL l c↔c∈l:=by
 induction l with
 |nil=>simp[ixL,Lib.indexByte]
 |cons b l ih=>
  have hg: -1<=ixL l c:=Lib.indexByte_ge l c;rw[abD,zy3,<-ih];generalize ixL l c=z at*;by_cases h:b=c
  ·subst h;simp
  ·have hc:¬c=b:=fun e=>h e.symm
   simp only[hc,false_or,h,if_false]
   split <;> omega
theorem amO{f:FuncId}{args:List Value}{r:Value}(he:∃fn,prog.funcs[f]? =some fn/\(fn.name== "runtime.NumGoroutine")=false/\fn.body.isNone=false)(h:∀w,Calls prog f args.toArray w fun e w'=>e= .returned r/\w'=w):ah prog f (args.map AV.v) (.v r):=
 ah.jh he rfl fun E S w vs hl hv=>by
  have hvs:vs=args:=by
   clear h
   induction args generalizing vs with
   |nil=>cases vs with|nil=>rfl|cons _ _=>exact hv.elim
   |cons a l ih=>cases vs with|nil=>exact hv.elim|cons b m=>rw[ih m hv.2,show b=a from hv.1]
  subst hvs;exact(h w).mono fun e w' ⟨h1,h2⟩=>⟨r,h1,rfl,by subst h2;exact Off.refl _ _⟩
instance abH(l:List UInt8)(c:UInt8):Con prog 280 [.v (str l),.v (.int .u8 (c.toNat:Int))] True (.v (.int .i64 (ixL l c))):=⟨fun _=>
 amO (args:=[str l,.int .u8 (c.toNat:Int)]) ⟨_,func280,rfl,rfl⟩ fun w=>(strings_IndexByte ⟨⟨l⟩⟩ (c.toNat:Int) w).mono fun e w' ⟨h1,h2⟩=>⟨by rw[h1];simp[ixL],h2⟩⟩
instance am7(l:List UInt8):Con prog 280 [.v (str l),.v (.int .u8 10)] True (.v (.int .i64 (ixL l 10))):=abH l 10
instance con_sort(c:UInt8):Con prog 279 [.v (.int .u8 (c.toNat:Int))] True (.v (.int .i64 (srt c:Int))):=⟨fun _=>by
 refine ah.fq func279 results279 ntmps279 fun _ _ _ _ _=>?_
 repeat'(first|refine zg ?_|refine SX.W.ite (fun h=>?_) (fun h=>?_)|refine SX.W.iteN (fun h=>?_) (fun h=>?_)|refine SX.W.gq (fun h=>?_) (fun h=>?_)|refine SX.R.ite (fun h=>?_) (fun h=>?_)|refine SX.R.iteN (fun h=>?_) (fun h=>?_)|refine SX.R.gq (fun h=>?_) (fun h=>?_))
 all_goals(refine iw ?_;unfold srt;(repeat' split) <;> omega)⟩
def wrd(c:UInt8):Bool:=decide (srt c=2)||decide (srt c=3)||decide (srt c=4)
instance av0(c:UInt8):Con prog 385 [.v (.int .u8 (c.toNat:Int))] True (.v (.bool (wrd c))):=⟨fun _=>by
 refine ah.fq func385 results385 ntmps385 fun _ _ _ _ _=>?_
 repeat'(first|refine zg ?_|refine SX.W.ite (fun h=>?_) (fun h=>?_)|refine SX.W.iteN (fun h=>?_) (fun h=>?_)|refine SX.W.gq (fun h=>?_) (fun h=>?_)|refine SX.R.ite (fun h=>?_) (fun h=>?_)|refine SX.R.iteN (fun h=>?_) (fun h=>?_)|refine SX.R.gq (fun h=>?_) (fun h=>?_))
 all_goals(refine bf ?_;rw[zyc];simp[wrd];omega)⟩
def run(l:List UInt8):Nat:=(l.takeWhile wrd).length
theorem an5{p:UInt8->Bool}:∀(l:List UInt8) (k:Nat),k<=(l.takeWhile p).length->k < l.length->p (byt l k)=decide (k < (l.takeWhile p).length)
 |[],k,_,h=>by simp at h
 |c::l,0,_,_=>by
  cases h:p c <;> simp[byt,List.takeWhile_cons,h]
 |c::l,k+1,h1,h2=>by
  cases h:p c
  ·simp[List.takeWhile_cons,h]at h1
  ·simp[List.takeWhile_cons,h]at h1 ⊢
   have:=an5 l k h1 (by simpa using h2)
   simpa[byt]using this
theorem amM(l:List UInt8):run l<=l.length:=(List.takeWhile_prefix _).length_le
instance con_run(l:List UInt8):Con prog 281 [.v (str l)] (l.length<=9223372036854775807) (.v (.int .i64 (run l:Int))):=⟨fun hl=>by
 refine ah.fq func281 results281 ntmps281 fun _ _ _ _ _=>?_
 refine zg ?_;refine W.loop (fun k=>k<=run l) (fun k=>[(0,.v (str l)),(3,.v (.int .i64 (k:Int)))]) (fun _=>[]) (fun k=>l.length - k) 0 (zq8 _) (fun k hk=>?_)
 have h1:=amM l;have h2:=an5 (p:=wrd) l k hk
 repeat'(first|refine zg ?_|refine SX.W.ite (fun h=>?_) (fun h=>?_)|refine SX.W.iteN (fun h=>?_) (fun h=>?_)|refine SX.W.gq (fun h=>?_) (fun h=>?_)|refine SX.R.ite (fun h=>?_) (fun h=>?_)|refine SX.R.iteN (fun h=>?_) (fun h=>?_)|refine SX.R.gq (fun h=>?_) (fun h=>?_))
 ·exact W.next (k+1) (by rw[‹wrd _=true›]at h2;have:=of_decide_eq_true (h2 zE).symm;unfold run;omega) zE
 ·refine iw ?_;rw[‹wrd _=false›]at h2;have:=of_decide_eq_false (h2 zE).symm;unfold run at*;omega
 ·refine iw ?_;omega⟩
instance con_two(l:List UInt8):Con prog 284 [.v (str l)] True (.v (.bool (decide (l=[61,61]\/l=[33,61]\/l=[60,61]\/l=[46,46])))):=⟨fun hl=>by
 refine ah.fq func284 results284 ntmps284 fun _ _ _ _ _=>?_
 repeat'(first|refine zg ?_|refine SX.W.ite (fun h=>?_) (fun h=>?_)|refine SX.W.iteN (fun h=>?_) (fun h=>?_)|refine SX.W.gq (fun h=>?_) (fun h=>?_)|refine SX.R.ite (fun h=>?_) (fun h=>?_)|refine SX.R.iteN (fun h=>?_) (fun h=>?_)|refine SX.R.gq (fun h=>?_) (fun h=>?_))
 all_goals(refine bf ?_;simp[*])⟩
def dgL(l:List UInt8):Bool:=l.all fun c=>decide (srt c=2)
def num(l:List UInt8):Bool:=decide (1<=l.length/\l.length<=2000/\(l.length=1\/(byt l 0).toNat≠48))&&dgL l
theorem apf(l:List UInt8)(k:Nat)(h:k < l.length):dgL (l.drop k)=(decide (srt (byt l k)=2)&&dgL (l.drop (k+1))):=by
 rw[zy4 h];have:byt l k=l[k]:=by simp[byt,h]
 rw[this];rfl
instance atE(l:List UInt8):Con prog 282 [.v (str l)] (l.length<=9223372036854775807) (.v (.bool (num l))):=⟨fun hl=>by
 refine ah.fq func282 results282 ntmps282 fun _ _ _ _ _=>?_
 repeat'(first|refine zg ?_|refine SX.W.ite (fun h=>?_) (fun h=>?_)|refine SX.W.iteN (fun h=>?_) (fun h=>?_)|refine SX.W.gq (fun h=>?_) (fun h=>?_)|refine SX.R.ite (fun h=>?_) (fun h=>?_)|refine SX.R.iteN (fun h=>?_) (fun h=>?_)|refine SX.R.gq (fun h=>?_) (fun h=>?_))
 all_goals(first|(refine bf ?_;rw[eq_comm];unfold num;rw[Bool.and_eq_false_iff];refine .inl (decide_eq_false fun hn=>?_);omega)|skip)
 all_goals
  have hb:decide (1<=l.length/\l.length<=2000/\(l.length=1\/(byt l 0).toNat≠48))=true:=decide_eq_true zE
  refine W.loop (fun k=>k<=l.length/\num l=dgL (l.drop k)) (fun k=>[(0,.v (str l)),(23,.v (.int .i64 (l.length:Int))),(24,.v (.int .i64 (k:Int)))]) (fun _=>[]) (fun k=>l.length - k) 0 ⟨zq8 _,by unfold num;rw[hb];rfl⟩ (fun k ⟨hk,hn⟩=>?_)
  have hs:=apf l k
  repeat'(first|refine zg ?_|refine SX.W.ite (fun h=>?_) (fun h=>?_)|refine SX.W.iteN (fun h=>?_) (fun h=>?_)|refine SX.W.gq (fun h=>?_) (fun h=>?_)|refine SX.R.ite (fun h=>?_) (fun h=>?_)|refine SX.R.iteN (fun h=>?_) (fun h=>?_)|refine SX.R.gq (fun h=>?_) (fun h=>?_))
  ·refine bf ?_;rw[hn,hs zE,decide_eq_false zE];rfl
  ·exact W.next (k+1) ⟨zE,by rw[hn,hs zE,decide_eq_true zE];rfl⟩ zE
  ·refine bf ?_;rw[hn,List.drop_eq_nil_of_le zE];rfl⟩
def nam(l:List UInt8):Bool:=decide (1<=l.length/\l.length<=30/\srt (byt l 0)=3/\run l=l.length)
instance con_name(l:List UInt8):Con prog 283 [.v (str l)] (l.length<=9223372036854775807) (.v (.bool (nam l))):=⟨fun hl=>by
 refine ah.fq func283 results283 ntmps283 fun _ _ _ _ _=>?_
 repeat'(first|refine zg ?_|refine SX.W.ite (fun h=>?_) (fun h=>?_)|refine SX.W.iteN (fun h=>?_) (fun h=>?_)|refine SX.W.gq (fun h=>?_) (fun h=>?_)|refine SX.R.ite (fun h=>?_) (fun h=>?_)|refine SX.R.iteN (fun h=>?_) (fun h=>?_)|refine SX.R.gq (fun h=>?_) (fun h=>?_))
 all_goals(refine bf ?_;unfold nam;first|(rw[eq_comm];exact decide_eq_true zE)|(rw[eq_comm];exact decide_eq_false zE)|(rw[decide_eq_decide];omega))⟩
def sg1(l:List UInt8):Bool:=decide (l.length=1/\byt l 0∈[43,45,42,47,94,40,41,91,93,123,125,44,59,61,60])
theorem apm{l:List UInt8}(h:l.length=1):∃c,l=[c]:=by
 match l,h with
 |[c],_=>exact⟨c,rfl⟩
instance aqE(l:List UInt8)(c:UInt8):Con prog 66 [.v (str l),.v (str [c])] True (.v (.bool (decide (0<=ixL l c)))):=⟨fun _=>
 amO (args:=[str l,str [c]]) ⟨_,func66,rfl,rfl⟩ fun w=>(strings_Contains_one ⟨⟨l⟩⟩ c w).mono fun e w' ⟨h1,h2⟩=>⟨h1,h2⟩⟩
instance con_one(l:List UInt8):Con prog 285 [.v (str l)] True (.v (.bool (sg1 l))):=⟨fun hl=>by
 by_cases h1:l.length=1
 ·obtain⟨c,rfl⟩:=apm h1;refine ah.fq func285 results285 ntmps285 fun w0 T B E0 hB=>?_
  repeat'(first|refine zg ?_|refine SX.W.ite (fun h=>?_) (fun h=>?_)|refine SX.W.iteN (fun h=>?_) (fun h=>?_)|refine SX.W.gq (fun h=>?_) (fun h=>?_)|refine SX.R.ite (fun h=>?_) (fun h=>?_)|refine SX.R.iteN (fun h=>?_) (fun h=>?_)|refine SX.R.gq (fun h=>?_) (fun h=>?_))
  all_goals(refine bf ?_;unfold sg1;rw[decide_eq_decide,arh];simp[byt])
 ·refine ah.fq func285 results285 ntmps285 fun w0 T B E0 hB=>?_
  repeat'(first|refine zg ?_|refine SX.W.ite (fun h=>?_) (fun h=>?_)|refine SX.W.iteN (fun h=>?_) (fun h=>?_)|refine SX.W.gq (fun h=>?_) (fun h=>?_)|refine SX.R.ite (fun h=>?_) (fun h=>?_)|refine SX.R.iteN (fun h=>?_) (fun h=>?_)|refine SX.R.gq (fun h=>?_) (fun h=>?_))
  all_goals(refine bf ?_;rw[eq_comm];exact decide_eq_false zE)⟩
attribute [irreducible] sg1 nam num wrd srt
end
section
structure Tok where
 kind:Int
 text:List UInt8
 pos:Int
def aaP(t:Tok):List CA:=[.val (.int .i64 t.kind),.val (str t.text),.val (.int .i64 t.pos)]
abbrev tokA(t:Tok):List Atom:=[.c (.val (.int .i64 t.kind)),.c (.val (str t.text)),.c (.val (.int .i64 t.pos))]
instance:eY aaP 3:=⟨fun _=>rfl⟩
def fst(l:List UInt8):Tok:=
 if num (l.take (run l))then⟨1,l.take (run l),0⟩else if nam (l.take (run l))then⟨2,l.take (run l),0⟩else
 if 2<=l.length/\(l.take 2=[61,61]\/l.take 2=[33,61]\/l.take 2=[60,61]\/l.take 2=[46,46])then⟨3,l.take 2,0⟩else if sg1 (l.take 1)then⟨3,l.take 1,0⟩else⟨0,[],0⟩
instance av3(l:List UInt8):Con prog 160 [.v (str l)] (l.length<=1000000000/\1<=l.length) (.agg (tokA (fst l))):=⟨fun⟨hl,h0⟩=>by
 have h1:=amM l;have h2:(l.take (run l)).length<=1000000000:=by rw[zx3];omega
 refine ah.fq func160 results160 ntmps160 fun _ _ _ _ _=>?_
 repeat'(first|refine zg ?_|refine SX.W.ite (fun h=>?_) (fun h=>?_)|refine SX.W.iteN (fun h=>?_) (fun h=>?_)|refine SX.W.gq (fun h=>?_) (fun h=>?_)|refine SX.R.ite (fun h=>?_) (fun h=>?_)|refine SX.R.iteN (fun h=>?_) (fun h=>?_)|refine SX.R.gq (fun h=>?_) (fun h=>?_))
 all_goals(refine nP ak.bQ ?_)
 all_goals(unfold fst;first|rw[if_pos (by assumption)]|(rw[if_neg (by simp[*]),if_pos (by assumption)])|(rw[if_neg (by simp[*]),if_neg (by simp[*]),if_pos ⟨zE,by assumption⟩])|(rw[if_neg (by simp[*]),if_neg (by simp[*]),if_neg zE];first|rw[if_pos (by assumption)]|(rw[if_neg (by simp[*])];rfl))|(rw[if_neg (by simp[*]),if_neg (by simp[*]),if_neg (fun h=>by simp_all)];first|rw[if_pos (by assumption)]|(rw[if_neg (by simp[*])];rfl)))⟩
def gp:Bool->List UInt8->Nat
 |_,[]=>0
 |false,c::l=>if srt c=1 then 1+gp false l else if c.toNat=35 then 1+gp true l else 0
 |true,c::l=>if c.toNat=10 then 1+gp false l else 1+gp true l
theorem at0:∀l:List UInt8,gp true l=if ixL l 10 < 0 then l.length else(ixL l 10).toNat+1+gp false (l.drop ((ixL l 10).toNat+1))
 |[]=>by simp[gp,ixL,Lib.indexByte]
 |c::l=>by
  have ih:=at0 l;have hg: -1<=ixL l 10:=Lib.indexByte_ge l 10;rw[gp,abD];by_cases h:c=10
  ·subst h;simp
  ·have h':¬c.toNat=10:=fun e=>h (UInt8.toNat_inj.1 e)
   rw[if_neg h',if_neg h,ih];by_cases h2:ixL l 10= -1
   ·simp[h2];omega
   ·rw[if_neg h2,if_neg zE,if_neg zE,show (ixL l 10+1).toNat=(ixL l 10).toNat+1 by omega,List.drop_succ_cons];omega
theorem avd(l:List UInt8)(c:UInt8):ixL l c < l.length:=by
 induction l with
 |nil=>simp[ixL,Lib.indexByte]
 |cons b l ih=>
  rw[abD,zx6]
  repeat' split
  all_goals omega
theorem ac7:∀(b:Bool) (l:List UInt8),gp b l<=l.length
 |_,[]=>by simp[gp]
 |false,c::l=>by
  have h1:=ac7 false l;have h2:=ac7 true l;unfold gp;repeat' split
  all_goals(simp only[zx6];omega)
 |true,c::l=>by
  have h1:=ac7 false l;have h2:=ac7 true l;unfold gp;repeat' split
  all_goals(simp only[zx6];omega)
instance con_gap(l:List UInt8):Con prog 159 [.v (str l)] (l.length<=1000000000) (.v (.int .i64 (gp false l:Int))):=⟨fun hl=>by
 refine ah.fq func159 results159 ntmps159 fun _ _ _ _ _=>?_
 refine zg ?_;refine W.loop (fun k=>k<=l.length/\gp false l=k+gp false (l.drop k)) (fun k=>[(0,.v (str l)),(3,.v (.int .i64 (k:Int)))]) (fun _=>[]) (fun k=>l.length - k) 0 ⟨zq8 _,by simp⟩ (fun k ⟨hk,hn⟩=>?_)
 have hx1:=avd (l.drop k) 10;have hx2: -1<=ixL (l.drop k) 10:=Lib.indexByte_ge _ _;have hx3:(l.drop k).length=l.length - k:=zxe;have hc:k < l.length->gp false (l.drop k)=if srt (byt l k)=1 then 1+gp false (l.drop (k+1))else if(byt l k).toNat=35 then gp true (l.drop k)else 0:=fun h=>by
  have hb:byt l k=l[k]:=by simp[byt,h]
  rw[zy4 h,gp,gp,hb];by_cases h35:l[k].toNat=35
  ·simp[h35]
  ·simp[h35]
 have hi:=at0 (l.drop k);rw[List.drop_drop]at hi
 repeat'(first|refine zg ?_|refine SX.W.ite (fun h=>?_) (fun h=>?_)|refine SX.W.iteN (fun h=>?_) (fun h=>?_)|refine SX.W.gq (fun h=>?_) (fun h=>?_)|refine SX.R.ite (fun h=>?_) (fun h=>?_)|refine SX.R.iteN (fun h=>?_) (fun h=>?_)|refine SX.R.gq (fun h=>?_) (fun h=>?_))
 ·rw[if_pos zE]at hc
  exact W.next (k+1) ⟨zE,by rw[hn,hc zE];omega⟩ zE
 ·rw[if_neg zE,if_pos zE,hi,if_pos zE]at hc
  refine iw ?_;rw[hn,hc zE];omega
 ·rw[if_neg zE,if_pos zE,hi,if_neg zE]at hc
  exact W.next (k+((ixL (l.drop k) 10).toNat+1)) ⟨zE,by rw[hn,hc zE];omega⟩ zE
 ·rw[if_neg zE,if_neg zE]at hc
  refine iw ?_;rw[hn,hc zE];omega
 ·rw[List.drop_eq_nil_of_le zE]at hn
  refine iw ?_;rw[hn,gp];omega⟩
attribute [irreducible] fst gp
theorem aiI(l:List UInt8):(fst l).text.length<=l.length:=by
 unfold fst
 repeat' split
 all_goals simp[zx3];try omega
def qQ(l:List UInt8)(k:Nat):List Tok×Option Nat:=
 if h:l.length<=k then([],none)else
 if h0:(fst (l.drop k)).kind=0\/(fst (l.drop k)).text.length=0 then([],some k)else
 let r:=qQ l (k+(fst (l.drop k)).text.length+gp false (l.drop (k+(fst (l.drop k)).text.length)))
 (⟨(fst (l.drop k)).kind,(fst (l.drop k)).text,k⟩::r.1,r.2)
termination_by l.length - k
decreasing_by omega
def adC(l:List UInt8):List Tok×Nat×Nat:=
 if 20000 < l.length then([],0,7)else
 match (qQ l (gp false l)).2 with
 |some k=>([],k,4)
 |none=>((qQ l (gp false l)).1,0,0)
abbrev tupL(r:List Tok×Nat×Nat):AV:= .tup [.one (.c (.sat (aB 3 aaP r.1))),.one (.c (.val (.int .i64 (r.2.1:Int)))),.one (.c (.val (.int .i64 (r.2.2:Int))))]
theorem aqQ(l:List UInt8)(h:1<=l.length)(hk:(fst l).kind≠0):(fst l).text.length≠0:=by
 have hn:num []=false:=by unfold num;rfl
 have hm:nam []=false:=by unfold nam;rfl
 intro e;unfold fst at*
 split at hk
 ·rename_i h1;rw[if_pos h1]at e;rw[zx5 (show (l.take (run l)).length=0 from e),hn]at h1;cases h1
 ·rename_i h1;rw[if_neg h1]at e
  split at hk
  ·rename_i h2;rw[if_pos h2]at e;rw[zx5 (show (l.take (run l)).length=0 from e),hm]at h2;cases h2
  ·rename_i h2;rw[if_neg h2]at e
   split at hk
   ·rename_i h3;rw[if_pos h3]at e;have e':(l.take 2).length=0:=e;rw[zx3]at e';omega
   ·rename_i h3;rw[if_neg h3]at e
    split at hk
    ·rename_i h4;rw[if_pos h4]at e;have e':(l.take 1).length=0:=e;rw[zx3]at e';omega
    ·exact absurd rfl hk
instance asL(l:List UInt8):Con prog 76 [.v (str l)] (l.length<=1000000000) (tupL (adC l)):=⟨fun hl=>by
 refine ah.fq func76 results76 ntmps76 fun _ _ _ _ _=>?_
 have hg:=ac7 false l
 repeat'(first|refine zg ?_|refine SX.W.ite (fun h=>?_) (fun h=>?_)|refine SX.W.iteN (fun h=>?_) (fun h=>?_)|refine SX.W.gq (fun h=>?_) (fun h=>?_)|refine SX.R.ite (fun h=>?_) (fun h=>?_)|refine SX.R.iteN (fun h=>?_) (fun h=>?_)|refine SX.R.gq (fun h=>?_) (fun h=>?_))
 ·refine uz (ak.tmp rfl) (ak.tmp rfl) (ak.tmp rfl) ?_ ?_ ?_;all_goals(unfold adC;rw[if_pos zE])
  ·exact imp_nil
  all_goals exact zv _
 ·refine W.nZ (fun(k:Nat) (ts:List Tok)=>k<=l.length/\ts.length<=k/\qQ l (gp false l)=(ts++(qQ l k).1,(qQ l k).2))
   (fun k ts=>[(0,.v (str l)),(5,.own 100),(6,.v (.int .i64 (k:Int)))]) (fun k ts=>[(100,.row 226 3 ts.length (ts.flatMap aaP))]) (fun k _=>l.length - k) (gp false l) [] ⟨hg,zq8 _,by simp⟩ (fun k ts ⟨hk,hts,hx⟩=>?_)
  have hdl:(l.drop k).length=l.length - k:=zxe;have h2:=aqQ (l.drop k);have h3:=aiI (l.drop k);have h4:=ac7 false (l.drop (k+(fst (l.drop k)).text.length));have hdl2:(l.drop (k+(fst (l.drop k)).text.length)).length=l.length - (k+(fst (l.drop k)).text.length):=zxe;have hw:=qQ.eq_1 l k
  repeat'(first|refine zg ?_|refine SX.W.ite (fun h=>?_) (fun h=>?_)|refine SX.W.iteN (fun h=>?_) (fun h=>?_)|refine SX.W.gq (fun h=>?_) (fun h=>?_)|refine SX.R.ite (fun h=>?_) (fun h=>?_)|refine SX.R.iteN (fun h=>?_) (fun h=>?_)|refine SX.R.gq (fun h=>?_) (fun h=>?_))
  ·rw[dif_neg zE,dif_pos (.inl (by assumption))]at hw
   refine uz (ak.tmp rfl) (ak.tmp rfl) (ak.tmp rfl) ?_ ?_ ?_;all_goals(unfold adC;rw[if_neg zE,hx,hw])
   ·exact imp_nil
   all_goals exact zv _
  ·rw[dif_neg zE,dif_neg zE]at hw
   exact W.nM (k+(fst (l.drop k)).text.length+gp false (l.drop (k+(fst (l.drop k)).text.length))) (ts++[⟨(fst (l.drop k)).kind,(fst (l.drop k)).text,k⟩]) ⟨zE,by simp;omega,by rw[hx,hw];simp⟩ zE
  ·rw[dif_pos zE]at hw
   refine aM.frz 100 ?_;refine uz (ak.tmp rfl) (ak.tmp rfl) (ak.tmp rfl) ?_ ?_ ?_;all_goals(unfold adC;rw[if_neg zE,hx,hw])
   ·simp only[zqb];exact zv _
   all_goals exact zv _⟩
def jc(t:Tok):Bool:=if t.kind=1 then num t.text else if t.kind=2 then nam t.text else if t.kind=3 then sg1 t.text||decide (t.text=[61,61]\/t.text=[33,61]\/t.text=[60,61]\/t.text=[46,46])else false
instance au2(t:Tok):Con prog 161 [.agg (tokA t)] (t.text.length<=9223372036854775807) (.v (.bool (jc t))):=⟨fun hl=>by
 refine ah.fq func161 results161 ntmps161 fun _ _ _ _ _=>?_
 repeat'(first|refine zg ?_|refine SX.W.ite (fun h=>?_) (fun h=>?_)|refine SX.W.iteN (fun h=>?_) (fun h=>?_)|refine SX.W.gq (fun h=>?_) (fun h=>?_)|refine SX.R.ite (fun h=>?_) (fun h=>?_)|refine SX.R.iteN (fun h=>?_) (fun h=>?_)|refine SX.R.gq (fun h=>?_) (fun h=>?_))
 all_goals(refine bf ?_;simp[jc, *])⟩
def joinR(ts:List Tok):List UInt8×Nat:=
 if ts.all jc then(if 20001 < min 40000 (ts.foldl (fun n t=>min (n+t.text.length+1) 40000) 0)then([],7)else(Lib.join (ts.map (·.text)) [32],0))else([],1)
attribute [irreducible] adC joinR jc
end
section
theorem srt2(c:UInt8):srt c=2↔48<=c.toNat/\c.toNat<=57:=by
 unfold srt;(repeat' split) <;> omega
theorem srt3(c:UInt8):srt c=3↔97<=c.toNat/\c.toNat<=122:=by
 unfold srt;(repeat' split) <;> omega
theorem arn(l:List UInt8):num l=(decide (1<=l.length/\l.length<=2000/\(l.length=1\/(byt l 0).toNat≠48))&&l.all fun c=>decide (srt c=2)):=by unfold num;rfl
theorem akc:∀l:List UInt8,run l=l.length↔l.all wrd=true
 |[]=>by simp[run]
 |c::l=>by
  have ih:=akc l;unfold run at*;cases h:wrd c
  ·simp[List.takeWhile_cons,h]
  ·simp[List.takeWhile_cons,h,ih]
theorem ar5(l:List UInt8):nam l=(decide (1<=l.length/\l.length<=30/\srt (byt l 0)=3)&&l.all wrd):=by
 have:=akc l;unfold nam;rw[zyc];simp[this];simp[<-and_assoc]
def sgt(l:List UInt8):Bool:=sg1 l||decide (l=[61,61]\/l=[33,61]\/l=[60,61]\/l=[46,46])
theorem ak2(l:List UInt8):sg1 l=true↔∃c,l=[c]/\c∈[43,45,42,47,94,40,41,91,93,123,125,44,59,61,60]:=by
 unfold sg1;rw[decide_eq_true_iff];constructor
 ·rintro⟨h1,h2⟩;obtain⟨c,rfl⟩:=apm h1;exact⟨c,rfl,by simpa[byt]using h2⟩
 ·rintro⟨c,rfl,h⟩;exact⟨rfl,by simpa[byt]using h⟩
theorem aj8(l:List UInt8):sgt l=true↔(∃c,l=[c]/\c∈[43,45,42,47,94,40,41,91,93,123,125,44,59,61,60])\/(l=[61,61]\/l=[33,61]\/l=[60,61]\/l=[46,46]):=by
 unfold sgt;rw[Bool.or_eq_true,ak2,decide_eq_true_iff]
theorem agi(t:Tok):jc t=if t.kind=1 then num t.text else if t.kind=2 then nam t.text else if t.kind=3 then sgt t.text else false:=by unfold jc sgt;rfl
attribute [irreducible] sgt
end
end
section
theorem ar8(l:List UInt8):(fst l).text=l.take (fst l).text.length:=by
 have key:∀n:Nat,l.take n=l.take (l.take n).length:=fun n=>by
  rw[zx3,List.take_eq_take_iff];omega
 unfold fst
 repeat' split
 all_goals first|exact key _|simp
theorem aqT(l:List UInt8)(h:(fst l).kind≠0)(p:Int):jc ⟨(fst l).kind,(fst l).text,p⟩=true:=by
 rw[agi];unfold fst at*
 repeat' split at h
 all_goals first|exact absurd rfl h|skip
 ·rename_i h1;rw[if_pos h1];exact h1
 ·rename_i h1 h2;rw[if_neg h1,if_pos h2];exact h2
 ·rename_i h1 h2 h3;rw[if_neg h1,if_neg h2,if_pos h3];show sgt _=true;rw[aj8];exact .inr h3.2
 ·rename_i h1 h2 h3 h4;rw[if_neg h1,if_neg h2,if_neg h3,if_pos h4];show sgt _=true;rw[aj8];exact .inl ((ak2 _).1 h4)
theorem acZ{l:List UInt8}(h:num l=true):l.all wrd=true/\∃c m,l=c::m/\srt c=2:=by
 rw[arn,zx4,decide_eq_true_iff]at h;obtain⟨h1,h2⟩:=h;refine⟨?_,?_⟩
 ·rw[zqh]at*;intro c hc;have:=h2 c hc;unfold wrd;rw[this];rfl
 ·match l,h1 with
  |c::m,_=>exact⟨c,m,rfl,by simpa using(zqh.1 h2) c zp⟩
theorem acH{l:List UInt8}(h:nam l=true):l.all wrd=true/\∃c m,l=c::m/\srt c=3:=by
 rw[ar5,zx4,decide_eq_true_iff]at h;obtain⟨h1,h2⟩:=h;refine⟨h2,?_⟩
 match l,h1 with
 |c::m,h1=>exact⟨c,m,rfl,by simpa[byt]using h1.2.2⟩
def okP(l:List UInt8):Nat->List Tok->Prop
 |_,[]=>True
 |n,t::ts=>∃p:Nat,t.pos=p/\n<=p/\t.text≠[]/\p+t.text.length<=l.length/\(l.drop p).take t.text.length=t.text/\okP l (p+t.text.length) ts
theorem apF(l:List UInt8){m n:Nat}(h:m<=n):∀ts,okP l n ts->okP l m ts
 |[],_=>trivial
 |t::ts,⟨p,h1,h2,h3⟩=>⟨p,h1,zE,h3⟩
theorem akz(l:List UInt8)(k:Nat):okP l k (qQ l k).1/\((qQ l k).1).all jc=true/\((qQ l k).1.map fun t=>t.text.length+1).sum<=2*(l.length - k):=by
 rw[qQ.eq_1];have hlen:(l.drop k).length=l.length - k:=zxe;have h3:=aiI (l.drop k)
 split
 ·exact⟨trivial,rfl,by simp⟩
 ·rename_i hk
  split
  ·exact⟨trivial,rfl,by simp⟩
  ·rename_i hf;have ih:=akz l (k+(fst (l.drop k)).text.length+gp false (l.drop (k+(fst (l.drop k)).text.length)));refine⟨⟨k,rfl,zq6 _,fun e=>?_,?_,?_,apF l (by show k+(fst (l.drop k)).text.length<=_;omega) _ ih.1⟩,?_,?_⟩
   ·have e':(fst (l.drop k)).text=[]:=e;rw[e']at hf;simp at hf
   ·show k+(fst (l.drop k)).text.length<=_;omega
   ·exact(ar8 (l.drop k)).symm
   ·rw[List.all_cons,ih.2.1,aqT _ (fun e=>hf (.inl e))];rfl
   ·rw[zy6,List.sum_cons];show (fst (l.drop k)).text.length+1+_<=_;have:=ih.2.2;have h4:(fst (l.drop k)).text.length≠0:=fun e=>hf (.inr e)
    omega
termination_by l.length - k
decreasing_by omega
section
inductive Nd where
 |mk (op:Int) (text:List UInt8) (kids:List Nd)
def Nd.op:Nd->Int| .mk o _ _=>o
def Nd.text:Nd->List UInt8| .mk _ t _=>t
def Nd.kids:Nd->List Nd| .mk _ _ k=>k
mutual
def ndC:Nd->List CA
 | .mk o t ks=>[.val (.int .i64 o),.val (str t),.sat (aQ 3 ks.length (ndL ks))]
def ndL:List Nd->List CA
 |[]=>[]
 |k::ks=>ndC k++ndL ks
end
theorem ao2:∀ks:List Nd,ndL ks=ks.flatMap ndC
 |[]=>by rw[ndL];rfl
 |k::ks=>by rw[ndL,ao2 ks,zq7]
theorem anT(o:Int)(t:List UInt8)(ks:List Nd):ndC (.mk o t ks)=[.val (.int .i64 o),.val (str t),.sat (aB 3 ndC ks)]:=by
 rw[ndC,ao2]
theorem aI(n:Nd):ndC n=[.val (.int .i64 n.op),.val (str n.text),.sat (aB 3 ndC n.kids)]:=by
 cases n;exact anT _ _ _
instance:ahg ndC:=⟨fun n=>by rw[aI];rfl⟩
abbrev ndA(n:Nd):List Atom:=[.c (.val (.int .i64 n.op)),.c (.val (str n.text)),.c (.sat (aB 3 ndC n.kids))]
abbrev PB(l:List Tok)(a o:Nat)(bad:Nat)(has:Bool)(tq:Nat):Ent:= .box 231 [.c (.sat (aB 3 aaP l)),.c (.val (.int .i64 (a:Int))),.c (.val (.int .i64 (o:Int))),.c (.val (.int .i64 (bad:Int))),.c (.val (.bool has)),.c (.val (.int .i64 (tq:Int)))]
def ownB(s:List UInt8):Bool:=decide (s=[105,102])||decide (s=[101,108,115,101])||decide (s=[102,111,114])
def isS(l:List Tok)(a:Nat)(s:List UInt8):Bool:=match l[a]? with
 |some t=>!decide (t.kind=1)&&decide (t.text=s)
 |none=>false
def nO(l:List Tok)(a:Nat):Bool:=match l[a]? with
 |some t=>decide (t.kind=2)&&!ownB t.text
 |none=>false
attribute [local irreducible] IntKind.wrap Go1 Reg WP aJ aN bF bD aM aA ak aj aT Sat
theorem aor(s:List UInt8):ah prog 391 [.v (str s)] (.v (.bool (ownB s))):=by
 refine ah.fq func391 results391 ntmps391 fun _ _ _ _ _=>?_
 repeat'(first|refine zg ?_|refine SX.W.ite (fun h=>?_) (fun h=>?_)|refine SX.W.iteN (fun h=>?_) (fun h=>?_)|refine SX.W.gq (fun h=>?_) (fun h=>?_)|refine SX.R.ite (fun h=>?_) (fun h=>?_)|refine SX.R.iteN (fun h=>?_) (fun h=>?_)|refine SX.R.gq (fun h=>?_) (fun h=>?_))
 all_goals(refine bf ?_;simp[ownB, *])
abbrev PG(l:List Tok)(a o:Nat):Ent:=PB l a o 0 false 0
abbrev PE(l:List Tok)(a o e p:Nat):Ent:=PB l a o e true p
abbrev nd0:Nd:= .mk 0 [] []
theorem qd{o z:Int}{s s':List UInt8}(h:z=o)(hs:s=s'):AV0.imp (.agg [.c (.val (.int .i64 z)),.c (.val (str s)),.c (.val (.slice none 0 0))]) (.agg (ndA (.mk o s' []))):=fun E S w v hv=>by
 obtain⟨vs,rfl,hall⟩:=hv;subst h hs
 match vs,hall with
 |[a,b,c],⟨h1,h2,h3,_⟩=>exact⟨[a,b,c],rfl,h1,h2,imp_nil (size:=3) E S w c h3,trivial⟩
theorem bX{o z:Int}{s s':List UInt8}{n:Nat}{cells:List CA}{ks:List Nd}(h:z=o)(hs:s=s')(hn:n=ks.length)(hc:cells=ks.flatMap ndC):AV0.imp (.agg [.c (.val (.int .i64 z)),.c (.val (str s)),.c (.sat (aQ 3 n cells))]) (.agg (ndA (.mk o s' ks))):=by
 subst h hs hn hc;exact zv _
theorem aU{P:Program}{C:Ctx}{st:St}{r:ResultVar}{x y:AV0}{l:List (Nat×Slot)}(h:ak P st r x)(e:x.imp y)(hh:abS st l):aM C P [r] ⟨.it y,l⟩ st:=gG (xs:=[y]) ⟨h.imp e,trivial⟩ hh
theorem aiZ(l:List Tok)(a o e p:Nat):aj prog 457 [.ptr 29 0,.v (.int .i64 (e:Int)),.v (.int .i64 (p:Int))] [(29,PG l a o)] ⟨.agg (ndA nd0),[(29,.ent (PE l a o e p))]⟩:=by
 refine aj.fq func457 results457 ntmps457 fun _ _ _ _ _=>?_
 refine zg ?_;exact aU ak.bQ (qd rfl rfl) ⟨rfl,trivial⟩
theorem aiJ(l:List Tok)(a o e p e' p':Nat):aj prog 457 [.ptr 29 0,.v (.int .i64 (e':Int)),.v (.int .i64 (p':Int))] [(29,PE l a o e p)] ⟨.agg (ndA nd0),[(29,.ent (PE l a o e p))]⟩:=by
 refine aj.fq func457 results457 ntmps457 fun _ _ _ _ _=>?_
 refine zg ?_;exact aU ak.bQ (qd rfl rfl) ⟨rfl,trivial⟩
theorem vw(l:List Tok)(a o:Nat):aj prog 390 [.ptr 29 0] [(29,PG l a o)] ⟨.agg (ndA nd0),[(29,.ent (PE l a o 4 a))]⟩:=by
 have c:=aiZ l a o 4 a;refine aj.fq func390 results390 ntmps390 fun _ _ _ _ _=>?_
 refine zg ?_;exact aU ak.bQ (zv _) ⟨rfl,trivial⟩
theorem aff(l:List Tok)(a o e p:Nat):aj prog 390 [.ptr 29 0] [(29,PE l a o e p)] ⟨.agg (ndA nd0),[(29,.ent (PE l a o e p))]⟩:=by
 have c:=aiJ l a o e p 4 a;refine aj.fq func390 results390 ntmps390 fun _ _ _ _ _=>?_
 refine zg ?_;exact aU ak.bQ (zv _) ⟨rfl,trivial⟩
theorem nX{P:Program}{C:Ctx}{st:St}{t:Tmp}{b b':Bool}{l:List (Nat×Slot)}(e:b=b')(hh:abS st l)(h:st.tm t=some (.v (.bool b)):=by rfl):aM C P [.tmp t] ⟨.v (.bool b'),l⟩ st:=gG (xs:=[.one (.c (.val (.bool b')))]) ⟨by rw[<-e];exact ak.tmp h,trivial⟩ hh
theorem atu{P:Program}{C:Ctx}{st:St}{t:Tmp}{b b':List UInt8}{l:List (Nat×Slot)}(e:b=b')(hh:abS st l)(h:st.tm t=some (.v (str b)):=by rfl):aM C P [.tmp t] ⟨.v (str b'),l⟩ st:=gG (xs:=[.one (.c (.val (str b')))]) ⟨by rw[<-e];exact ak.tmp h,trivial⟩ hh
theorem aoq{P:Program}{C:Ctx}{st:St}{l:List (Nat×Slot)}(hh:abS st l):aM C P [] ⟨.tup [],l⟩ st:=gG (xs:=[]) trivial hh
theorem at6(l:List Tok)(a o:Nat)(s:List UInt8):aj prog 386 [.ptr 29 0,.v (str s)] [(29,PG l a o)] ⟨.v (.bool (isS l a s)),[(29,.ent (PG l a o))]⟩:=by
 by_cases h:a < l.length
 ·obtain⟨⟨tk,tt,tp⟩,ht⟩:∃t,l[a]? =some t:=⟨_,zyh h⟩
  have hv:isS l a s=(!decide (tk=1)&&decide (tt=s)):=by unfold isS;rw[ht]
  rw[hv];by_cases hk:tk=1
  ·subst hk;have e1:decide ((1:Int)≠1)=false:=zc
   refine aj.fq func386 results386 ntmps386 fun w0 T B E0 hB=>?_
   refine zg ?_;exact nX rfl ⟨rfl,trivial⟩
  ·refine aj.fq func386 results386 ntmps386 fun w0 T B E0 hB=>?_
   refine zg ?_
   (refine nX ?_ ⟨rfl,trivial⟩;simp[hk])
 ·have hv:isS l a s=false:=by unfold isS;rw[zqe zE]
  rw[hv];refine aj.fq func386 results386 ntmps386 fun w0 T B E0 hB=>?_
  refine zg ?_;exact nX rfl ⟨rfl,trivial⟩
theorem c_isE(l:List Tok)(a o e p:Nat)(s:List UInt8):aj prog 386 [.ptr 29 0,.v (str s)] [(29,PE l a o e p)] ⟨.v (.bool false),[(29,.ent (PE l a o e p))]⟩:=by
 refine aj.fq func386 results386 ntmps386 fun _ _ _ _ _=>?_
 refine zg ?_;exact nX rfl ⟨rfl,trivial⟩
theorem dh{l:List Tok}{a:Nat}{s:List UInt8}(h:isS l a s=true):a < l.length:=by
 refine Nat.lt_of_not_le fun hn=>?_
 unfold isS at h;rw[zqe hn]at h;cases h
theorem fB{l:List Tok}{a:Nat}(o:Nat){s:List UInt8}(hl:l.length<=1000000)(h:isS l a s=true):aj prog 286 [.ptr 29 0,.v (str s)] [(29,PG l a o)] ⟨.v (.bool true),[(29,.ent (PG l (a+1) o))]⟩:=by
 have hlt:=dh h;have c:=at6 l a o s;rw[h]at c;refine aj.fq func286 results286 ntmps286 fun _ _ _ _ _=>?_
 refine zg ?_;exact nX rfl ⟨rfl,trivial⟩
theorem eH{l:List Tok}{a:Nat}(o:Nat){s:List UInt8}(h:isS l a s=false):aj prog 286 [.ptr 29 0,.v (str s)] [(29,PG l a o)] ⟨.v (.bool false),[(29,.ent (PG l a o))]⟩:=by
 have c:=at6 l a o s;rw[h]at c;refine aj.fq func286 results286 ntmps286 fun _ _ _ _ _=>?_
 refine zg ?_;exact nX rfl ⟨rfl,trivial⟩
theorem eB(l:List Tok)(a o e p:Nat)(s:List UInt8):aj prog 286 [.ptr 29 0,.v (str s)] [(29,PE l a o e p)] ⟨.v (.bool false),[(29,.ent (PE l a o e p))]⟩:=by
 have c:=c_isE l a o e p s;refine aj.fq func286 results286 ntmps286 fun _ _ _ _ _=>?_
 refine zg ?_;exact nX rfl ⟨rfl,trivial⟩
theorem kC{l:List Tok}{a:Nat}(o:Nat){s:List UInt8}(hl:l.length<=1000000)(h:isS l a s=true):aj prog 290 [.ptr 29 0,.v (str s)] [(29,PG l a o)] ⟨.tup [],[(29,.ent (PG l (a+1) o))]⟩:=by
 have c:=fB o hl h;refine aj.fq func290 results290 ntmps290 fun _ _ _ _ _=>?_
 refine zg ?_;exact aoq ⟨rfl,trivial⟩
theorem lJ{l:List Tok}{a:Nat}(o:Nat){s:List UInt8}(h:isS l a s=false):aj prog 290 [.ptr 29 0,.v (str s)] [(29,PG l a o)] ⟨.tup [],[(29,.ent (PE l a o 4 a))]⟩:=by
 have c:=eH o h;have c2:=vw l a o;refine aj.fq func290 results290 ntmps290 fun _ _ _ _ _=>?_
 refine zg ?_;exact aoq ⟨rfl,trivial⟩
theorem jH(l:List Tok)(a o e p:Nat)(s:List UInt8):aj prog 290 [.ptr 29 0,.v (str s)] [(29,PE l a o e p)] ⟨.tup [],[(29,.ent (PE l a o e p))]⟩:=by
 have c:=eB l a o e p s;have c2:=aff l a o e p;refine aj.fq func290 results290 ntmps290 fun _ _ _ _ _=>?_
 refine zg ?_;exact aoq ⟨rfl,trivial⟩
theorem xg(l:List Tok)(a:Nat){o:Nat}(h:o+1<=600):aj prog 456 [.ptr 29 0] [(29,PG l a o)] ⟨.v (.bool true),[(29,.ent (PG l a (o+1)))]⟩:=by
 refine aj.fq func456 results456 ntmps456 fun _ _ _ _ _=>?_
 refine zg ?_;exact nX rfl ⟨rfl,trivial⟩
theorem wE(l:List Tok)(a:Nat){o:Nat}(h:600 < o+1)(ho:o<=1000000):aj prog 456 [.ptr 29 0] [(29,PG l a o)] ⟨.v (.bool false),[(29,.ent (PE l a (o+1) 8 0))]⟩:=by
 have c:=aiZ l a (o+1) 8 0;refine aj.fq func456 results456 ntmps456 fun _ _ _ _ _=>?_
 refine zg ?_;exact nX rfl ⟨rfl,trivial⟩
theorem anx(l:List Tok)(a:Nat){o:Nat}(e p:Nat)(ho:o<=1000000):aj prog 456 [.ptr 29 0] [(29,PE l a o e p)] ⟨.v (.bool false),[(29,.ent (PE l a (o+1) e p))]⟩:=by
 have c:=aiJ l a (o+1) e p 8 0;by_cases h:600 < o+1
 ·refine aj.fq func456 results456 ntmps456 fun w0 T B E0 hB=>?_
  refine zg ?_;exact nX rfl ⟨rfl,trivial⟩
 ·refine aj.fq func456 results456 ntmps456 fun w0 T B E0 hB=>?_
  refine zg ?_;exact nX rfl ⟨rfl,trivial⟩
theorem rA(l:List Tok)(a o:Nat):aj prog 291 [.ptr 29 0] [(29,PG l a o)] ⟨.v (.bool (nO l a)),[(29,.ent (PG l a o))]⟩:=by
 by_cases h:a < l.length
 ·obtain⟨⟨tk,tt,tp⟩,ht⟩:∃t,l[a]? =some t:=⟨_,zyh h⟩
  have hv:nO l a=(decide (tk=2)&&!ownB tt):=by unfold nO;rw[ht]
  rw[hv];have cO:=aor tt;by_cases hk:tk=2
  ·refine aj.fq func291 results291 ntmps291 fun w0 T B E0 hB=>?_
   refine zg ?_
   (refine nX ?_ ⟨rfl,trivial⟩;simp[hk])
  ·refine aj.fq func291 results291 ntmps291 fun w0 T B E0 hB=>?_
   refine zg ?_
   (refine nX ?_ ⟨rfl,trivial⟩;simp[hk])
 ·have hv:nO l a=false:=by unfold nO;rw[zqe zE]
  rw[hv];refine aj.fq func291 results291 ntmps291 fun w0 T B E0 hB=>?_
  refine zg ?_;exact nX rfl ⟨rfl,trivial⟩
theorem adv{l:List Tok}{a:Nat}(h:nO l a=true):a < l.length:=by
 refine Nat.lt_of_not_le fun hn=>?_
 unfold nO at h;rw[zqe hn]at h;cases h
def txt(l:List Tok)(a:Nat):List UInt8:=match l[a]? with
 |some t=>t.text
 |none=>[]
theorem ajL{l:List Tok}{a:Nat}(o:Nat)(hl:l.length<=1000000)(h:nO l a=true):aj prog 289 [.ptr 29 0] [(29,PG l a o)] ⟨.v (str (txt l a)),[(29,.ent (PG l (a+1) o))]⟩:=by
 have hlt:=adv h;have c:=rA l a o;rw[h]at c;obtain⟨⟨tk,tt,tp⟩,ht⟩:∃t,l[a]? =some t:=⟨_,zyh hlt⟩
 have hv:txt l a=tt:=by unfold txt;rw[ht]
 rw[hv];refine aj.fq func289 results289 ntmps289 fun _ _ _ _ _=>?_
 refine zg ?_;exact atu rfl ⟨rfl,trivial⟩
theorem ar4{l:List Tok}{a:Nat}(o:Nat)(h:nO l a=false):aj prog 289 [.ptr 29 0] [(29,PG l a o)] ⟨.v (str []),[(29,.ent (PE l a o 4 a))]⟩:=by
 have c:=rA l a o;rw[h]at c;have c2:=vw l a o;refine aj.fq func289 results289 ntmps289 fun _ _ _ _ _=>?_
 refine zg ?_;exact atu rfl ⟨rfl,trivial⟩
end
section
inductive Res where
 |ok (n:Nd) (a:Nat)
 |bad (e p:Nat) (n:Nd) (a o:Nat)
abbrev Gr:=Nat->Nat->Res
def jm(f:Nd->Nd):Res->Res
 | .ok n a=> .ok (f n) a
 | .bad e p n a o=> .bad e p (f n) a o
section
variable(K:Nat)(l:List Tok)
def thenS(r:Res)(o:Nat)(s:List UInt8):Res:=match r with
 | .ok n a=>if isS l a s then .ok n (a+1)else .bad 4 a n a o
 | .bad e p n a o'=> .bad e p n a o'
def ins(k:Gr):Gr:=fun a o=>if K < o+1 then .bad 8 0 nd0 a (o+1)else match k a (o+1)with
 | .ok n a'=> .ok n a'
 | .bad e p n a' o'=> .bad e p n a' (o' - 1)
def sJ(X:Gr)(e:List UInt8):Nat->List Nd->Gr
 |0,_=>fun a o=> .bad 4 a nd0 a o
 |m+1,ks=>fun a o=>match X a o with
  | .bad c p n a' o'=> .bad c p (.mk 0 [] (ks++[n])) a' o'
  | .ok n a'=>if isS l a' e then .ok (.mk 0 [] (ks++[n])) (a'+1)else if isS l a' [44]then sJ X e m (ks++[n]) (a'+1) o else .bad 4 a' (.mk 0 [] (ks++[n])) a' o
def kg(X:Gr)(e:List UInt8):Gr:=fun a o=>if isS l a e then .ok (.mk 0 [] []) (a+1)else sJ l X e (l.length+1) [] a o
def rP(X:Gr):Nat->List Nd->List Nd->Gr
 |0,_,_=>fun a o=> .bad 4 a nd0 a o
 |m+1,rs,r=>fun a o=>match X a o with
  | .bad c p n a' o'=> .bad c p (.mk 14 [] (rs++[.mk 15 [] (r++[n])])) a' o'
  | .ok n a'=>if isS l a' [44]then rP X m rs (r++[n]) (a'+1) o else if isS l a' [59]then rP X m (rs++[.mk 15 [] (r++[n])]) [] (a'+1) o
   else if isS l a' [93]then .ok (.mk 14 [] (rs++[.mk 15 [] (r++[n])])) (a'+1)else .bad 4 a' (.mk 14 [] (rs++[.mk 15 [] (r++[n])])) a' o
def qM(X:Gr):Gr:=fun a o=>match l[a]? with
 |none=> .bad 4 a nd0 a o
 |some t=>if t.kind=1 then .ok (.mk 1 t.text []) (a+1)
  else if nO l a then(if isS l (a+1) [40]then ins K (fun a o=>jm (fun n=> .mk 13 t.text n.kids) (kg l X [41] a o)) (a+2) o else .ok (.mk 2 t.text []) (a+1))
  else if isS l a [40]then ins K (fun a o=>thenS l (X a o) o [41]) (a+1) o
  else if isS l a [91]then ins K (fun a o=>rP l X (l.length+1) [] [] a o) (a+1) o
  else if isS l a [123]then ins K (fun a o=>jm (fun n=> .mk 16 [] n.kids) (kg l X [125] a o)) (a+1) o
  else .bad 4 a nd0 a o
def uq(X:Gr)(n:Nd):Gr:=fun a o=>match X a o with
 | .bad e p m a' o'=> .bad e p (.mk 17 [] [n,m]) a' o'
 | .ok m a'=>if isS l a' [44]then thenS l (jm (fun m2=> .mk 17 [] [n,m,m2]) (X (a'+1) o)) o [93]
  else thenS l (.ok (.mk 17 [] [n,m]) a') o [93]
def um(X:Gr):Nat->Nd->Gr
 |0,_=>fun a o=> .bad 4 a nd0 a o
 |k+1,n=>fun a o=>if isS l a [91]then(match ins K (uq l X n) (a+1) o with
   | .bad e p n' a' o'=> .bad e p n' a' o'
   | .ok n' a'=>um X k n' a' o)
  else .ok n a
def qK(X:Gr):Gr:=fun a o=>match qM K l X a o with
 | .bad e p n a' o'=> .bad e p n a' o'
 | .ok n a'=>um K l X (l.length+1) n a' o
def abI(X U:Gr):Gr:=fun a o=>match qK K l X a o with
 | .bad e p n a' o'=> .bad e p n a' o'
 | .ok n a'=>if isS l a' [94]then jm (fun m=> .mk 8 [] [n,m]) (U (a'+1) o)else .ok n a'
def unG(X U:Gr):Gr:=fun a o=>if isS l a [45]then ins K (fun a o=>jm (fun m=> .mk 3 [] [m]) (U a o)) (a+1) o else abI K l X U a o
def jI(S:Gr)(s1:List UInt8)(x:Nat)(s2:List UInt8)(y:Nat):Nat->Nd->Gr
 |0,_=>fun a o=> .bad 4 a nd0 a o
 |m+1,n=>fun a o=>if isS l a s1 then(match S (a+1) o with
   | .bad e p k a' o'=> .bad e p (.mk x [] [n,k]) a' o'
   | .ok k a'=>jI S s1 x s2 y m (.mk x [] [n,k]) a' o)
  else if isS l a s2 then(match S (a+1) o with
   | .bad e p k a' o'=> .bad e p (.mk y [] [n,k]) a' o'
   | .ok k a'=>jI S s1 x s2 y m (.mk y [] [n,k]) a' o)
  else .ok n a
def abJ(S:Gr)(s1:List UInt8)(x:Nat)(s2:List UInt8)(y:Nat):Gr:=fun a o=>match S a o with
 | .bad e p n a' o'=> .bad e p n a' o'
 | .ok n a'=>jI l S s1 x s2 y (l.length+1) n a' o
def aeJ(U:Gr):Gr:=abJ l U [42] 6 [47] 7
def oO(U:Gr):Gr:=abJ l (aeJ l U) [43] 4 [45] 5
def abR(U:Gr):Gr:=fun a o=>match oO l U a o with
 | .bad e p n a' o'=> .bad e p n a' o'
 | .ok n a'=>if isS l a' [61,61]then jm (fun m=> .mk 9 [] [n,m]) (oO l U (a'+1) o)else if isS l a' [33,61]then jm (fun m=> .mk 10 [] [n,m]) (oO l U (a'+1) o)
  else if isS l a' [60]then jm (fun m=> .mk 11 [] [n,m]) (oO l U (a'+1) o)else if isS l a' [60,61]then jm (fun m=> .mk 12 [] [n,m]) (oO l U (a'+1) o)else .ok n a'
def lev:Nat->Gr×Gr
 |0=>(fun a o=> .bad 4 a nd0 a o,fun a o=> .bad 4 a nd0 a o)
 |n+1=>(abR l (unG K l (lev n).1 (lev n).2),unG K l (lev n).1 (lev n).2)
end
def CR(res:Nd->AV)(f:FuncId)(args:List AV)(ex:List (Nat×Ent))(l:List Tok)(a o:Nat):Res->Prop
 | .ok n a'=>aj prog f args ((29,PG l a o)::ex) ⟨res n,(29,.ent (PG l a' o))::ex.map fun p=>(p.1,.ent p.2)⟩
 | .bad e p n a' o'=>aj prog f args ((29,PG l a o)::ex) ⟨res n,(29,.ent (PE l a' o' e p))::ex.map fun p=>(p.1,.ent p.2)⟩
mutual
def cnt:Nd->Nat
 | .mk _ _ ks=>1+jr ks
def jr:List Nd->Nat
 |[]=>0
 |k::ks=>cnt k+jr ks
end
theorem fC:∀ks ms:List Nd,jr (ks++ms)=jr ks+jr ms
 |[],ms=>by simp[jr]
 |k::ks,ms=>by simp[jr,fC ks ms];omega
theorem mK:∀n:Nd,1<=cnt n
 | .mk _ _ _=>by rw[cnt];omega
theorem fQ(x:Int)(t:List UInt8)(ks:List Nd):cnt (.mk x t ks)=1+jr ks:=by rw[cnt]
theorem bC(k:Nd)(ks:List Nd):jr (k::ks)=cnt k+jr ks:=by rw[jr]
theorem d9:jr []=0:=by rw[jr]
theorem vN:∀ks:List Nd,ks.length<=jr ks
 |[]=>by simp[jr]
 |k::ks=>by have:=vN ks;have:=mK k;simp[jr];omega
def mQ(s c k:Nat)(l:List Tok)(a o:Nat):Res->Prop
 | .ok n a'=>a+cnt n+c<=a'+s/\a<=a'/\a'<=l.length
 | .bad _ _ _ _ o'=>o<=o'/\o'<=o+k
def zM(k o:Nat):Res->Prop
 | .ok _ _=>True
 | .bad _ _ _ _ o'=>o<=o'/\o'<=o+k
def Adv(k:Nat)(l:List Tok)(m:Nat)(g:Gr):Prop:=∀a o,m<=a->a<=l.length->mQ 0 0 k l a o (g a o)
abbrev rNd(n:Nd):AV:= .agg (ndA n)
abbrev rKs(n:Nd):AV:= .r (aB 3 ndC n.kids)
abbrev PP:Ent:= .box 229 [.ptr 29 0]
abbrev NB(n:Nd):Ent:= .box 233 (ndA n)
abbrev KB(t:Tok):Ent:= .box 226 (tokA t)
abbrev fnA(f:FuncId)(cap:List (Nat×Nat)):AV:= .it (.one (.clo f cap))
abbrev bnA(f:FuncId):AV:= .it (.one (.bnd f 29))
attribute [local irreducible] IntKind.wrap Go1 Reg WP aJ aN bF bD aM aA ak aj aT Sat
theorem adZ{f:FuncId}{l:List Tok}{a o:Nat}{k:Gr}(ho:o<=600)(hk:o+1<=600->CR rNd f [.ptr 81 0] [(81,PP)] l a (o+1) (k a (o+1))/\zM 2 (o+1) (k a (o+1))):
  CR rNd 388 [.ptr 29 0,fnA f [(81,0)]] [(81,PP)] l a o (ins 600 k a o):=by
 unfold ins;by_cases h:600 < o+1
 ·rw[if_pos h];have c:=wE l a h zE
  show aj _ _ _ _ _;refine aj.fq func388 results388 ntmps388 fun w0 T B E0 hB=>?_
  refine zg ?_;exact aU ak.bQ (qd rfl rfl) ⟨rfl,rfl,trivial⟩
 ·rw[if_neg h];have c:=xg l a (o:=o) zE
  obtain⟨hk,hb⟩:=hk zE
  cases hr:k a (o+1)with
  |ok n a'=>
   rw[hr]at hk;unfold CR at hk;show aj _ _ _ _ _;refine aj.fq func388 results388 ntmps388 fun w0 T B E0 hB=>?_
   refine zg ?_;exact aU ak.bQ (zv _) ⟨rfl,rfl,trivial⟩
  |bad e p n a' o'=>
   rw[hr]at hk hb;unfold CR at hk;unfold zM at hb;show aj _ _ _ _ _;refine aj.fq func388 results388 ntmps388 fun w0 T B E0 hB=>?_
   refine zg ?_;exact aU ak.bQ (zv _) ⟨rfl,rfl,trivial⟩
theorem auf{f:FuncId}{l:List Tok}{a o:Nat}{k:Gr}{N:Nd}(ho:o<=600)(hk:o+1<=600->CR rNd f [.ptr 83 0,.ptr 81 0] [(81,PP),(83,NB N)] l a (o+1) (k a (o+1))/\zM 2 (o+1) (k a (o+1))):
  CR rNd 388 [.ptr 29 0,fnA f [(83,0),(81,0)]] [(81,PP),(83,NB N)] l a o (ins 600 k a o):=by
 unfold ins;by_cases h:600 < o+1
 ·rw[if_pos h];have c:=wE l a h zE
  show aj _ _ _ _ _;refine aj.fq func388 results388 ntmps388 fun w0 T B E0 hB=>?_
  refine zg ?_;exact aU ak.bQ (qd rfl rfl) ⟨rfl,rfl,rfl,trivial⟩
 ·rw[if_neg h];have c:=xg l a (o:=o) zE
  obtain⟨hk,hb⟩:=hk zE
  cases hr:k a (o+1)with
  |ok n a'=>
   rw[hr]at hk;unfold CR at hk;show aj _ _ _ _ _;refine aj.fq func388 results388 ntmps388 fun w0 T B E0 hB=>?_
   refine zg ?_;exact aU ak.bQ (zv _) ⟨rfl,rfl,rfl,trivial⟩
  |bad e p n a' o'=>
   rw[hr]at hk hb;unfold CR at hk;unfold zM at hb;show aj _ _ _ _ _;refine aj.fq func388 results388 ntmps388 fun w0 T B E0 hB=>?_
   refine zg ?_;exact aU ak.bQ (zv _) ⟨rfl,rfl,rfl,trivial⟩
theorem auu{f:FuncId}{l:List Tok}{a o:Nat}{k:Gr}{t:Tok}(ho:o<=600)(hk:o+1<=600->CR rNd f [.ptr 82 0,.ptr 81 0] [(81,PP),(82,KB t)] l a (o+1) (k a (o+1))/\zM 2 (o+1) (k a (o+1))):
  CR rNd 388 [.ptr 29 0,fnA f [(82,0),(81,0)]] [(81,PP),(82,KB t)] l a o (ins 600 k a o):=by
 unfold ins;by_cases h:600 < o+1
 ·rw[if_pos h];have c:=wE l a h zE
  show aj _ _ _ _ _;refine aj.fq func388 results388 ntmps388 fun w0 T B E0 hB=>?_
  refine zg ?_;exact aU ak.bQ (qd rfl rfl) ⟨rfl,rfl,rfl,trivial⟩
 ·rw[if_neg h];have c:=xg l a (o:=o) zE
  obtain⟨hk,hb⟩:=hk zE
  cases hr:k a (o+1)with
  |ok n a'=>
   rw[hr]at hk;unfold CR at hk;show aj _ _ _ _ _;refine aj.fq func388 results388 ntmps388 fun w0 T B E0 hB=>?_
   refine zg ?_;exact aU ak.bQ (zv _) ⟨rfl,rfl,rfl,trivial⟩
  |bad e p n a' o'=>
   rw[hr]at hk hb;unfold CR at hk;unfold zM at hb;show aj _ _ _ _ _;refine aj.fq func388 results388 ntmps388 fun w0 T B E0 hB=>?_
   refine zg ?_;exact aU ak.bQ (zv _) ⟨rfl,rfl,rfl,trivial⟩
theorem avf{f:FuncId}{l:List Tok}{a o:Nat}{k:Gr}(ho:o<=600)(hk:o+1<=600->CR rNd f [.ptr 29 0] [] l a (o+1) (k a (o+1))/\zM 2 (o+1) (k a (o+1))):
  CR rNd 388 [.ptr 29 0,bnA f] [] l a o (ins 600 k a o):=by
 unfold ins;by_cases h:600 < o+1
 ·rw[if_pos h];have c:=wE l a h zE
  show aj _ _ _ _ _;refine aj.fq func388 results388 ntmps388 fun w0 T B E0 hB=>?_
  refine zg ?_;exact aU ak.bQ (qd rfl rfl) ⟨rfl,trivial⟩
 ·rw[if_neg h];have c:=xg l a (o:=o) zE
  obtain⟨hk,hb⟩:=hk zE
  cases hr:k a (o+1)with
  |ok n a'=>
   rw[hr]at hk;unfold CR at hk;show aj _ _ _ _ _;refine aj.fq func388 results388 ntmps388 fun w0 T B E0 hB=>?_
   refine zg ?_;exact aU ak.bQ (zv _) ⟨rfl,trivial⟩
  |bad e p n a' o'=>
   rw[hr]at hk hb;unfold CR at hk;unfold zM at hb;show aj _ _ _ _ _;refine aj.fq func388 results388 ntmps388 fun w0 T B E0 hB=>?_
   refine zg ?_;exact aU ak.bQ (zv _) ⟨rfl,trivial⟩
theorem ant{f:FuncId}{l:List Tok}{a o e p:Nat}(ho:o<=1000000):
  aj prog 388 [.ptr 29 0,fnA f [(81,0)]] [(29,PE l a o e p),(81,PP)] ⟨rNd nd0,[(29,.ent (PE l a (o+1) e p)),(81,.ent PP)]⟩:=by
 have c:=anx l a e p ho;refine aj.fq func388 results388 ntmps388 fun _ _ _ _ _=>?_
 refine zg ?_;exact aU ak.bQ (qd rfl rfl) ⟨rfl,rfl,trivial⟩
def GOK(f:FuncId)(l:List Tok)(m:Nat)(g:Gr):Prop:=∀a o,m<=a->a<=l.length->o<=600->CR rNd f [.ptr 29 0] [] l a o (g a o)
def GE(f:FuncId)(l:List Tok):Prop:=∀a o e p,aj prog f [.ptr 29 0] [(29,PE l a o e p)] ⟨rNd nd0,[(29,.ent (PE l a o e p))]⟩
theorem CR.ok{res:Nd->AV}{f:FuncId}{args:List AV}{ex:List (Nat×Ent)}{l:List Tok}{a o:Nat}{n:Nd}{a':Nat}(h:CR res f args ex l a o (.ok n a')):aj prog f args ((29,PG l a o)::ex) ⟨res n,(29,.ent (PG l a' o))::ex.map fun p=>(p.1,.ent p.2)⟩:=h
theorem CR.bad{res:Nd->AV}{f:FuncId}{args:List AV}{ex:List (Nat×Ent)}{l:List Tok}{a o:Nat}{n:Nd}{e p a' o':Nat}(h:CR res f args ex l a o (.bad e p n a' o')):aj prog f args ((29,PG l a o)::ex) ⟨res n,(29,.ent (PE l a' o' e p))::ex.map fun p=>(p.1,.ent p.2)⟩:=h
theorem mQ.open{s c k:Nat}{l:List Tok}{a o:Nat}{r:Res}(h:mQ s c k l a o r):zM k o r:=by
 cases r with
 |ok n a'=>trivial
 |bad e p n a' o'=>exact h
theorem zM.mono{k k' o:Nat}{r:Res}(h:zM k o r)(hk:k<=k'):zM k' o r:=by
 cases r with
 |ok n a'=>trivial
 |bad e p n a' o'=>exact⟨h.1,by have:=h.2;omega⟩
theorem mQ.mono{s c k s' c' k':Nat}{l:List Tok}{a o a2:Nat}{r:Res}(h:mQ s c k l a2 o r)(hk:k<=k')(ha:a<=a2)(hc:a+c'+s<=a2+c+s'):mQ s' c' k' l a o r:=by
 cases r with
 |ok n a'=>exact⟨by have:=h.1;omega,by have:=h.2.1;omega,h.2.2⟩
 |bad e p n a' o'=>exact⟨h.1,by have:=h.2;omega⟩
theorem jB{f:Nd->Nd}{s s' c c' k:Nat}{l:List Tok}{a o:Nat}{r:Res}(h:mQ s c k l a o r)(hf:∀n,cnt (f n)+c'+s<=cnt n+c+s'):mQ s' c' k l a o (jm f r):=by
 cases r with
 |ok n a'=>exact⟨by have:=h.1;have:=hf n;omega,h.2⟩
 |bad e p n a' o'=>exact h
theorem oN{s c k:Nat}{l:List Tok}{a o:Nat}{r:Res}{t:List UInt8}(h:mQ s c k l a o r):mQ s (c+1) k l a o (thenS l r o t):=by
 cases r with
 |ok n a'=>
  unfold thenS
  dsimp only
  split
  ·rename_i hs;exact⟨by have:=h.1;omega,by have:=h.2.1;omega,dh hs⟩
  ·exact⟨zq6 _,zE⟩
 |bad e p n a' o'=>exact h
theorem oh{K s c k:Nat}{l:List Tok}{a o:Nat}{g:Gr}(hk:1<=k)(h:mQ s c k l a (o+1) (g a (o+1))):mQ s c k l a o (ins K g a o):=by
 unfold ins
 split
 ·exact⟨zE,zE⟩
 ·cases hr:g a (o+1)with
  |ok n a'=>rw[hr]at h;exact h
  |bad e p n a' o'=>rw[hr]at h;exact⟨by have:=h.1;omega,by have:=h.2;omega⟩
end
theorem vU(n:Nd)(x:Int)(t:List UInt8):cnt (.mk x t n.kids)=cnt n:=by
 cases n;rw[fQ,fQ];rfl
theorem mV{s c k:Nat}{l:List Tok}{a o e p:Nat}{n:Nd}{a':Nat}(hk:1<=k):mQ s c k l a o (.bad e p n a' o):=⟨zq6 _,zE⟩
theorem aeT{l:List Tok}{m:Nat}{X:Gr}{e:List UInt8}(h:Adv 1 l m X):∀(f:Nat) (ks:List Nd) (a o:Nat),m<=a->a<=l.length->mQ (jr ks) 0 1 l a o (sJ l X e f ks a o)
 |0,ks,a,o,hm,ha=>mV (zq6 _)
 |f+1,ks,a,o,hm,ha=>by
  have h1:=h a o hm ha;unfold sJ;cases hr:X a o with
  |bad c p n a' o'=>rw[hr]at h1;exact h1
  |ok n a'=>
   rw[hr]at h1;obtain⟨h1,h3,h2⟩:=h1
   dsimp only
   split
   ·rename_i hs;have:=dh hs;exact⟨by rw[fQ,fC,bC,d9];omega,zE,zE⟩
   ·split
    ·rename_i hs;have:=dh hs;refine(aeT h f (ks++[n]) (a'+1) o zE zE).mono (zq6 _) zE ?_
     rw[fC,bC,d9];omega
    ·exact mV (zq6 _)
theorem tN{l:List Tok}{m:Nat}{X:Gr}{e:List UInt8}(h:Adv 1 l m X){a o:Nat}(hm:m<=a)(ha:a<=l.length):mQ 0 0 1 l a o (kg l X e a o):=by
 unfold kg
 split
 ·rename_i hs;have:=dh hs;exact⟨by rw[fQ,d9];omega,zE,zE⟩
 ·have:=aeT (e:=e) h (l.length+1) [] a o hm ha
  rwa [d9]at this
theorem aad{l:List Tok}{m:Nat}{X:Gr}(h:Adv 1 l m X):∀(f:Nat) (rs r:List Nd) (a o:Nat),m<=a->a<=l.length->mQ (jr rs+jr r+1) 0 1 l a o (rP l X f rs r a o)
 |0,rs,r,a,o,hm,ha=>mV (zq6 _)
 |f+1,rs,r,a,o,hm,ha=>by
  have h1:=h a o hm ha;unfold rP;cases hr:X a o with
  |bad c p n a' o'=>rw[hr]at h1;exact h1
  |ok n a'=>
   rw[hr]at h1;obtain⟨h1,h3,h2⟩:=h1
   dsimp only
   split
   ·rename_i hs;have:=dh hs;refine(aad h f rs (r++[n]) (a'+1) o zE zE).mono (zq6 _) zE ?_
    rw[fC,bC,d9];omega
   ·split
    ·rename_i hs;have:=dh hs;have hh:=aad h f (rs++[.mk 15 [] (r++[n])]) [] (a'+1) o zE zE
     refine hh.mono (zq6 _) zE ?_
     rw[fC,bC,d9,fQ,fC,bC,d9];omega
    ·split
     ·rename_i hs;have:=dh hs;exact⟨by rw[fQ,fC,bC,d9,fQ,fC,bC,d9];omega,zE,zE⟩
     ·exact mV (zq6 _)
theorem afC{K:Nat}{l:List Tok}{m:Nat}{X:Gr}(h:Adv 1 l (m+1) X):Adv 1 l m (qM K l X):=by
 intro a o hm ha;unfold qM;cases ht:l[a]? with
 |none=>exact mV (zq6 _)
 |some t=>
  have hlt:a < l.length:=(zxg.1 ht).1
  dsimp only
  split
  ·exact⟨by rw[fQ,d9];omega,zE,zE⟩
  ·split
   ·split
    ·rename_i hs;have:=dh hs;refine(oh (zq6 _) (jB (c':=0) (s':=0) (tN h zE zE) (fun n=>by rw[vU];omega))).mono (zq6 _) zE zE
    ·exact⟨by rw[fQ,d9];omega,zE,zE⟩
   ·split
    ·refine(oh (zq6 _) (oN (h _ _ zE zE))).mono (zq6 _) zE zE
    ·split
     ·refine(oh (zq6 _) (aad h _ _ _ _ _ zE zE)).mono (zq6 _) zE (by simp only[d9];omega)
     ·split
      ·refine(oh (zq6 _) (jB (c':=0) (s':=0) (tN h zE zE) (fun n=>by rw[vU];omega))).mono (zq6 _) zE zE
      ·exact mV (zq6 _)
theorem aat{l:List Tok}{m:Nat}{X:Gr}{n:Nd}(h:Adv 1 l m X){a o:Nat}(hm:m<=a)(ha:a<=l.length):mQ (cnt n) 0 1 l a o (uq l X n a o):=by
 have h1:=h a o hm ha;unfold uq;cases hr:X a o with
 |bad c p m a' o'=>rw[hr]at h1;exact h1
 |ok n1 a'=>
  rw[hr]at h1;obtain⟨h1,h3,h2⟩:=h1
  dsimp only
  split
  ·rename_i hs;have:=dh hs;exact(oN (jB (c':=0) (s':=1+cnt n+cnt n1) (h (a'+1) o zE zE) (fun n2=>by rw[fQ,bC,bC,bC,d9];omega))).mono (zq6 _) zE zE
  ·exact(oN (k:=1) (s:=1+cnt n+cnt n1) (c:=0) (show mQ _ _ _ l a' o (.ok _ a')from ⟨by rw[fQ,bC,bC,d9];omega,zq6 _,h2⟩)).mono (zq6 _) zE zE
theorem agk{K:Nat}{l:List Tok}{m:Nat}{X:Gr}(h:Adv 1 l (m+1) X):∀(f:Nat) (n:Nd) (a o:Nat),m<=a->a<=l.length->mQ (cnt n) 0 1 l a o (um K l X f n a o)
 |0,n,a,o,hm,ha=>mV (zq6 _)
 |f+1,n,a,o,hm,ha=>by
  unfold um
  split
  ·rename_i hs;have:=dh hs;have h1:=oh (K:=K) (g:=uq l X n) (a:=a+1) (o:=o) (zq6 _) (aat (n:=n) (o:=o+1) h zE zE)
   cases hr:ins K (uq l X n) (a+1) o with
   |bad e p n' a' o'=>rw[hr]at h1;exact h1
   |ok n' a'=>
    rw[hr]at h1;obtain⟨h1,h3,h2⟩:=h1;exact(agk h f n' a' o zE h2).mono (zq6 _) zE zE
  ·exact⟨zE,zE,ha⟩
theorem ac8{K:Nat}{l:List Tok}{m:Nat}{X:Gr}(h:Adv 1 l (m+1) X):Adv 1 l m (qK K l X):=by
 intro a o hm ha;have h1:=afC (K:=K) h a o hm ha;unfold qK;cases hr:qM K l X a o with
 |bad e p n a' o'=>rw[hr]at h1;exact h1
 |ok n a'=>
  rw[hr]at h1;obtain⟨h1,h3,h2⟩:=h1;exact(agk h _ n a' o zE h2).mono (zq6 _) zE zE
theorem asH{K:Nat}{l:List Tok}{m:Nat}{X U:Gr}(h:Adv 1 l (m+1) X)(hu:Adv 1 l (m+1) U):Adv 1 l m (abI K l X U):=by
 intro a o hm ha;have h1:=ac8 (K:=K) h a o hm ha;unfold abI;cases hr:qK K l X a o with
 |bad e p n a' o'=>rw[hr]at h1;exact h1
 |ok n a'=>
  rw[hr]at h1;obtain⟨h1,h3,h2⟩:=h1;have:=mK n
  dsimp only
  split
  ·rename_i hs;have:=dh hs;exact(jB (c':=0) (s':=1+cnt n) (hu (a'+1) o zE zE) (fun k=>by rw[fQ,bC,bC,d9];omega)).mono (zq6 _) zE zE
  ·exact⟨h1,h3,h2⟩
theorem anf{K:Nat}{l:List Tok}{m:Nat}{X U:Gr}(h:Adv 1 l (m+1) X)(hu:Adv 1 l (m+1) U):Adv 1 l m (unG K l X U):=by
 intro a o hm ha;unfold unG
 split
 ·rename_i hs;have:=dh hs;exact(oh (zq6 _) (jB (c':=0) (s':=1) (hu (a+1) (o+1) zE zE) (fun k=>by rw[fQ,bC,d9];omega))).mono (zq6 _) zE zE
 ·exact asH h hu a o hm ha
theorem xO{l:List Tok}{m:Nat}{S:Gr}{s1 s2:List UInt8}{x y:Nat}(h:Adv 1 l m S):∀(f:Nat) (n:Nd) (a o:Nat),m<=a->a<=l.length->mQ (cnt n) 0 1 l a o (jI l S s1 x s2 y f n a o)
 |0,n,a,o,hm,ha=>mV (zq6 _)
 |f+1,n,a,o,hm,ha=>by
  unfold jI
  split
  ·rename_i hs;have:=dh hs;have h1:=h (a+1) o zE zE
   cases hr:S (a+1) o with
   |bad e p n' a' o'=>rw[hr]at h1;exact h1
   |ok n' a'=>
    rw[hr]at h1;obtain⟨h1,h3,h2⟩:=h1;exact(xO h f _ a' o zE h2).mono (zq6 _) zE (by rw[fQ,bC,bC,d9];omega)
  ·split
   ·rename_i hs;have:=dh hs;have h1:=h (a+1) o zE zE
    cases hr:S (a+1) o with
    |bad e p n' a' o'=>rw[hr]at h1;exact h1
    |ok n' a'=>
     rw[hr]at h1;obtain⟨h1,h3,h2⟩:=h1;exact(xO h f _ a' o zE h2).mono (zq6 _) zE (by rw[fQ,bC,bC,d9];omega)
   ·exact⟨zE,zE,ha⟩
theorem aaX{l:List Tok}{m:Nat}{S:Gr}{s1 s2:List UInt8}{x y:Nat}(h:Adv 1 l m S):Adv 1 l m (abJ l S s1 x s2 y):=by
 intro a o hm ha;have h1:=h a o hm ha;unfold abJ;cases hr:S a o with
 |bad e p n a' o'=>rw[hr]at h1;exact h1
 |ok n a'=>
  rw[hr]at h1;obtain⟨h1,h3,h2⟩:=h1;exact(xO h _ n a' o zE h2).mono (zq6 _) zE zE
theorem adK{l:List Tok}{m:Nat}{U:Gr}(h:Adv 1 l m U):Adv 1 l m (oO l U):=aaX (aaX h)
theorem as7{l:List Tok}{m:Nat}{U:Gr}(h:Adv 1 l m U):Adv 1 l m (abR l U):=by
 intro a o hm ha;have h1:=adK h a o hm ha;unfold abR;cases hr:oO l U a o with
 |bad e p n a' o'=>rw[hr]at h1;exact h1
 |ok n a'=>
  rw[hr]at h1;obtain⟨h1,h3,h2⟩:=h1;have key:∀(x:Int),a' < l.length->mQ 0 0 1 l a o (jm (fun m=> .mk x [] [n,m]) (oO l U (a'+1) o)):=fun x hx=>
   (jB (c':=0) (s':=1+cnt n) (adK h (a'+1) o zE zE) (fun k=>by rw[fQ,bC,bC,d9];omega)).mono (zq6 _) zE zE
  dsimp only
  split
  ·rename_i hs;exact key 9 (dh hs)
  ·split
   ·rename_i hs;exact key 10 (dh hs)
   ·split
    ·rename_i hs;exact key 11 (dh hs)
    ·split
     ·rename_i hs;exact key 12 (dh hs)
     ·exact⟨h1,h3,h2⟩
theorem aac(K:Nat)(l:List Tok):∀(n m:Nat),l.length+1<=m+n->Adv 1 l m (lev K l n).1/\Adv 1 l m (lev K l n).2
 |0,m,h=>⟨fun a o hm ha=>zE,fun a o hm ha=>zE⟩
 |n+1,m,h=>by
  obtain⟨h1,h2⟩:=aac K l n (m+1) zE
  have h3:=anf (K:=K) h1 h2;exact⟨as7 h3,h3⟩
end
section
attribute [local irreducible] IntKind.wrap Go1 Reg WP aJ aN bF bD aM aA ak aj aT Sat
theorem g_pow{l:List Tok}{m:Nat}{X U:Gr}(hl:l.length<=1000000)(hp:GOK 544 l m (qK 600 l X))(ap:Adv 1 l m (qK 600 l X))(hu:GOK 485 l (m+1) U):GOK 522 l m (abI 600 l X U):=by
 intro a o hm ha ho;have h1:=hp a o hm ha ho;have h2:=ap a o hm ha;unfold abI;cases hr:qK 600 l X a o with
 |bad e p n a' o'=>
  rw[hr]at h1;have c1:=h1.bad;have c2:=eB l a' o' e p [94];show aj _ _ _ _ _;refine aj.fq func522 results522 ntmps522 fun w0 T B E0 hB=>?_
  refine zg ?_
  try(refine WP.aG ?_;refine zg ?_)
  exact aU ak.bQ (zv _) ⟨rfl,trivial⟩
 |ok n a'=>
  rw[hr]at h1 h2;have c1:=h1.ok;obtain⟨g1,g2,g3⟩:=h2;have g4:=mK n;cases ht:isS l a' [94]with
  |false=>
   have c2:=eH o ht;simp only[Bool.false_eq_true,if_false,ht];show aj _ _ _ _ _;refine aj.fq func522 results522 ntmps522 fun w0 T B E0 hB=>?_
   refine zg ?_
   try(refine WP.aG ?_;refine zg ?_)
   exact aU ak.bQ (zv _) ⟨rfl,trivial⟩
  |true=>
   have c2:=fB o hl ht;have g3:=dh ht;have h3:=hu (a'+1) o zE zE ho
   simp only[if_true,ht];cases hr2:U (a'+1) o with
   |bad e p n2 a2 o2=>
    rw[hr2]at h3;have c3:=h3.bad;show aj _ _ _ _ _;refine aj.fq func522 results522 ntmps522 fun w0 T B E0 hB=>?_
    refine zg ?_
    try(refine WP.aG ?_;refine zg ?_)
    exact aU ak.bQ (bX rfl rfl rfl (by first|(simp only[zq7,zqd,aI,zqb];done)|(simp only[zq7,zqd,aI,zqb];rfl))) ⟨rfl,trivial⟩
   |ok n2 a2=>
    rw[hr2]at h3;have c3:=h3.ok;show aj _ _ _ _ _;refine aj.fq func522 results522 ntmps522 fun w0 T B E0 hB=>?_
    refine zg ?_
    try(refine WP.aG ?_;refine zg ?_)
    exact aU ak.bQ (bX rfl rfl rfl (by first|(simp only[zq7,zqd,aI,zqb];done)|(simp only[zq7,zqd,aI,zqb];rfl))) ⟨rfl,trivial⟩
theorem auQ{l:List Tok}(hp:GE 544 l):GE 522 l:=by
 intro a o e p;have c1:=hp a o e p;have c2:=eB l a o e p [94];refine aj.fq func522 results522 ntmps522 fun _ _ _ _ _=>?_
 refine zg ?_
 try(refine WP.aG ?_;refine zg ?_)
 exact aU ak.bQ (zv _) ⟨rfl,trivial⟩
theorem g_un1{l:List Tok}{m:Nat}{U:Gr}(hu:GOK 485 l m U){a o:Nat}(hm:m<=a)(ha:a<=l.length)(ho:o<=600):CR rNd 523 [.ptr 81 0] [(81,PP)] l a o (jm (fun m=> .mk 3 [] [m]) (U a o)):=by
 have h3:=hu a o hm ha ho;cases hr2:U a o with
 |bad e p n2 a2 o2=>
  rw[hr2]at h3;have c3:=h3.bad;show aj _ _ _ _ _;refine aj.fq func523 results523 ntmps523 fun w0 T B E0 hB=>?_
  refine zg ?_
  try(refine WP.aG ?_;refine zg ?_)
  exact aU ak.bQ (bX rfl rfl rfl (by first|(simp only[zq7,zqd,aI,zqb];done)|(simp only[zq7,zqd,aI,zqb];rfl))) ⟨rfl,rfl,trivial⟩
 |ok n2 a2=>
  rw[hr2]at h3;have c3:=h3.ok;show aj _ _ _ _ _;refine aj.fq func523 results523 ntmps523 fun w0 T B E0 hB=>?_
  refine zg ?_
  try(refine WP.aG ?_;refine zg ?_)
  exact aU ak.bQ (bX rfl rfl rfl (by first|(simp only[zq7,zqd,aI,zqb];done)|(simp only[zq7,zqd,aI,zqb];rfl))) ⟨rfl,rfl,trivial⟩
theorem g_un{l:List Tok}{m:Nat}{X U:Gr}(hl:l.length<=1000000)(hp:GOK 522 l m (abI 600 l X U))(hu:GOK 485 l (m+1) U)(au:Adv 1 l (m+1) U):GOK 485 l m (unG 600 l X U):=by
 intro a o hm ha ho;have nm:Named 1 81:=⟨⟩;unfold unG;cases ht:isS l a [45]with
 |false=>
  simp only[Bool.false_eq_true,if_false];have c1:=eH o ht;have h1:=hp a o hm ha ho;cases hr:abI 600 l X U a o with
  |bad e p n a' o'=>
   rw[hr]at h1;have c2:=h1.bad;show aj _ _ _ _ _;refine aj.fq func485 results485 ntmps485 fun w0 T B E0 hB=>?_
   refine zg ?_
   try(refine WP.aG ?_;refine zg ?_)
   exact aU ak.bQ (zv _) ⟨rfl,trivial⟩
  |ok n a'=>
   rw[hr]at h1;have c2:=h1.ok;show aj _ _ _ _ _;refine aj.fq func485 results485 ntmps485 fun w0 T B E0 hB=>?_
   refine zg ?_
   try(refine WP.aG ?_;refine zg ?_)
   exact aU ak.bQ (zv _) ⟨rfl,trivial⟩
 |true=>
  simp only[if_true];have c1:=fB o hl ht;have g3:=dh ht;have h1:=adZ (f:=523) (l:=l) (a:=a+1) (o:=o) (k:=fun a o=>jm (fun m=> .mk 3 [] [m]) (U a o)) ho (fun h=>⟨g_un1 hu zE zE zE,(jB (c':=0) (s':=1) (au (a+1) (o+1) zE zE) (fun k=>by rw[fQ,bC,d9];omega)).open.mono zE⟩)
  cases hr:ins 600 (fun a o=>jm (fun m=> .mk 3 [] [m]) (U a o)) (a+1) o with
  |bad e p n a' o'=>
   rw[hr]at h1;have c2:=h1.bad;show aj _ _ _ _ _;refine aj.fq func485 results485 ntmps485 fun w0 T B E0 hB=>?_
   refine zg ?_
   try(refine WP.aG ?_;refine zg ?_)
   exact aU ak.bQ (zv _) ⟨rfl,trivial⟩
  |ok n a'=>
   rw[hr]at h1;have c2:=h1.ok;show aj _ _ _ _ _;refine aj.fq func485 results485 ntmps485 fun w0 T B E0 hB=>?_
   refine zg ?_
   try(refine WP.aG ?_;refine zg ?_)
   exact aU ak.bQ (zv _) ⟨rfl,trivial⟩
theorem ge_un{l:List Tok}(hp:GE 522 l):GE 485 l:=by
 intro a o e p;have c1:=hp a o e p;have c2:=eB l a o e p [45];refine aj.fq func485 results485 ntmps485 fun _ _ _ _ _=>?_
 refine zg ?_
 try(refine WP.aG ?_;refine zg ?_)
 exact aU ak.bQ (zv _) ⟨rfl,trivial⟩
def bE:Option (Nat×Nat)->Nat
 |none=>0
 |some (e,_)=>e
def bP:Option (Nat×Nat)->Nat
 |none=>0
 |some (_,p)=>p
def bH:Option (Nat×Nat)->Bool
 |none=>false
 |some _=>true
abbrev PS(l:List Tok)(a o:Nat)(b:Option (Nat×Nat)):Ent:=PB l a o (bE b) (bH b) (bP b)
structure ChS where
 n:Nd
 a:Nat
 o:Nat
 b:Option (Nat×Nat)
 f:Nat
def chS(l:List Tok)(S:Gr)(s1:List UInt8)(x:Nat)(s2:List UInt8)(y:Nat)(q:ChS):Res:=match q.b with
 |none=>jI l S s1 x s2 y q.f q.n q.a q.o
 |some (e,p)=> .bad e p q.n q.a q.o
abbrev NZ:Ent:= .box 233 [.c (.val (.int .i64 0)),.c (.val (.string ByteArray.empty)),.c (.val (.slice none 0 0))]
def chI(f:FuncId)(s1:List UInt8)(x:Nat)(s2:List UInt8)(y:Nat):List (Nat×AV):=[(0,.ptr 29 0),(1,bnA f),(2,.v (str s1)),(3,.v (.int .i64 (x:Int))),(4,.v (str s2)),(5,.v (.int .i64 (y:Int))),(12,.ptr 12 0),(13,.ptr 13 0)]
def Res.nd:Res->Nd
 | .ok n _=>n
 | .bad _ _ n _ _=>n
def Res.pl:Res->Nat
 | .ok _ a=>a
 | .bad _ _ _ a _=>a
def Res.op(o:Nat):Res->Nat
 | .ok _ _=>o
 | .bad _ _ _ _ o'=>o'
def Res.er:Res->Option (Nat×Nat)
 | .ok _ _=>none
 | .bad e p _ _ _=>some (e,p)
theorem CR.of{res:Nd->AV}{f:FuncId}{args:List AV}{ex:List (Nat×Ent)}{l:List Tok}{a o:Nat}{r:Res}(h:aj prog f args ((29,PG l a o)::ex) ⟨res r.nd,(29,.ent (PS l r.pl (r.op o) r.er))::ex.map fun p=>(p.1,.ent p.2)⟩):CR res f args ex l a o r:=by
 cases r <;> exact h
abbrev caN(n:Nd):List CA:=[.val (.int .i64 (n.op:Int)),.val (str n.text),.sat (aB 3 ndC n.kids)]
theorem ado(x:Nat)(n k:Nd):Ent.box 233 [.c (.val (.int .i64 (x:Int))),.c (.val (.string ByteArray.empty)),.c (.sat (aQ 3 2 (caN n++caN k)))]=NB (.mk x [] [n,k]):=by
 show _=Ent.box _ [_,_,.c (.sat (aQ 3 2 ([n,k].flatMap ndC)))];rw[show [n,k].flatMap ndC=caN n++caN k by simp only[zq7,zqd,aI,zqb]]
 rfl
theorem ajB{f:FuncId}{l:List Tok}{m:Nat}{S:Gr}{s1 s2:List UInt8}{x y:Nat}(hl:l.length<=1000000)(hs:GOK f l m S)(hA:Adv 1 l m S){a o:Nat}(hm:m<=a)(ha:a<=l.length)(ho:o<=600):
  CR rNd 454 [.ptr 29 0,bnA f,.v (str s1),.v (.int .i64 (x:Int)),.v (str s2),.v (.int .i64 (y:Int))] [] l a o (abJ l S s1 x s2 y a o):=by
 have h1:=hs a o hm ha ho;have h2:=hA a o hm ha;unfold abJ;cases hr:S a o with
 |bad e p n a' o'=>
  rw[hr]at h1;have c1:=h1.bad;have c2:=eB l a' o' e p s1;have c3:=eB l a' o' e p s2;show aj _ _ _ _ _;refine aj.fq func454 results454 ntmps454 fun w0 T B E0 hB=>?_
  refine zg ?_
  try(refine WP.aG ?_;refine zg ?_)
  refine W.loop (fun _:Unit=>True) (fun _=>chI f s1 x s2 y) (fun _=>[(29,PE l a' o' e p),(12,NZ),(13,NB n)]) (fun _=>0) () trivial (fun _ _=>?_)
  refine zg ?_
  try(refine WP.aG ?_;refine zg ?_)
  exact aU ak.bQ (zv _) ⟨rfl,trivial⟩
 |ok n a'=>
  rw[hr]at h1 h2;have c1:=h1.ok;obtain⟨g1,g2,g3⟩:=h2;have g4:=mK n
  dsimp only
  generalize hR:jI l S s1 x s2 y (l.length+1) n a' o=R;refine CR.of ?_;refine aj.fq func454 results454 ntmps454 fun w0 T B E0 hB=>?_
  refine zg ?_
  try(refine WP.aG ?_;refine zg ?_)
  refine W.loop (fun q:ChS=>chS l S s1 x s2 y q=R/\(q.b=none->q.o=o/\m<=q.a/\q.a<=l.length/\l.length < q.a+q.f)) (fun _=>chI f s1 x s2 y) (fun q=>[(29,PS l q.a q.o q.b),(12,NZ),(13,NB q.n)]) (fun q=>match q.b with|none=>l.length+1 - q.a|some _=>0) ⟨n,a',o,none,l.length+1⟩ ⟨hR,fun _=>by dsimp only;exact⟨rfl,zE,zE,zE⟩⟩ (fun q hq=>?_)
  obtain⟨qn,qa,qo,qb,qf⟩:=q;obtain⟨hq1,hq2⟩:=hq
  dsimp only at hq1 hq2
  cases qb with
  |some b=>
   obtain⟨e,p⟩:=b;have c2:=eB l qa qo e p s1;have c3:=eB l qa qo e p s2;refine zg ?_
   try(refine WP.aG ?_;refine zg ?_)
   subst hq1;exact aU ak.bQ (zv _) ⟨rfl,trivial⟩
  |none=>
   obtain⟨rfl,b1,b2,b3⟩:=hq2 rfl;obtain⟨qf,rfl⟩:∃k,qf=k+1:=⟨qf - 1,zE⟩
   have hq1:jI l S s1 x s2 y (qf+1) qn qa qo=R:=hq1;unfold jI at hq1;cases ht:isS l qa s1 with
   |true=>
    have c2:=fB qo hl ht;have g5:=dh ht;have h3:=hs (qa+1) qo zE zE ho
    have h4:=hA (qa+1) qo zE zE
    rw[if_pos ht]at hq1;cases hr2:S (qa+1) qo with
    |bad e p k a2 o2=>
     rw[hr2]at h3 hq1;have c3:=h3.bad;refine zg ?_
     try(refine WP.aG ?_;refine zg ?_)
     exact W.next ⟨.mk x [] [qn,k],a2,o2,some (e,p),0⟩ ⟨hq1,fun h=>by cases h⟩ (by dsimp only;omega) 
      (by
       apply St.lt0
       ·intro b h;exact SX.dX h
       ·exact ya
       ·exact⟨ay.eq rfl rfl rfl,ay.same rfl rfl,ay.eq rfl (ado _ _ _) rfl,trivial⟩
       ·rfl)
    |ok k a2=>
     rw[hr2]at h3 hq1 h4;have c3:=h3.ok;obtain⟨j1,j2,j3⟩:=h4;refine zg ?_
     try(refine WP.aG ?_;refine zg ?_)
     exact W.next ⟨.mk x [] [qn,k],a2,qo,none,qf⟩ ⟨hq1,fun h=>by dsimp only;exact⟨rfl,zE,zE,zE⟩⟩ (by dsimp only;omega)
      (by
       apply St.lt0
       ·intro b h;exact SX.dX h
       ·exact ya
       ·exact⟨ay.eq rfl rfl rfl,ay.same rfl rfl,ay.eq rfl (ado _ _ _) rfl,trivial⟩
       ·rfl)
   |false=>
    have c2:=eH qo ht;rw[if_neg (by rw[ht];decide)]at hq1
    cases ht2:isS l qa s2 with
    |true=>
     have c4:=fB qo hl ht2;have g5:=dh ht2;have h3:=hs (qa+1) qo zE zE ho
     have h4:=hA (qa+1) qo zE zE
     rw[if_pos ht2]at hq1;cases hr2:S (qa+1) qo with
     |bad e p k a2 o2=>
      rw[hr2]at h3 hq1;have c3:=h3.bad;refine zg ?_
      try(refine WP.aG ?_;refine zg ?_)
      exact W.next ⟨.mk y [] [qn,k],a2,o2,some (e,p),0⟩ ⟨hq1,fun h=>by cases h⟩ (by dsimp only;omega)
       (by
        apply St.lt0
        ·intro b h;exact SX.dX h
        ·exact ya
        ·exact⟨ay.eq rfl rfl rfl,ay.same rfl rfl,ay.eq rfl (ado _ _ _) rfl,trivial⟩
        ·rfl)
     |ok k a2=>
      rw[hr2]at h3 hq1 h4;have c3:=h3.ok;obtain⟨j1,j2,j3⟩:=h4;refine zg ?_
      try(refine WP.aG ?_;refine zg ?_)
      exact W.next ⟨.mk y [] [qn,k],a2,qo,none,qf⟩ ⟨hq1,fun h=>by dsimp only;exact⟨rfl,zE,zE,zE⟩⟩ (by dsimp only;omega)
       (by
        apply St.lt0
        ·intro b h;exact SX.dX h
        ·exact ya
        ·exact⟨ay.eq rfl rfl rfl,ay.same rfl rfl,ay.eq rfl (ado _ _ _) rfl,trivial⟩
        ·rfl)
    |false=>
     have c4:=eH qo ht2;rw[if_neg (by rw[ht2];decide)]at hq1
     refine zg ?_
     try(refine WP.aG ?_;refine zg ?_)
     subst hq1;exact aU ak.bQ (zv _) ⟨rfl,trivial⟩
theorem aeP{f:FuncId}{l:List Tok}{s1 s2:List UInt8}{x y:Nat}(hs:GE f l)(a o e p:Nat):
  aj prog 454 [.ptr 29 0,bnA f,.v (str s1),.v (.int .i64 (x:Int)),.v (str s2),.v (.int .i64 (y:Int))] [(29,PE l a o e p)] ⟨rNd nd0,[(29,.ent (PE l a o e p))]⟩:=by
 have c1:=hs a o e p;have c2:=eB l a o e p s1;have c3:=eB l a o e p s2;refine aj.fq func454 results454 ntmps454 fun _ _ _ _ _=>?_
 refine zg ?_
 try(refine WP.aG ?_;refine zg ?_)
 refine W.loop (fun _:Unit=>True) (fun _=>chI f s1 x s2 y) (fun _=>[(29,PE l a o e p),(12,NZ),(13,NB nd0)]) (fun _=>0) () trivial (fun _ _=>?_)
 refine zg ?_
 try(refine WP.aG ?_;refine zg ?_)
 exact aU ak.bQ (zv _) ⟨rfl,trivial⟩
theorem aue{l:List Tok}{m:Nat}{U:Gr}(hl:l.length<=1000000)(hs:GOK 485 l m U)(hA:Adv 1 l m U):GOK 455 l m (aeJ l U):=by
 intro a o hm ha ho;have h1:CR rNd 454 [.ptr 29 0,bnA 485,.v (str [42]),.v (.int .i64 6),.v (str [47]),.v (.int .i64 7)] [] l a o (aeJ l U a o):=ajB hl hs hA hm ha ho;cases hr:aeJ l U a o with
 |bad e p n a' o'=>
  rw[hr]at h1;have c1:=h1.bad;show aj _ _ _ _ _;refine aj.fq func455 results455 ntmps455 fun w0 T B E0 hB=>?_
  refine zg ?_
  try(refine WP.aG ?_;refine zg ?_)
  exact aU ak.bQ (zv _) ⟨rfl,trivial⟩
 |ok n a'=>
  rw[hr]at h1;have c1:=h1.ok;show aj _ _ _ _ _;refine aj.fq func455 results455 ntmps455 fun w0 T B E0 hB=>?_
  refine zg ?_
  try(refine WP.aG ?_;refine zg ?_)
  exact aU ak.bQ (zv _) ⟨rfl,trivial⟩
theorem arz{l:List Tok}(hs:GE 485 l):GE 455 l:=by
 intro a o e p;have c1:aj prog 454 [.ptr 29 0,bnA 485,.v (str [42]),.v (.int .i64 6),.v (str [47]),.v (.int .i64 7)] [(29,PE l a o e p)] ⟨rNd nd0,[(29,.ent (PE l a o e p))]⟩:=aeP hs a o e p;refine aj.fq func455 results455 ntmps455 fun _ _ _ _ _=>?_
 refine zg ?_
 try(refine WP.aG ?_;refine zg ?_)
 exact aU ak.bQ (zv _) ⟨rfl,trivial⟩
theorem g_sum{l:List Tok}{m:Nat}{U:Gr}(hl:l.length<=1000000)(hs:GOK 455 l m (aeJ l U))(hA:Adv 1 l m U):GOK 387 l m (oO l U):=by
 intro a o hm ha ho;have h1:CR rNd 454 [.ptr 29 0,bnA 455,.v (str [43]),.v (.int .i64 4),.v (str [45]),.v (.int .i64 5)] [] l a o (oO l U a o):=ajB hl hs (aaX hA) hm ha ho;cases hr:oO l U a o with
 |bad e p n a' o'=>
  rw[hr]at h1;have c1:=h1.bad;show aj _ _ _ _ _;refine aj.fq func387 results387 ntmps387 fun w0 T B E0 hB=>?_
  refine zg ?_
  try(refine WP.aG ?_;refine zg ?_)
  exact aU ak.bQ (zv _) ⟨rfl,trivial⟩
 |ok n a'=>
  rw[hr]at h1;have c1:=h1.ok;show aj _ _ _ _ _;refine aj.fq func387 results387 ntmps387 fun w0 T B E0 hB=>?_
  refine zg ?_
  try(refine WP.aG ?_;refine zg ?_)
  exact aU ak.bQ (zv _) ⟨rfl,trivial⟩
theorem auw{l:List Tok}(hs:GE 455 l):GE 387 l:=by
 intro a o e p;have c1:aj prog 454 [.ptr 29 0,bnA 455,.v (str [43]),.v (.int .i64 4),.v (str [45]),.v (.int .i64 5)] [(29,PE l a o e p)] ⟨rNd nd0,[(29,.ent (PE l a o e p))]⟩:=aeP hs a o e p;refine aj.fq func387 results387 ntmps387 fun _ _ _ _ _=>?_
 refine zg ?_
 try(refine WP.aG ?_;refine zg ?_)
 exact aU ak.bQ (zv _) ⟨rfl,trivial⟩
def sgnB:Nat->List UInt8
 |0=>[61,61]
 |1=>[33,61]
 |2=>[60]
 |_=>[60,61]
def exI(i:Nat):List (Nat×AV):=[(0,.ptr 29 0),(2,.ptr 2 0),(3,.ptr 3 0),(8,.agg [.c (.val (str [61,61])),.c (.val (str [33,61])),.c (.val (str [60])),.c (.val (str [60,61]))]),(9,.v (.int .i64 (i:Int)))]
theorem ave{l:List Tok}(hs:GE 387 l):GE 287 l:=by
 intro a o e p;have c1:=hs a o e p;have k0:=eB l a o e p [61,61];have k1:=eB l a o e p [33,61];have k2:=eB l a o e p [60];have k3:=eB l a o e p [60,61];refine aj.fq func287 results287 ntmps287 fun _ _ _ _ _=>?_
 refine zg ?_
 try(refine WP.aG ?_;refine zg ?_)
 refine W.loop (fun i=>i<=4) exI (fun _=>[(29,PE l a o e p),(2,NZ),(3,NB nd0)]) (fun i=>4 - i) 0 zE (fun i hi=>?_)
 match i,hi with
 |0,_=>
  refine zg ?_
  try(refine WP.aG ?_;refine zg ?_)
  exact W.next 1 zE zE
 |1,_=>
  refine zg ?_
  try(refine WP.aG ?_;refine zg ?_)
  exact W.next 2 zE zE
 |2,_=>
  refine zg ?_
  try(refine WP.aG ?_;refine zg ?_)
  exact W.next 3 zE zE
 |3,_=>
  refine zg ?_
  try(refine WP.aG ?_;refine zg ?_)
  exact W.next 4 zE zE
 |4,_=>
  refine zg ?_
  try(refine WP.aG ?_;refine zg ?_)
  exact aU ak.bQ (zv _) ⟨rfl,trivial⟩
 |i+5,h=>omega
def exT(l:List Tok)(U:Gr)(n:Nd)(a o:Nat):Nat->Res
 |0=> .ok n a
 |k+1=>if isS l a (sgnB (3 - k))then jm (fun m=> .mk ((12 - k:Nat):Int) [] [n,m]) (oO l U (a+1) o)else exT l U n a o k
theorem aiF{l:List Tok}{U:Gr}{n:Nd}{a o k:Nat}{R:Res}{s:List UInt8}(h:exT l U n a o (k+1)=R)(hs:sgnB (3 - k)=s)(ht:isS l a s=true):jm (fun m=> .mk ((12 - k:Nat):Int) [] [n,m]) (oO l U (a+1) o)=R:=by
 subst hs;unfold exT at h;rwa [if_pos ht]at h
theorem ak1{l:List Tok}{U:Gr}{n:Nd}{a o k:Nat}{R:Res}{s:List UInt8}(h:exT l U n a o (k+1)=R)(hs:sgnB (3 - k)=s)(ht:isS l a s=false):exT l U n a o k=R:=by
 subst hs;unfold exT at h;rwa [if_neg (by rw[ht];decide)]at h
theorem g_exp{l:List Tok}{m:Nat}{U:Gr}(hl:l.length<=1000000)(hs:GOK 387 l m (oO l U))(hA:Adv 1 l m U):GOK 287 l m (abR l U):=by
 intro a o hm ha ho;have h1:=hs a o hm ha ho;have h2:=adK hA a o hm ha;unfold abR;cases hr:oO l U a o with
 |bad e p n a' o'=>
  rw[hr]at h1;have c1:=h1.bad;show aj _ _ _ _ _;have k0:=eB l a' o' e p [61,61];have k1:=eB l a' o' e p [33,61];have k2:=eB l a' o' e p [60];have k3:=eB l a' o' e p [60,61];refine aj.fq func287 results287 ntmps287 fun w0 T B E0 hB=>?_
  refine zg ?_
  try(refine WP.aG ?_;refine zg ?_)
  refine W.loop (fun i=>i<=4) exI (fun _=>[(29,PE l a' o' e p),(2,NZ),(3,NB n)]) (fun i=>4 - i) 0 zE (fun i hi=>?_)
  match i,hi with
  |0,_=>
   refine zg ?_
   try(refine WP.aG ?_;refine zg ?_)
   exact W.next 1 zE zE
  |1,_=>
   refine zg ?_
   try(refine WP.aG ?_;refine zg ?_)
   exact W.next 2 zE zE
  |2,_=>
   refine zg ?_
   try(refine WP.aG ?_;refine zg ?_)
   exact W.next 3 zE zE
  |3,_=>
   refine zg ?_
   try(refine WP.aG ?_;refine zg ?_)
   exact W.next 4 zE zE
  |4,_=>
   refine zg ?_
   try(refine WP.aG ?_;refine zg ?_)
   exact aU ak.bQ (zv _) ⟨rfl,trivial⟩
  |i+5,h=>omega
 |ok n a'=>
  rw[hr]at h1 h2;have c1:=h1.ok;obtain⟨g1,g2,g3⟩:=h2;have key:∀R,exT l U n a' o 4=R->CR rNd 287 [.ptr 29 0] [] l a o R:=by
   intro R hR;refine CR.of ?_;refine aj.fq func287 results287 ntmps287 fun w0 T B E0 hB=>?_
   refine zg ?_
   try(refine WP.aG ?_;refine zg ?_)
   refine W.loop (fun i=>i<=4/\exT l U n a' o (4 - i)=R) exI (fun _=>[(29,PG l a' o),(2,NZ),(3,NB n)]) (fun i=>4 - i) 0 ⟨zE,hR⟩ (fun i hi=>?_)
   match i,hi with
   |0,⟨_,hq⟩=>
    have hq:exT l U n a' o (3+1)=R:=hq;cases ht:isS l a' [61,61]with
    |true=>
     have hq:=aiF hq rfl ht;have k0:=fB o hl ht;have g5:=dh ht;have h3:=hs (a'+1) o zE zE ho
     cases hr2:oO l U (a'+1) o with
     |bad e p k a2 o2=>
      rw[hr2]at h3 hq;have c3:=h3.bad;refine zg ?_
      try(refine WP.aG ?_;refine zg ?_)
      subst hq;exact aU ak.bQ (bX rfl rfl rfl (by first|(simp only[zq7,zqd,aI,zqb];done)|(simp only[zq7,zqd,aI,zqb];rfl))) ⟨rfl,trivial⟩
     |ok k a2=>
      rw[hr2]at h3 hq;have c3:=h3.ok;refine zg ?_
      try(refine WP.aG ?_;refine zg ?_)
      subst hq;exact aU ak.bQ (bX rfl rfl rfl (by first|(simp only[zq7,zqd,aI,zqb];done)|(simp only[zq7,zqd,aI,zqb];rfl))) ⟨rfl,trivial⟩
    |false=>
     have hq:=ak1 hq rfl ht;have k0:=eH o ht;refine zg ?_
     try(refine WP.aG ?_;refine zg ?_)
     exact W.next 1 ⟨zE,hq⟩ zE
   |1,⟨_,hq⟩=>
    have hq:exT l U n a' o (2+1)=R:=hq;cases ht:isS l a' [33,61]with
    |true=>
     have hq:=aiF hq rfl ht;have k0:=fB o hl ht;have g5:=dh ht;have h3:=hs (a'+1) o zE zE ho
     cases hr2:oO l U (a'+1) o with
     |bad e p k a2 o2=>
      rw[hr2]at h3 hq;have c3:=h3.bad;refine zg ?_
      try(refine WP.aG ?_;refine zg ?_)
      subst hq;exact aU ak.bQ (bX rfl rfl rfl (by first|(simp only[zq7,zqd,aI,zqb];done)|(simp only[zq7,zqd,aI,zqb];rfl))) ⟨rfl,trivial⟩
     |ok k a2=>
      rw[hr2]at h3 hq;have c3:=h3.ok;refine zg ?_
      try(refine WP.aG ?_;refine zg ?_)
      subst hq;exact aU ak.bQ (bX rfl rfl rfl (by first|(simp only[zq7,zqd,aI,zqb];done)|(simp only[zq7,zqd,aI,zqb];rfl))) ⟨rfl,trivial⟩
    |false=>
     have hq:=ak1 hq rfl ht;have k0:=eH o ht;refine zg ?_
     try(refine WP.aG ?_;refine zg ?_)
     exact W.next 2 ⟨zE,hq⟩ zE
   |2,⟨_,hq⟩=>
    have hq:exT l U n a' o (1+1)=R:=hq;cases ht:isS l a' [60]with
    |true=>
     have hq:=aiF hq rfl ht;have k0:=fB o hl ht;have g5:=dh ht;have h3:=hs (a'+1) o zE zE ho
     cases hr2:oO l U (a'+1) o with
     |bad e p k a2 o2=>
      rw[hr2]at h3 hq;have c3:=h3.bad;refine zg ?_
      try(refine WP.aG ?_;refine zg ?_)
      subst hq;exact aU ak.bQ (bX rfl rfl rfl (by first|(simp only[zq7,zqd,aI,zqb];done)|(simp only[zq7,zqd,aI,zqb];rfl))) ⟨rfl,trivial⟩
     |ok k a2=>
      rw[hr2]at h3 hq;have c3:=h3.ok;refine zg ?_
      try(refine WP.aG ?_;refine zg ?_)
      subst hq;exact aU ak.bQ (bX rfl rfl rfl (by first|(simp only[zq7,zqd,aI,zqb];done)|(simp only[zq7,zqd,aI,zqb];rfl))) ⟨rfl,trivial⟩
    |false=>
     have hq:=ak1 hq rfl ht;have k0:=eH o ht;refine zg ?_
     try(refine WP.aG ?_;refine zg ?_)
     exact W.next 3 ⟨zE,hq⟩ zE
   |3,⟨_,hq⟩=>
    have hq:exT l U n a' o (0+1)=R:=hq;cases ht:isS l a' [60,61]with
    |true=>
     have hq:=aiF hq rfl ht;have k0:=fB o hl ht;have g5:=dh ht;have h3:=hs (a'+1) o zE zE ho
     cases hr2:oO l U (a'+1) o with
     |bad e p k a2 o2=>
      rw[hr2]at h3 hq;have c3:=h3.bad;refine zg ?_
      try(refine WP.aG ?_;refine zg ?_)
      subst hq;exact aU ak.bQ (bX rfl rfl rfl (by first|(simp only[zq7,zqd,aI,zqb];done)|(simp only[zq7,zqd,aI,zqb];rfl))) ⟨rfl,trivial⟩
     |ok k a2=>
      rw[hr2]at h3 hq;have c3:=h3.ok;refine zg ?_
      try(refine WP.aG ?_;refine zg ?_)
      subst hq;exact aU ak.bQ (bX rfl rfl rfl (by first|(simp only[zq7,zqd,aI,zqb];done)|(simp only[zq7,zqd,aI,zqb];rfl))) ⟨rfl,trivial⟩
    |false=>
     have hq:=ak1 hq rfl ht;have k0:=eH o ht;refine zg ?_
     try(refine WP.aG ?_;refine zg ?_)
     exact W.next 4 ⟨zE,hq⟩ zE
   |4,⟨_,hq⟩=>
    refine zg ?_
    try(refine WP.aG ?_;refine zg ?_)
    subst hq;exact aU ak.bQ (zv _) ⟨rfl,trivial⟩
   |i+5,⟨h,_⟩=>omega
  exact key _ rfl
theorem asT{P:Program}{C:Ctx}{st:St}{t:Tmp}{l:List (Nat×Slot)}{n:Nat}{cells:List CA}{ks:List Nd}(hh:abS st l)(h:st.tm t=some (.r (aQ 3 n cells)):=by rfl)(hn:n=ks.length:=by first|rfl|(simp[Res.nd,Nd.kids];done))(hc:cells=ks.flatMap ndC:=by first|rfl|exact cK (aI _).symm):aM C P [.tmp t] ⟨.r (aB 3 ndC ks),l⟩ st:=by
 subst hn hc;exact gG (xs:=[.one (.c (.sat (aB 3 ndC ks)))]) ⟨ak.tmp h,trivial⟩ hh
theorem retK0{P:Program}{C:Ctx}{st:St}{t:Tmp}{l:List (Nat×Slot)}(hh:abS st l)(h:st.tm t=some (.v (.slice none 0 0)):=by rfl):aM C P [.tmp t] ⟨.r (aB 3 ndC []),l⟩ st:=
 gG (xs:=[.one (.c (.sat (aB 3 ndC [])))]) ⟨(ak.tmp h).imp imp_nil,trivial⟩ hh
structure LiS where
 ks:List Nd
 a:Nat
 o:Nat
 b:Option (Nat×Nat)
 f:Nat
def liS(l:List Tok)(X:Gr)(e:List UInt8)(q:LiS):Res:=match q.b with
 |none=>sJ l X e q.f q.ks q.a q.o
 |some (e,p)=> .bad e p (.mk 0 [] q.ks) q.a q.o
abbrev NR(ks:List Nd):Ent:= .row 233 3 ks.length (ks.flatMap ndC)
theorem ap7{l:List Tok}{m:Nat}{X:Gr}{e:List UInt8}(hl:l.length<=1000000)(hs:GOK 287 l m X)(hA:Adv 1 l m X){a o:Nat}(hm:m<=a)(ha:a<=l.length)(ho:o<=600):
  CR rKs 567 [.ptr 29 0,.v (str e)] [] l a o (kg l X e a o):=by
 unfold kg;cases h0:isS l a e with
 |true=>
  rw[if_pos rfl];have c0:=fB o hl h0;show aj _ _ _ _ _;refine aj.fq func567 results567 ntmps567 fun w0 T B E0 hB=>?_
  refine zg ?_;exact retK0 ⟨rfl,trivial⟩
 |false=>
  rw[if_neg zc]
  have c0:=eH o h0;generalize hR:sJ l X e (l.length+1) [] a o=R;refine CR.of ?_;refine aj.fq func567 results567 ntmps567 fun w0 T B E0 hB=>?_
  refine zg ?_;refine W.loop (fun q:LiS=>liS l X e q=R/\(q.b=none->q.o=o/\m<=q.a/\q.a<=l.length/\l.length < q.a+q.f/\q.ks.length<=q.a)) (fun _=>[(0,.ptr 29 0),(1,.v (str e)),(5,.own 100)]) (fun q=>[(29,PS l q.a q.o q.b),(100,NR q.ks)]) (fun q=>match q.b with|none=>l.length+1 - q.a|some _=>0) ⟨[],a,o,none,l.length+1⟩ ⟨hR,fun _=>by dsimp only;exact⟨rfl,zE,zE,zE,zq8 _⟩⟩ (fun q hq=>?_)
  obtain⟨qk,qa,qo,qb,qf⟩:=q;obtain⟨hq1,hq2⟩:=hq
  dsimp only at hq1 hq2
  cases qb with
  |some b=>
   obtain⟨ee,p⟩:=b;show WP _ _ _ (fP [(0,.ptr 29 0),(1,.v (str e)),(5,.own 100)] [(29,PE l qa qo ee p),(100,NR qk)]) _;refine zg ?_;subst hq1;refine aM.qR 100 (ps:=[29]) ?_;exact asT ⟨rfl,trivial⟩
  |none=>
   obtain⟨rfl,b1,b2,b3,b4⟩:=hq2 rfl;obtain⟨qf,rfl⟩:∃k,qf=k+1:=⟨qf - 1,zE⟩
   show WP _ _ _ (fP [(0,.ptr 29 0),(1,.v (str e)),(5,.own 100)] [(29,PG l qa qo),(100,NR qk)]) _;have hq1:sJ l X e (qf+1) qk qa qo=R:=hq1;unfold sJ at hq1;have h3:=hs qa qo zE zE ho
   have h4:=hA qa qo zE zE
   cases hr2:X qa qo with
   |bad c p k a2 o2=>
    rw[hr2]at h3 hq1;have c3:=h3.bad;have c4:=eB l a2 o2 c p e;have c5:=jH l a2 o2 c p [44];refine zg ?_;exact W.next ⟨qk++[k],a2,o2,some (c,p),0⟩ ⟨hq1,fun h=>by cases h⟩ (by dsimp only;omega)
     (by
      apply St.lt1
      ·intro b h;exact SX.dX h
      ·exact yb
      ·exact⟨ay.eq rfl rfl rfl,ay.row rfl rfl zp (cK (aI _).symm),trivial⟩
      ·rfl)
   |ok k a2=>
    rw[hr2]at h3 hq1 h4;have c3:=h3.ok;obtain⟨j1,j2,j3⟩:=h4;have j4:=mK k
    dsimp only at hq1
    cases ht:isS l a2 e with
    |true=>
     have c4:=fB qo hl ht;rw[if_pos ht]at hq1;refine zg ?_;subst hq1;refine aM.qR 18 (ps:=[29]) ?_;exact asT ⟨rfl,trivial⟩
    |false=>
     have c4:=eH qo ht;rw[if_neg (by rw[ht];decide)]at hq1
     cases ht2:isS l a2 [44]with
     |true=>
      have c5:=kC qo hl ht2;have g5:=dh ht2;rw[if_pos ht2]at hq1;refine zg ?_;exact W.next ⟨qk++[k],a2+1,qo,none,qf⟩ ⟨hq1,fun h=>by dsimp only;exact⟨rfl,zE,zE,zE,by simp;omega⟩⟩ (by dsimp only;omega)
       (by
        apply St.lt1
        ·intro b h;exact SX.dX h
        ·exact yb
        ·exact⟨ay.eq rfl rfl rfl,ay.row rfl rfl zp (cK (aI _).symm),trivial⟩
        ·rfl)
     |false=>
      have c5:=lJ qo ht2;rw[if_neg (by rw[ht2];decide)]at hq1
      refine zg ?_;exact W.next ⟨qk++[k],a2,qo,some (4,a2),0⟩ ⟨hq1,fun h=>by cases h⟩ (by dsimp only;omega)
       (by
        apply St.lt1
        ·intro b h;exact SX.dX h
        ·exact yb
        ·exact⟨ay.eq rfl rfl rfl,ay.row rfl rfl zp (cK (aI _).symm),trivial⟩
        ·rfl)
end
