import Derived.Test.YtcamgbgfelmbaaaGreatDoorO17
import Derived.Test.YtcamgbgfelmbaaaGreatDoorO22
import Derived.Lib.Join
import Derived.Test.YtcamgbgfelmbaaaGreatDoorO2
set_option linter.all false
open Go.Proofs.Tryz
namespace Go.Proofs.YtcamgbgfelmbaaaGreatDoor
open Go.RowKit SX
variable{C:SX.Ctx}{z:Int}{ao:List SX.AV}{ag:List SX.CA}{l s s' s1 s2:List UInt8}{K a a' a2 c' e k' o p y:Nat}{P:Go.Program}{st:SX.St}
section
attribute [local irreducible] IntKind.wrap Go1 Reg WP aK aN bD aZ aJ aA aj ak aT Sat
section
def srt(c:UInt8):Nat:=if c.toNat=32\/c.toNat=9\/c.toNat=10\/c.toNat=13 then 1 else if 48<=c.toNat/\c.toNat<=57 then 2 else if 97<=c.toNat/\c.toNat<=122 then 3 else if c.toNat=95 then 4 else
 if 0<=Lib.indexByte [43,45,42,47,94,40,41,91,93,123,125,44,59,61,60,33,46] c then 5 else 0
abbrev ixL(l:List UInt8)(c:UInt8):Int:=Lib.indexByte l c
def adu(b:UInt8)(l:List UInt8)(c:UInt8):ixL (b::l) c=if b=c then 0 else if ixL l c= -1 then -1 else ixL l c+1:=by
 have e:ixL (b::l) c=if b==c then 0 else if ixL l c== -1 then -1 else ixL l c+1:=rfl
 rw[e];simp only[beq_iff_eq]
def awT(l:List UInt8)(c:UInt8):0<=ixL l c↔c∈l:=by
 induction l with
 |nil=>simp[ixL,Lib.indexByte]
 |cons b l ih=>
  have hg: -1<=ixL l c:=Lib.indexByte_ge l c;rw[adu,zy3,<-ih];generalize ixL l c=z at*;by_cases h:b=c
  ·subst h;simp
  ·have hc:¬c=b:=fun e=>h e.symm
   simp only[hc,false_or,h,if_false]
   split <;> omega
def arA{f:FuncId}{ao:List Value}{r:Value}(he:∃fn,prog.funcs[f]? =some fn/\(fn.name== "runtime.NumGoroutine")=false/\fn.body.isNone=false)(h:∀w,Calls prog f ao.toArray w fun e w'=>e= .returned r/\w'=w):ah prog f (ao.map AV.v) (.v r):=
 ah.iU he rfl fun E S w vs hl hv=>by
  have hvs:vs=ao:=by
   clear h
   induction ao generalizing vs with
   |nil=>cases vs with|nil=>rfl|cons _ _=>exact hv.elim
   |cons a l ih=>cases vs with|nil=>exact hv.elim|cons b m=>rw[ih m hv.2,show b=a from hv.1]
  subst hvs;exact(h w).mono fun e w' ⟨h1,h2⟩=>⟨r,h1,rfl,by subst h2;exact Off.refl _ _⟩
instance aef(l:List UInt8)(c:UInt8):Con prog 96 [.v (str l),.v (.int .u8 (c.toNat:Int))] True (.v (.int .i64 (ixL l c))):=⟨fun _=>
 arA (ao:=[str l,.int .u8 (c.toNat:Int)]) ⟨_,func96,rfl,rfl⟩ fun w=>(strings_IndexByte ⟨⟨l⟩⟩ (c.toNat:Int) w).mono fun e w' ⟨h1,h2⟩=>⟨by rw[h1];simp[ixL],h2⟩⟩
instance auQ(l:List UInt8):Con prog 96 [.v (str l),.v (.int .u8 10)] True (.v (.int .i64 (ixL l 10))):=aef l 10
instance con_sort(c:UInt8):Con prog 95 [.v (.int .u8 (c.toNat:Int))] True (.v (.int .i64 (srt c:Int))):=⟨fun _=>by
 refine ah.fq func95 ?_;intros
 repeat'(first|refine zg ?_|refine SX.W.ite (fun h=>?_) (fun h=>?_)|refine SX.W.iteN (fun h=>?_) (fun h=>?_)|refine SX.W.gD (fun h=>?_) (fun h=>?_)|refine SX.R.ite (fun h=>?_) (fun h=>?_)|refine SX.R.iteN (fun h=>?_) (fun h=>?_)|refine SX.R.gD (fun h=>?_) (fun h=>?_))
 all_goals(refine dZ ?_;unfold srt;(repeat' split) <;> omega)⟩
def wrd(c:UInt8):Bool:=decide (srt c=2)||decide (srt c=3)||decide (srt c=4)
instance a0v(c:UInt8):Con prog 145 [.v (.int .u8 (c.toNat:Int))] True (.v (.bool (wrd c))):=⟨fun _=>by
 refine ah.fq func145 ?_;intros
 repeat'(first|refine zg ?_|refine SX.W.ite (fun h=>?_) (fun h=>?_)|refine SX.W.iteN (fun h=>?_) (fun h=>?_)|refine SX.W.gD (fun h=>?_) (fun h=>?_)|refine SX.R.ite (fun h=>?_) (fun h=>?_)|refine SX.R.iteN (fun h=>?_) (fun h=>?_)|refine SX.R.gD (fun h=>?_) (fun h=>?_))
 all_goals(refine aU ?_;rw[zyc];simp[wrd];omega)⟩
def run(l:List UInt8):Nat:=(l.takeWhile wrd).length
def ar6{p:UInt8->Bool}:∀(l:List UInt8) (k:Nat),k<=(l.takeWhile p).length->k < l.length->p (byt l k)=decide (k < (l.takeWhile p).length)
 |[],k,_,h=>by simp at h
 |c::l,0,_,_=>by
  cases h:p c <;> simp[byt,List.takeWhile_cons,h]
 |c::l,k+1,h1,h2=>by
  cases h:p c
  ·simp[List.takeWhile_cons,h]at h1
  ·simp[List.takeWhile_cons,h]at h1 ⊢
   have:=ar6 l k h1 (by simpa using h2)
   simpa[byt]using this
def au6(l:List UInt8):run l<=l.length:=(List.takeWhile_prefix _).length_le
instance con_run(l:List UInt8):Con prog 97 [.v (str l)] (l.length<=9223372036854775807) (.v (.int .i64 (run l:Int))):=⟨fun hl=>by
 refine ah.fq func97 ?_;intros
 refine zg ?_;refine W.loop (fun k=>k<=run l) (fun k=>[(0,.v (str l)),(3,.v (.int .i64 (k:Int)))]) (fun _=>[]) (fun k=>l.length - k) 0 (zq8 _) (fun k hk=>?_)
 have h1:=au6 l;have h2:=ar6 (p:=wrd) l k hk
 repeat'(first|refine zg ?_|refine SX.W.ite (fun h=>?_) (fun h=>?_)|refine SX.W.iteN (fun h=>?_) (fun h=>?_)|refine SX.W.gD (fun h=>?_) (fun h=>?_)|refine SX.R.ite (fun h=>?_) (fun h=>?_)|refine SX.R.iteN (fun h=>?_) (fun h=>?_)|refine SX.R.gD (fun h=>?_) (fun h=>?_))
 ·exact W.next (k+1) (by rw[‹wrd _=true›]at h2;have:=of_decide_eq_true (h2 zE).symm;unfold run;omega) zE
 ·refine dZ ?_;rw[‹wrd _=false›]at h2;have:=of_decide_eq_false (h2 zE).symm;unfold run at*;omega
 ·refine dZ ?_;omega⟩
instance con_two(l:List UInt8):Con prog 100 [.v (str l)] True (.v (.bool (decide (l=[61,61]\/l=[33,61]\/l=[60,61]\/l=[46,46])))):=⟨fun hl=>by
 refine ah.fq func100 ?_;intros
 repeat'(first|refine zg ?_|refine SX.W.ite (fun h=>?_) (fun h=>?_)|refine SX.W.iteN (fun h=>?_) (fun h=>?_)|refine SX.W.gD (fun h=>?_) (fun h=>?_)|refine SX.R.ite (fun h=>?_) (fun h=>?_)|refine SX.R.iteN (fun h=>?_) (fun h=>?_)|refine SX.R.gD (fun h=>?_) (fun h=>?_))
 all_goals(refine aU ?_;simp[*])⟩
def dgL(l:List UInt8):Bool:=l.all fun c=>decide (srt c=2)
def num(l:List UInt8):Bool:=decide (1<=l.length/\l.length<=2000/\(l.length=1\/(byt l 0).toNat≠48))&&dgL l
def asK(l:List UInt8)(k:Nat)(h:k < l.length):dgL (l.drop k)=(decide (srt (byt l k)=2)&&dgL (l.drop (k+1))):=by
 rw[zy4 h];have:byt l k=l[k]:=by simp[byt,h]
 rw[this];rfl
instance ayh(l:List UInt8):Con prog 98 [.v (str l)] (l.length<=9223372036854775807) (.v (.bool (num l))):=⟨fun hl=>by
 refine ah.fq func98 ?_;intros
 repeat'(first|refine zg ?_|refine SX.W.ite (fun h=>?_) (fun h=>?_)|refine SX.W.iteN (fun h=>?_) (fun h=>?_)|refine SX.W.gD (fun h=>?_) (fun h=>?_)|refine SX.R.ite (fun h=>?_) (fun h=>?_)|refine SX.R.iteN (fun h=>?_) (fun h=>?_)|refine SX.R.gD (fun h=>?_) (fun h=>?_))
 all_goals(first|(refine aU ?_;rw[eq_comm];unfold num;rw[Bool.and_eq_false_iff];refine .inl (decide_eq_false fun hn=>?_);omega)|skip)
 all_goals
  have hb:decide (1<=l.length/\l.length<=2000/\(l.length=1\/(byt l 0).toNat≠48))=true:=decide_eq_true zE
  refine W.loop (fun k=>k<=l.length/\num l=dgL (l.drop k)) (fun k=>[(0,.v (str l)),(23,.v (.int .i64 (l.length:Int))),(24,.v (.int .i64 (k:Int)))]) (fun _=>[]) (fun k=>l.length - k) 0 ⟨zq8 _,by unfold num;rw[hb];rfl⟩ (fun k ⟨hk,hn⟩=>?_)
  have hs:=asK l k
  repeat'(first|refine zg ?_|refine SX.W.ite (fun h=>?_) (fun h=>?_)|refine SX.W.iteN (fun h=>?_) (fun h=>?_)|refine SX.W.gD (fun h=>?_) (fun h=>?_)|refine SX.R.ite (fun h=>?_) (fun h=>?_)|refine SX.R.iteN (fun h=>?_) (fun h=>?_)|refine SX.R.gD (fun h=>?_) (fun h=>?_))
  ·refine aU ?_;rw[hn,hs zE,decide_eq_false zE];rfl
  ·exact W.next (k+1) ⟨zE,by rw[hn,hs zE,decide_eq_true zE];rfl⟩ zE
  ·refine aU ?_;rw[hn,List.drop_eq_nil_of_le zE];rfl⟩
def nam(l:List UInt8):Bool:=decide (1<=l.length/\l.length<=30/\srt (byt l 0)=3/\run l=l.length)
instance con_name(l:List UInt8):Con prog 99 [.v (str l)] (l.length<=9223372036854775807) (.v (.bool (nam l))):=⟨fun hl=>by
 refine ah.fq func99 ?_;intros
 repeat'(first|refine zg ?_|refine SX.W.ite (fun h=>?_) (fun h=>?_)|refine SX.W.iteN (fun h=>?_) (fun h=>?_)|refine SX.W.gD (fun h=>?_) (fun h=>?_)|refine SX.R.ite (fun h=>?_) (fun h=>?_)|refine SX.R.iteN (fun h=>?_) (fun h=>?_)|refine SX.R.gD (fun h=>?_) (fun h=>?_))
 all_goals(refine aU ?_;unfold nam;first|(rw[eq_comm];exact decide_eq_true zE)|(rw[eq_comm];exact decide_eq_false zE)|(rw[decide_eq_decide];omega))⟩
def sg1(l:List UInt8):Bool:=decide (l.length=1/\byt l 0∈[43,45,42,47,94,40,41,91,93,123,125,44,59,61,60])
def aup(h:l.length=1):∃c,l=[c]:=by
 match l,h with
 |[c],_=>exact⟨c,rfl⟩
instance avg(l:List UInt8)(c:UInt8):Con prog 146 [.v (str l),.v (str [c])] True (.v (.bool (decide (0<=ixL l c)))):=⟨fun _=>
 arA (ao:=[str l,str [c]]) ⟨_,func146,rfl,rfl⟩ fun w=>(strings_Contains_one ⟨⟨l⟩⟩ c w).mono fun e w' ⟨h1,h2⟩=>⟨h1,h2⟩⟩
instance con_one(l:List UInt8):Con prog 101 [.v (str l)] True (.v (.bool (sg1 l))):=⟨fun hl=>by
 by_cases h1:l.length=1
 ·obtain⟨c,rfl⟩:=aup h1;refine ah.fq func101 fun w0 T B E0 hB=>?_
  repeat'(first|refine zg ?_|refine SX.W.ite (fun h=>?_) (fun h=>?_)|refine SX.W.iteN (fun h=>?_) (fun h=>?_)|refine SX.W.gD (fun h=>?_) (fun h=>?_)|refine SX.R.ite (fun h=>?_) (fun h=>?_)|refine SX.R.iteN (fun h=>?_) (fun h=>?_)|refine SX.R.gD (fun h=>?_) (fun h=>?_))
  all_goals(refine aU ?_;unfold sg1;rw[decide_eq_decide,awT];simp[byt])
 ·refine ah.fq func101 fun w0 T B E0 hB=>?_
  repeat'(first|refine zg ?_|refine SX.W.ite (fun h=>?_) (fun h=>?_)|refine SX.W.iteN (fun h=>?_) (fun h=>?_)|refine SX.W.gD (fun h=>?_) (fun h=>?_)|refine SX.R.ite (fun h=>?_) (fun h=>?_)|refine SX.R.iteN (fun h=>?_) (fun h=>?_)|refine SX.R.gD (fun h=>?_) (fun h=>?_))
  all_goals(refine aU ?_;rw[eq_comm];exact decide_eq_false zE)⟩
attribute [irreducible] sg1 nam num wrd srt
end
section
structure Tok where
 kind:Int
 text:List UInt8
 pos:Int
def adL(t:Tok):List CA:=[.val (.int .i64 t.kind),.val (str t.text),.val (.int .i64 t.pos)]
abbrev tokA(t:Tok):List Atom:=[.c (.val (.int .i64 t.kind)),.c (.val (str t.text)),.c (.val (.int .i64 t.pos))]
instance:dY adL 3:=⟨fun _=>rfl⟩
def fst(l:List UInt8):Tok:=
 if num (l.take (run l))then⟨1,l.take (run l),0⟩else if nam (l.take (run l))then⟨2,l.take (run l),0⟩else
 if 2<=l.length/\(l.take 2=[61,61]\/l.take 2=[33,61]\/l.take 2=[60,61]\/l.take 2=[46,46])then⟨3,l.take 2,0⟩else if sg1 (l.take 1)then⟨3,l.take 1,0⟩else⟨0,[],0⟩
instance a01(l:List UInt8):Con prog 62 [.v (str l)] (l.length<=1000000000/\1<=l.length) (.agg (tokA (fst l))):=⟨fun⟨hl,h0⟩=>by
 have h1:=au6 l;have h2:(l.take (run l)).length<=1000000000:=by rw[zx3];omega
 refine ah.fq func62 ?_;intros
 repeat'(first|refine zg ?_|refine SX.W.ite (fun h=>?_) (fun h=>?_)|refine SX.W.iteN (fun h=>?_) (fun h=>?_)|refine SX.W.gD (fun h=>?_) (fun h=>?_)|refine SX.R.ite (fun h=>?_) (fun h=>?_)|refine SX.R.iteN (fun h=>?_) (fun h=>?_)|refine SX.R.gD (fun h=>?_) (fun h=>?_))
 all_goals(refine jG aj.aW ?_)
 all_goals(unfold fst;first|rw[if_pos (by assumption)]|(rw[if_neg (by simp[*]),if_pos (by assumption)])|(rw[if_neg (by simp[*]),if_neg (by simp[*]),if_pos ⟨zE,by assumption⟩])|(rw[if_neg (by simp[*]),if_neg (by simp[*]),if_neg zE];first|rw[if_pos (by assumption)]|(rw[if_neg (by simp[*])];rfl))|(rw[if_neg (by simp[*]),if_neg (by simp[*]),if_neg (fun h=>by simp_all)];first|rw[if_pos (by assumption)]|(rw[if_neg (by simp[*])];rfl)))⟩
def gp:Bool->List UInt8->Nat
 |_,[]=>0
 |false,c::l=>if srt c=1 then 1+gp false l else if c.toNat=35 then 1+gp true l else 0
 |true,c::l=>if c.toNat=10 then 1+gp false l else 1+gp true l
def ax5:∀l:List UInt8,gp true l=if ixL l 10 < 0 then l.length else(ixL l 10).toNat+1+gp false (l.drop ((ixL l 10).toNat+1))
 |[]=>by simp[gp,ixL,Lib.indexByte]
 |c::l=>by
  have ih:=ax5 l;have hg: -1<=ixL l 10:=Lib.indexByte_ge l 10;rw[gp,adu];by_cases h:c=10
  ·subst h;simp
  ·have h':¬c.toNat=10:=fun e=>h (UInt8.toNat_inj.1 e)
   rw[if_neg h',if_neg h,ih];by_cases h2:ixL l 10= -1
   ·simp[h2];omega
   ·rw[if_neg h2,if_neg zE,if_neg zE,show (ixL l 10+1).toNat=(ixL l 10).toNat+1 by omega,List.drop_succ_cons];omega
def azd(l:List UInt8)(c:UInt8):ixL l c < l.length:=by
 induction l with
 |nil=>simp[ixL,Lib.indexByte]
 |cons b l ih=>
  rw[adu,zx6]
  repeat' split
  all_goals omega
def aeD:∀(b:Bool) (l:List UInt8),gp b l<=l.length
 |_,[]=>by simp[gp]
 |false,c::l=>by
  have h1:=aeD false l;have h2:=aeD true l;unfold gp;repeat' split
  all_goals(simp only[zx6];omega)
 |true,c::l=>by
  have h1:=aeD false l;have h2:=aeD true l;unfold gp;repeat' split
  all_goals(simp only[zx6];omega)
instance con_gap(l:List UInt8):Con prog 61 [.v (str l)] (l.length<=1000000000) (.v (.int .i64 (gp false l:Int))):=⟨fun hl=>by
 refine ah.fq func61 ?_;intros
 refine zg ?_;refine W.loop (fun k=>k<=l.length/\gp false l=k+gp false (l.drop k)) (fun k=>[(0,.v (str l)),(3,.v (.int .i64 (k:Int)))]) (fun _=>[]) (fun k=>l.length - k) 0 ⟨zq8 _,by simp⟩ (fun k ⟨hk,hn⟩=>?_)
 have hx1:=azd (l.drop k) 10;have hx2: -1<=ixL (l.drop k) 10:=Lib.indexByte_ge _ _;have hx3:(l.drop k).length=l.length - k:=zxe;have hc:k < l.length->gp false (l.drop k)=if srt (byt l k)=1 then 1+gp false (l.drop (k+1))else if(byt l k).toNat=35 then gp true (l.drop k)else 0:=fun h=>by
  have hb:byt l k=l[k]:=by simp[byt,h]
  rw[zy4 h,gp,gp,hb];by_cases h35:l[k].toNat=35
  ·simp[h35]
  ·simp[h35]
 have hi:=ax5 (l.drop k);rw[List.drop_drop]at hi
 repeat'(first|refine zg ?_|refine SX.W.ite (fun h=>?_) (fun h=>?_)|refine SX.W.iteN (fun h=>?_) (fun h=>?_)|refine SX.W.gD (fun h=>?_) (fun h=>?_)|refine SX.R.ite (fun h=>?_) (fun h=>?_)|refine SX.R.iteN (fun h=>?_) (fun h=>?_)|refine SX.R.gD (fun h=>?_) (fun h=>?_))
 ·rw[if_pos zE]at hc
  exact W.next (k+1) ⟨zE,by rw[hn,hc zE];omega⟩ zE
 ·rw[if_neg zE,if_pos zE,hi,if_pos zE]at hc
  refine dZ ?_;rw[hn,hc zE];omega
 ·rw[if_neg zE,if_pos zE,hi,if_neg zE]at hc
  exact W.next (k+((ixL (l.drop k) 10).toNat+1)) ⟨zE,by rw[hn,hc zE];omega⟩ zE
 ·rw[if_neg zE,if_neg zE]at hc
  refine dZ ?_;rw[hn,hc zE];omega
 ·rw[List.drop_eq_nil_of_le zE]at hn
  refine dZ ?_;rw[hn,gp];omega⟩
attribute [irreducible] fst gp
def al1(l:List UInt8):(fst l).text.length<=l.length:=by
 unfold fst
 repeat' split
 all_goals simp[zx3];try omega
def tu(l:List UInt8)(k:Nat):List Tok×Option Nat:=
 if h:l.length<=k then([],none)else
 if h0:(fst (l.drop k)).kind=0\/(fst (l.drop k)).text.length=0 then([],some k)else
 let r:=tu l (k+(fst (l.drop k)).text.length+gp false (l.drop (k+(fst (l.drop k)).text.length)))
 (⟨(fst (l.drop k)).kind,(fst (l.drop k)).text,k⟩::r.1,r.2)
termination_by l.length - k
decreasing_by omega
def afD(l:List UInt8):List Tok×Nat×Nat:=
 if 20000 < l.length then([],0,7)else
 match (tu l (gp false l)).2 with
 |some k=>([],k,4)
 |none=>((tu l (gp false l)).1,0,0)
abbrev tupL(r:List Tok×Nat×Nat):AV:= .tup [.one (.c (.sat (aD 3 adL r.1))),.one (.c (.val (.int .i64 (r.2.1:Int)))),.one (.c (.val (.int .i64 (r.2.2:Int))))]
def avp(l:List UInt8)(h:1<=l.length)(hk:(fst l).kind≠0):(fst l).text.length≠0:=by
 have hn:num []=false:=by unfold num;rfl
 have hm:nam []=false:=by unfold nam;rfl
 intro e;unfold fst at*
 split at hk
 ·rename_i h1;rw[if_pos h1]at e;rw[zx5 (show (l.take (run l)).length=0 from e),hn]at h1;cases h1
 ·rename_i h1;rw[if_neg h1]at e
  split at hk
  ·rename_i h2;rw[if_pos h2]at e;rw[zx5 (show (l.take (run l)).length=0 from e),hm]at h2;cases h2
  ·rename_i h2;rw[if_neg h2]at e
   split at hk
   ·rename_i h3;rw[if_pos h3]at e;have e':(l.take 2).length=0:=e;rw[zx3]at e';omega
   ·rename_i h3;rw[if_neg h3]at e
    split at hk
    ·rename_i h4;rw[if_pos h4]at e;have e':(l.take 1).length=0:=e;rw[zx3]at e';omega
    ·exact absurd rfl hk
instance axe(l:List UInt8):Con prog 37 [.v (str l)] (l.length<=1000000000) (tupL (afD l)):=⟨fun hl=>by
 refine ah.fq func37 ?_;intros
 have hg:=aeD false l
 repeat'(first|refine zg ?_|refine SX.W.ite (fun h=>?_) (fun h=>?_)|refine SX.W.iteN (fun h=>?_) (fun h=>?_)|refine SX.W.gD (fun h=>?_) (fun h=>?_)|refine SX.R.ite (fun h=>?_) (fun h=>?_)|refine SX.R.iteN (fun h=>?_) (fun h=>?_)|refine SX.R.gD (fun h=>?_) (fun h=>?_))
 ·refine yC (aj.tmp rfl) (aj.tmp rfl) (aj.tmp rfl) ?_ ?_ ?_;all_goals(unfold afD;rw[if_pos zE])
  ·exact imp_nil
  all_goals exact z7 _
 ·refine W.nu (fun(k:Nat) (ts:List Tok)=>k<=l.length/\ts.length<=k/\tu l (gp false l)=(ts++(tu l k).1,(tu l k).2))
   (fun k ts=>[(0,.v (str l)),(5,.own 100),(6,.v (.int .i64 (k:Int)))]) (fun k ts=>[(100,.row 121 3 ts.length (ts.flatMap adL))]) (fun k _=>l.length - k) (gp false l) [] ⟨hg,zq8 _,by simp⟩ (fun k ts ⟨hk,hts,hx⟩=>?_)
  have hdl:(l.drop k).length=l.length - k:=zxe;have h2:=avp (l.drop k);have h3:=al1 (l.drop k);have h4:=aeD false (l.drop (k+(fst (l.drop k)).text.length));have hdl2:(l.drop (k+(fst (l.drop k)).text.length)).length=l.length - (k+(fst (l.drop k)).text.length):=zxe;have hw:=tu.eq_1 l k
  repeat'(first|refine zg ?_|refine SX.W.ite (fun h=>?_) (fun h=>?_)|refine SX.W.iteN (fun h=>?_) (fun h=>?_)|refine SX.W.gD (fun h=>?_) (fun h=>?_)|refine SX.R.ite (fun h=>?_) (fun h=>?_)|refine SX.R.iteN (fun h=>?_) (fun h=>?_)|refine SX.R.gD (fun h=>?_) (fun h=>?_))
  ·rw[dif_neg zE,dif_pos (.inl (by assumption))]at hw
   refine yC (aj.tmp rfl) (aj.tmp rfl) (aj.tmp rfl) ?_ ?_ ?_;all_goals(unfold afD;rw[if_neg zE,hx,hw])
   ·exact imp_nil
   all_goals exact z7 _
  ·rw[dif_neg zE,dif_neg zE]at hw
   exact W.mV (k+(fst (l.drop k)).text.length+gp false (l.drop (k+(fst (l.drop k)).text.length))) (ts++[⟨(fst (l.drop k)).kind,(fst (l.drop k)).text,k⟩]) ⟨zE,by simp;omega,by rw[hx,hw];simp⟩ zE
  ·rw[dif_pos zE]at hw
   refine aJ.frz 100 ?_;refine yC (aj.tmp rfl) (aj.tmp rfl) (aj.tmp rfl) ?_ ?_ ?_;all_goals(unfold afD;rw[if_neg zE,hx,hw])
   ·simp only[zqb];exact z7 _
   all_goals exact z7 _⟩
def iZ(t:Tok):Bool:=if t.kind=1 then num t.text else if t.kind=2 then nam t.text else if t.kind=3 then sg1 t.text||decide (t.text=[61,61]\/t.text=[33,61]\/t.text=[60,61]\/t.text=[46,46])else false
instance azz(t:Tok):Con prog 63 [.agg (tokA t)] (t.text.length<=9223372036854775807) (.v (.bool (iZ t))):=⟨fun hl=>by
 refine ah.fq func63 ?_;intros
 repeat'(first|refine zg ?_|refine SX.W.ite (fun h=>?_) (fun h=>?_)|refine SX.W.iteN (fun h=>?_) (fun h=>?_)|refine SX.W.gD (fun h=>?_) (fun h=>?_)|refine SX.R.ite (fun h=>?_) (fun h=>?_)|refine SX.R.iteN (fun h=>?_) (fun h=>?_)|refine SX.R.gD (fun h=>?_) (fun h=>?_))
 all_goals(refine aU ?_;simp[iZ, *])⟩
def joinR(ts:List Tok):List UInt8×Nat:=
 if ts.all iZ then(if 20001 < min 40000 (ts.foldl (fun n t=>min (n+t.text.length+1) 40000) 0)then([],7)else(Lib.join (ts.map (·.text)) [32],0))else([],1)
attribute [irreducible] afD joinR iZ
end
section
def srt2(c:UInt8):srt c=2↔48<=c.toNat/\c.toNat<=57:=by
 unfold srt;(repeat' split) <;> omega
def srt3(c:UInt8):srt c=3↔97<=c.toNat/\c.toNat<=122:=by
 unfold srt;(repeat' split) <;> omega
def awu(l:List UInt8):num l=(decide (1<=l.length/\l.length<=2000/\(l.length=1\/(byt l 0).toNat≠48))&&l.all fun c=>decide (srt c=2)):=by unfold num;rfl
def amJ:∀l:List UInt8,run l=l.length↔l.all wrd=true
 |[]=>by simp[run]
 |c::l=>by
  have ih:=amJ l;unfold run at*;cases h:wrd c
  ·simp[List.takeWhile_cons,h]
  ·simp[List.takeWhile_cons,h,ih]
def awc(l:List UInt8):nam l=(decide (1<=l.length/\l.length<=30/\srt (byt l 0)=3)&&l.all wrd):=by
 have:=amJ l;unfold nam;rw[zyc];simp[this];simp[<-and_assoc]
def sgt(l:List UInt8):Bool:=sg1 l||decide (l=[61,61]\/l=[33,61]\/l=[60,61]\/l=[46,46])
def alB(l:List UInt8):sg1 l=true↔∃c,l=[c]/\c∈[43,45,42,47,94,40,41,91,93,123,125,44,59,61,60]:=by
 unfold sg1;rw[decide_eq_true_iff];constructor
 ·rintro⟨h1,h2⟩;obtain⟨c,rfl⟩:=aup h1;exact⟨c,rfl,by simpa[byt]using h2⟩
 ·rintro⟨c,rfl,h⟩;exact⟨rfl,by simpa[byt]using h⟩
def al6(l:List UInt8):sgt l=true↔(∃c,l=[c]/\c∈[43,45,42,47,94,40,41,91,93,123,125,44,59,61,60])\/(l=[61,61]\/l=[33,61]\/l=[60,61]\/l=[46,46]):=by
 unfold sgt;rw[Bool.or_eq_true,alB,decide_eq_true_iff]
def ahZ(t:Tok):iZ t=if t.kind=1 then num t.text else if t.kind=2 then nam t.text else if t.kind=3 then sgt t.text else false:=by unfold iZ sgt;rfl
attribute [irreducible] sgt
end
end
section
def awK(l:List UInt8):(fst l).text=l.take (fst l).text.length:=by
 have key:∀n:Nat,l.take n=l.take (l.take n).length:=fun n=>by
  rw[zx3,List.take_eq_take_iff];omega
 unfold fst
 repeat' split
 all_goals first|exact key _|simp
def avN(l:List UInt8)(h:(fst l).kind≠0)(p:Int):iZ ⟨(fst l).kind,(fst l).text,p⟩=true:=by
 rw[ahZ];unfold fst at*
 repeat' split at h
 all_goals first|exact absurd rfl h|skip
 ·rename_i h1;rw[if_pos h1];exact h1
 ·rename_i h1 h2;rw[if_neg h1,if_pos h2];exact h2
 ·rename_i h1 h2 h3;rw[if_neg h1,if_neg h2,if_pos h3];show sgt _=true;rw[al6];exact .inr h3.2
 ·rename_i h1 h2 h3 h4;rw[if_neg h1,if_neg h2,if_neg h3,if_pos h4];show sgt _=true;rw[al6];exact .inl ((alB _).1 h4)
def aeK(h:num l=true):l.all wrd=true/\∃c m,l=c::m/\srt c=2:=by
 rw[awu,zx4,decide_eq_true_iff]at h;obtain⟨h1,h2⟩:=h;refine⟨?_,?_⟩
 ·rw[zqh]at*;intro c hc;have:=h2 c hc;unfold wrd;rw[this];rfl
 ·match l,h1 with
  |c::m,_=>exact⟨c,m,rfl,by simpa using(zqh.1 h2) c zp⟩
def afh(h:nam l=true):l.all wrd=true/\∃c m,l=c::m/\srt c=3:=by
 rw[awc,zx4,decide_eq_true_iff]at h;obtain⟨h1,h2⟩:=h;refine⟨h2,?_⟩
 match l,h1 with
 |c::m,h1=>exact⟨c,m,rfl,by simpa[byt]using h1.2.2⟩
def okP(l:List UInt8):Nat->List Tok->Prop
 |_,[]=>True
 |n,t::ts=>∃p:Nat,t.pos=p/\n<=p/\t.text≠[]/\p+t.text.length<=l.length/\(l.drop p).take t.text.length=t.text/\okP l (p+t.text.length) ts
def arU(l:List UInt8){m n:Nat}(h:m<=n):∀ts,okP l n ts->okP l m ts
 |[],_=>trivial
 |t::ts,⟨p,h1,h2,h3⟩=>⟨p,h1,zE,h3⟩
def alW(l:List UInt8)(k:Nat):okP l k (tu l k).1/\((tu l k).1).all iZ=true/\((tu l k).1.map fun t=>t.text.length+1).sum<=2*(l.length - k):=by
 rw[tu.eq_1];have hlen:(l.drop k).length=l.length - k:=zxe;have h3:=al1 (l.drop k)
 split
 ·exact⟨trivial,rfl,by simp⟩
 ·rename_i hk
  split
  ·exact⟨trivial,rfl,by simp⟩
  ·rename_i hf;have ih:=alW l (k+(fst (l.drop k)).text.length+gp false (l.drop (k+(fst (l.drop k)).text.length)));refine⟨⟨k,rfl,zq6 _,fun e=>?_,?_,?_,arU l (by show k+(fst (l.drop k)).text.length<=_;omega) _ ih.1⟩,?_,?_⟩
   ·have e':(fst (l.drop k)).text=[]:=e;rw[e']at hf;simp at hf
   ·show k+(fst (l.drop k)).text.length<=_;omega
   ·exact(awK (l.drop k)).symm
   ·rw[List.all_cons,ih.2.1,avN _ (fun e=>hf (.inl e))];rfl
   ·rw[zy6,List.sum_cons];show (fst (l.drop k)).text.length+1+_<=_;have:=ih.2.2;have h4:(fst (l.drop k)).text.length≠0:=fun e=>hf (.inr e)
    omega
termination_by l.length - k
decreasing_by omega
section
inductive Nd where
 |mk (op:Int) (text:List UInt8) (kids:List Nd)
def Nd.op:Nd->Int| .mk o _ _=>o
def Nd.text:Nd->List UInt8| .mk _ t _=>t
def Nd.kids:Nd->List Nd| .mk _ _ k=>k
mutual
def ndC:Nd->List CA
 | .mk o t ks=>[.val (.int .i64 o),.val (str t),.sat (aP 3 ks.length (ndL ks))]
def ndL:List Nd->List CA
 |[]=>[]
 |k::ks=>ndC k++ndL ks
end
def aqP:∀ks:List Nd,ndL ks=ks.flatMap ndC
 |[]=>by rw[ndL];rfl
 |k::ks=>by rw[ndL,aqP ks,zq7]
def atP(o:Int)(t:List UInt8)(ks:List Nd):ndC (.mk o t ks)=[.val (.int .i64 o),.val (str t),.sat (aD 3 ndC ks)]:=by
 rw[ndC,aqP]
def aI(n:Nd):ndC n=[.val (.int .i64 n.op),.val (str n.text),.sat (aD 3 ndC n.kids)]:=by
 cases n;exact atP _ _ _
instance:ak7 ndC:=⟨fun n=>by rw[aI];rfl⟩
abbrev ndA(n:Nd):List Atom:=[.c (.val (.int .i64 n.op)),.c (.val (str n.text)),.c (.sat (aD 3 ndC n.kids))]
abbrev PB(l:List Tok)(a o:Nat)(bad:Nat)(has:Bool)(tq:Nat):Ent:= .box 126 [.c (.sat (aD 3 adL l)),.c (.val (.int .i64 (a:Int))),.c (.val (.int .i64 (o:Int))),.c (.val (.int .i64 (bad:Int))),.c (.val (.bool has)),.c (.val (.int .i64 (tq:Int)))]
def ownB(s:List UInt8):Bool:=decide (s=[105,102])||decide (s=[101,108,115,101])||decide (s=[102,111,114])
def isS(l:List Tok)(a:Nat)(s:List UInt8):Bool:=match l[a]? with
 |some t=>!decide (t.kind=1)&&decide (t.text=s)
 |none=>false
def oP(l:List Tok)(a:Nat):Bool:=match l[a]? with
 |some t=>decide (t.kind=2)&&!ownB t.text
 |none=>false
attribute [local irreducible] IntKind.wrap Go1 Reg WP aK aN bD aZ aJ aA aj ak aT Sat
def aqg(s:List UInt8):ah prog 152 [.v (str s)] (.v (.bool (ownB s))):=by
 refine ah.fq func152 ?_;intros
 repeat'(first|refine zg ?_|refine SX.W.ite (fun h=>?_) (fun h=>?_)|refine SX.W.iteN (fun h=>?_) (fun h=>?_)|refine SX.W.gD (fun h=>?_) (fun h=>?_)|refine SX.R.ite (fun h=>?_) (fun h=>?_)|refine SX.R.iteN (fun h=>?_) (fun h=>?_)|refine SX.R.gD (fun h=>?_) (fun h=>?_))
 all_goals(refine aU ?_;simp[ownB, *])
abbrev PG(l:List Tok)(a o:Nat):Ent:=PB l a o 0 false 0
abbrev PE(l:List Tok)(a o e p:Nat):Ent:=PB l a o e true p
abbrev nd0:Nd:= .mk 0 [] []
def rP{o:Int}(h:z=o)(hs:s=s'):AV0.imp (.agg [.c (.val (.int .i64 z)),.c (.val (str s)),.c (.val (.slice none 0 0))]) (.agg (ndA (.mk o s' []))):=fun E S w v hv=>by
 obtain⟨vs,rfl,hall⟩:=hv;subst h hs
 match vs,hall with
 |[a,b,c],⟨h1,h2,h3,_⟩=>exact⟨[a,b,c],rfl,h1,h2,imp_nil (size:=3) E S w c h3,trivial⟩
def bJ{o:Int}{n:Nat}{ks:List Nd}(h:z=o)(hs:s=s')(hn:n=ks.length)(hc:ag=ks.flatMap ndC):AV0.imp (.agg [.c (.val (.int .i64 z)),.c (.val (str s)),.c (.sat (aP 3 n ag))]) (.agg (ndA (.mk o s' ks))):=by
 subst h hs hn hc;exact z7 _
def aR{r:ResultVar}{x y:AV0}{l:List (Nat×Slot)}(h:aj P st r x)(e:x.imp y)(hh:adZ st l):aJ C P [r] ⟨.it y,l⟩ st:=gQ (xs:=[y]) ⟨h.imp e,trivial⟩ hh
def alF(l:List Tok)(a o e p:Nat):ak prog 190 [.ptr 29 0,.v (.int .i64 (e:Int)),.v (.int .i64 (p:Int))] [(29,PG l a o)] ⟨.agg (ndA nd0),[(29,.ent (PE l a o e p))]⟩:=by
 refine ak.fq func190 ?_;intros
 refine zg ?_;exact aR aj.aW (rP rfl rfl) ⟨rfl,trivial⟩
def amO(l:List Tok)(a o e p e' p':Nat):ak prog 190 [.ptr 29 0,.v (.int .i64 (e':Int)),.v (.int .i64 (p':Int))] [(29,PE l a o e p)] ⟨.agg (ndA nd0),[(29,.ent (PE l a o e p))]⟩:=by
 refine ak.fq func190 ?_;intros
 refine zg ?_;exact aR aj.aW (rP rfl rfl) ⟨rfl,trivial⟩
def xR(l:List Tok)(a o:Nat):ak prog 151 [.ptr 29 0] [(29,PG l a o)] ⟨.agg (ndA nd0),[(29,.ent (PE l a o 4 a))]⟩:=by
 have c:=alF l a o 4 a;refine ak.fq func151 ?_;intros
 refine zg ?_;exact aR aj.aW (z7 _) ⟨rfl,trivial⟩
def ahH(l:List Tok)(a o e p:Nat):ak prog 151 [.ptr 29 0] [(29,PE l a o e p)] ⟨.agg (ndA nd0),[(29,.ent (PE l a o e p))]⟩:=by
 have c:=amO l a o e p 4 a;refine ak.fq func151 ?_;intros
 refine zg ?_;exact aR aj.aW (z7 _) ⟨rfl,trivial⟩
def pR{t:Tmp}{b b':Bool}{l:List (Nat×Slot)}(e:b=b')(hh:adZ st l)(h:st.tm t=some (.v (.bool b)):=by rfl):aJ C P [.tmp t] ⟨.v (.bool b'),l⟩ st:=gQ (xs:=[.one (.c (.val (.bool b')))]) ⟨by rw[<-e];exact aj.tmp h,trivial⟩ hh
def axT{t:Tmp}{b b':List UInt8}{l:List (Nat×Slot)}(e:b=b')(hh:adZ st l)(h:st.tm t=some (.v (str b)):=by rfl):aJ C P [.tmp t] ⟨.v (str b'),l⟩ st:=gQ (xs:=[.one (.c (.val (str b')))]) ⟨by rw[<-e];exact aj.tmp h,trivial⟩ hh
def ar5{l:List (Nat×Slot)}(hh:adZ st l):aJ C P [] ⟨.tup [],l⟩ st:=gQ (xs:=[]) trivial hh
def ayb(l:List Tok)(a o:Nat)(s:List UInt8):ak prog 147 [.ptr 29 0,.v (str s)] [(29,PG l a o)] ⟨.v (.bool (isS l a s)),[(29,.ent (PG l a o))]⟩:=by
 by_cases h:a < l.length
 ·obtain⟨⟨tk,tt,tp⟩,ht⟩:∃t,l[a]? =some t:=⟨_,zyh h⟩
  have hv:isS l a s=(!decide (tk=1)&&decide (tt=s)):=by unfold isS;rw[ht]
  rw[hv];by_cases hk:tk=1
  ·subst hk;have e1:decide ((1:Int)≠1)=false:=zc
   refine ak.fq func147 fun w0 T B E0 hB=>?_
   refine zg ?_;exact pR rfl ⟨rfl,trivial⟩
  ·refine ak.fq func147 fun w0 T B E0 hB=>?_
   refine zg ?_
   (refine pR ?_ ⟨rfl,trivial⟩;simp[hk])
 ·have hv:isS l a s=false:=by unfold isS;rw[zqe zE]
  rw[hv];refine ak.fq func147 fun w0 T B E0 hB=>?_
  refine zg ?_;exact pR rfl ⟨rfl,trivial⟩
def c_isE(l:List Tok)(a o e p:Nat)(s:List UInt8):ak prog 147 [.ptr 29 0,.v (str s)] [(29,PE l a o e p)] ⟨.v (.bool false),[(29,.ent (PE l a o e p))]⟩:=by
 refine ak.fq func147 ?_;intros
 refine zg ?_;exact pR rfl ⟨rfl,trivial⟩
def bN{l:List Tok}(h:isS l a s=true):a < l.length:=by
 refine Nat.lt_of_not_le fun hn=>?_
 unfold isS at h;rw[zqe hn]at h;cases h
def eU{l:List Tok}(o:Nat)(hl:l.length<=1000000)(h:isS l a s=true):ak prog 102 [.ptr 29 0,.v (str s)] [(29,PG l a o)] ⟨.v (.bool true),[(29,.ent (PG l (a+1) o))]⟩:=by
 have hlt:=bN h;have c:=ayb l a o s;rw[h]at c;refine ak.fq func102 ?_;intros
 refine zg ?_;exact pR rfl ⟨rfl,trivial⟩
def dS{l:List Tok}(o:Nat)(h:isS l a s=false):ak prog 102 [.ptr 29 0,.v (str s)] [(29,PG l a o)] ⟨.v (.bool false),[(29,.ent (PG l a o))]⟩:=by
 have c:=ayb l a o s;rw[h]at c;refine ak.fq func102 ?_;intros
 refine zg ?_;exact pR rfl ⟨rfl,trivial⟩
def dK(l:List Tok)(a o e p:Nat)(s:List UInt8):ak prog 102 [.ptr 29 0,.v (str s)] [(29,PE l a o e p)] ⟨.v (.bool false),[(29,.ent (PE l a o e p))]⟩:=by
 have c:=c_isE l a o e p s;refine ak.fq func102 ?_;intros
 refine zg ?_;exact pR rfl ⟨rfl,trivial⟩
def kR{l:List Tok}(o:Nat)(hl:l.length<=1000000)(h:isS l a s=true):ak prog 106 [.ptr 29 0,.v (str s)] [(29,PG l a o)] ⟨.tup [],[(29,.ent (PG l (a+1) o))]⟩:=by
 have c:=eU o hl h;refine ak.fq func106 ?_;intros
 refine zg ?_;exact ar5 ⟨rfl,trivial⟩
def mF{l:List Tok}(o:Nat)(h:isS l a s=false):ak prog 106 [.ptr 29 0,.v (str s)] [(29,PG l a o)] ⟨.tup [],[(29,.ent (PE l a o 4 a))]⟩:=by
 have c:=dS o h;have c2:=xR l a o;refine ak.fq func106 ?_;intros
 refine zg ?_;exact ar5 ⟨rfl,trivial⟩
def jN(l:List Tok)(a o e p:Nat)(s:List UInt8):ak prog 106 [.ptr 29 0,.v (str s)] [(29,PE l a o e p)] ⟨.tup [],[(29,.ent (PE l a o e p))]⟩:=by
 have c:=dK l a o e p s;have c2:=ahH l a o e p;refine ak.fq func106 ?_;intros
 refine zg ?_;exact ar5 ⟨rfl,trivial⟩
def y7(l:List Tok)(a:Nat)(h:o+1<=600):ak prog 189 [.ptr 29 0] [(29,PG l a o)] ⟨.v (.bool true),[(29,.ent (PG l a (o+1)))]⟩:=by
 refine ak.fq func189 ?_;intros
 refine zg ?_;exact pR rfl ⟨rfl,trivial⟩
def yZ(l:List Tok)(a:Nat)(h:600 < o+1)(ho:o<=1000000):ak prog 189 [.ptr 29 0] [(29,PG l a o)] ⟨.v (.bool false),[(29,.ent (PE l a (o+1) 8 0))]⟩:=by
 have c:=alF l a (o+1) 8 0;refine ak.fq func189 ?_;intros
 refine zg ?_;exact pR rfl ⟨rfl,trivial⟩
def aqe(l:List Tok)(a:Nat)(e p:Nat)(ho:o<=1000000):ak prog 189 [.ptr 29 0] [(29,PE l a o e p)] ⟨.v (.bool false),[(29,.ent (PE l a (o+1) e p))]⟩:=by
 have c:=amO l a (o+1) e p 8 0;by_cases h:600 < o+1
 ·refine ak.fq func189 fun w0 T B E0 hB=>?_
  refine zg ?_;exact pR rfl ⟨rfl,trivial⟩
 ·refine ak.fq func189 fun w0 T B E0 hB=>?_
  refine zg ?_;exact pR rfl ⟨rfl,trivial⟩
def uQ(l:List Tok)(a o:Nat):ak prog 107 [.ptr 29 0] [(29,PG l a o)] ⟨.v (.bool (oP l a)),[(29,.ent (PG l a o))]⟩:=by
 by_cases h:a < l.length
 ·obtain⟨⟨tk,tt,tp⟩,ht⟩:∃t,l[a]? =some t:=⟨_,zyh h⟩
  have hv:oP l a=(decide (tk=2)&&!ownB tt):=by unfold oP;rw[ht]
  rw[hv];have cO:=aqg tt;by_cases hk:tk=2
  ·refine ak.fq func107 fun w0 T B E0 hB=>?_
   refine zg ?_
   (refine pR ?_ ⟨rfl,trivial⟩;simp[hk])
  ·refine ak.fq func107 fun w0 T B E0 hB=>?_
   refine zg ?_
   (refine pR ?_ ⟨rfl,trivial⟩;simp[hk])
 ·have hv:oP l a=false:=by unfold oP;rw[zqe zE]
  rw[hv];refine ak.fq func107 fun w0 T B E0 hB=>?_
  refine zg ?_;exact pR rfl ⟨rfl,trivial⟩
def agF{l:List Tok}(h:oP l a=true):a < l.length:=by
 refine Nat.lt_of_not_le fun hn=>?_
 unfold oP at h;rw[zqe hn]at h;cases h
def txt(l:List Tok)(a:Nat):List UInt8:=match l[a]? with
 |some t=>t.text
 |none=>[]
def anu{l:List Tok}(o:Nat)(hl:l.length<=1000000)(h:oP l a=true):ak prog 105 [.ptr 29 0] [(29,PG l a o)] ⟨.v (str (txt l a)),[(29,.ent (PG l (a+1) o))]⟩:=by
 have hlt:=agF h;have c:=uQ l a o;rw[h]at c;obtain⟨⟨tk,tt,tp⟩,ht⟩:∃t,l[a]? =some t:=⟨_,zyh hlt⟩
 have hv:txt l a=tt:=by unfold txt;rw[ht]
 rw[hv];refine ak.fq func105 ?_;intros
 refine zg ?_;exact axT rfl ⟨rfl,trivial⟩
def axq{l:List Tok}(o:Nat)(h:oP l a=false):ak prog 105 [.ptr 29 0] [(29,PG l a o)] ⟨.v (str []),[(29,.ent (PE l a o 4 a))]⟩:=by
 have c:=uQ l a o;rw[h]at c;have c2:=xR l a o;refine ak.fq func105 ?_;intros
 refine zg ?_;exact axT rfl ⟨rfl,trivial⟩
end
section
inductive Res where
 |ok (n:Nd) (a:Nat)
 |bad (e p:Nat) (n:Nd) (a o:Nat)
abbrev Gr:=Nat->Nat->Res
def jf(f:Nd->Nd):Res->Res
 | .ok n a=> .ok (f n) a
 | .bad e p n a o=> .bad e p (f n) a o
section
variable(K:Nat)(l:List Tok)
def thenS(r:Res)(o:Nat)(s:List UInt8):Res:=match r with
 | .ok n a=>if isS l a s then .ok n (a+1)else .bad 4 a n a o
 | .bad e p n a o'=> .bad e p n a o'
def ins(k:Gr):Gr:=fun a o=>if K < o+1 then .bad 8 0 nd0 a (o+1)else match k a (o+1)with
 | .ok n a'=> .ok n a'
 | .bad e p n a' o'=> .bad e p n a' (o' - 1)
def uf(X:Gr)(e:List UInt8):Nat->List Nd->Gr
 |0,_=>fun a o=> .bad 4 a nd0 a o
 |m+1,ks=>fun a o=>match X a o with
  | .bad c p n a' o'=> .bad c p (.mk 0 [] (ks++[n])) a' o'
  | .ok n a'=>if isS l a' e then .ok (.mk 0 [] (ks++[n])) (a'+1)else if isS l a' [44]then uf X e m (ks++[n]) (a'+1) o else .bad 4 a' (.mk 0 [] (ks++[n])) a' o
def jV(X:Gr)(e:List UInt8):Gr:=fun a o=>if isS l a e then .ok (.mk 0 [] []) (a+1)else uf l X e (l.length+1) [] a o
def tY(X:Gr):Nat->List Nd->List Nd->Gr
 |0,_,_=>fun a o=> .bad 4 a nd0 a o
 |m+1,rs,r=>fun a o=>match X a o with
  | .bad c p n a' o'=> .bad c p (.mk 14 [] (rs++[.mk 15 [] (r++[n])])) a' o'
  | .ok n a'=>if isS l a' [44]then tY X m rs (r++[n]) (a'+1) o else if isS l a' [59]then tY X m (rs++[.mk 15 [] (r++[n])]) [] (a'+1) o
   else if isS l a' [93]then .ok (.mk 14 [] (rs++[.mk 15 [] (r++[n])])) (a'+1)else .bad 4 a' (.mk 14 [] (rs++[.mk 15 [] (r++[n])])) a' o
def qF(X:Gr):Gr:=fun a o=>match l[a]? with
 |none=> .bad 4 a nd0 a o
 |some t=>if t.kind=1 then .ok (.mk 1 t.text []) (a+1)
  else if oP l a then(if isS l (a+1) [40]then ins K (fun a o=>jf (fun n=> .mk 13 t.text n.kids) (jV l X [41] a o)) (a+2) o else .ok (.mk 2 t.text []) (a+1))
  else if isS l a [40]then ins K (fun a o=>thenS l (X a o) o [41]) (a+1) o
  else if isS l a [91]then ins K (fun a o=>tY l X (l.length+1) [] [] a o) (a+1) o
  else if isS l a [123]then ins K (fun a o=>jf (fun n=> .mk 16 [] n.kids) (jV l X [125] a o)) (a+1) o
  else .bad 4 a nd0 a o
def wK(X:Gr)(n:Nd):Gr:=fun a o=>match X a o with
 | .bad e p m a' o'=> .bad e p (.mk 17 [] [n,m]) a' o'
 | .ok m a'=>if isS l a' [44]then thenS l (jf (fun m2=> .mk 17 [] [n,m,m2]) (X (a'+1) o)) o [93]
  else thenS l (.ok (.mk 17 [] [n,m]) a') o [93]
def wI(X:Gr):Nat->Nd->Gr
 |0,_=>fun a o=> .bad 4 a nd0 a o
 |k+1,n=>fun a o=>if isS l a [91]then(match ins K (wK l X n) (a+1) o with
   | .bad e p n' a' o'=> .bad e p n' a' o'
   | .ok n' a'=>wI X k n' a' o)
  else .ok n a
def sW(X:Gr):Gr:=fun a o=>match qF K l X a o with
 | .bad e p n a' o'=> .bad e p n a' o'
 | .ok n a'=>wI K l X (l.length+1) n a' o
def aed(X U:Gr):Gr:=fun a o=>match sW K l X a o with
 | .bad e p n a' o'=> .bad e p n a' o'
 | .ok n a'=>if isS l a' [94]then jf (fun m=> .mk 8 [] [n,m]) (U (a'+1) o)else .ok n a'
def unG(X U:Gr):Gr:=fun a o=>if isS l a [45]then ins K (fun a o=>jf (fun m=> .mk 3 [] [m]) (U a o)) (a+1) o else aed K l X U a o
def iO(S:Gr)(s1:List UInt8)(x:Nat)(s2:List UInt8)(y:Nat):Nat->Nd->Gr
 |0,_=>fun a o=> .bad 4 a nd0 a o
 |m+1,n=>fun a o=>if isS l a s1 then(match S (a+1) o with
   | .bad e p k a' o'=> .bad e p (.mk x [] [n,k]) a' o'
   | .ok k a'=>iO S s1 x s2 y m (.mk x [] [n,k]) a' o)
  else if isS l a s2 then(match S (a+1) o with
   | .bad e p k a' o'=> .bad e p (.mk y [] [n,k]) a' o'
   | .ok k a'=>iO S s1 x s2 y m (.mk y [] [n,k]) a' o)
  else .ok n a
def aaT(S:Gr)(s1:List UInt8)(x:Nat)(s2:List UInt8)(y:Nat):Gr:=fun a o=>match S a o with
 | .bad e p n a' o'=> .bad e p n a' o'
 | .ok n a'=>iO l S s1 x s2 y (l.length+1) n a' o
def zl(U:Gr):Gr:=aaT l U [42] 6 [47] 7
def oK(U:Gr):Gr:=aaT l (zl l U) [43] 4 [45] 5
def wS(U:Gr):Gr:=fun a o=>match oK l U a o with
 | .bad e p n a' o'=> .bad e p n a' o'
 | .ok n a'=>if isS l a' [61,61]then jf (fun m=> .mk 9 [] [n,m]) (oK l U (a'+1) o)else if isS l a' [33,61]then jf (fun m=> .mk 10 [] [n,m]) (oK l U (a'+1) o)
  else if isS l a' [60]then jf (fun m=> .mk 11 [] [n,m]) (oK l U (a'+1) o)else if isS l a' [60,61]then jf (fun m=> .mk 12 [] [n,m]) (oK l U (a'+1) o)else .ok n a'
def lev:Nat->Gr×Gr
 |0=>(fun a o=> .bad 4 a nd0 a o,fun a o=> .bad 4 a nd0 a o)
 |n+1=>(wS l (unG K l (lev n).1 (lev n).2),unG K l (lev n).1 (lev n).2)
end
def CR(res:Nd->AV)(f:FuncId)(ao:List AV)(ex:List (Nat×Ent))(l:List Tok)(a o:Nat):Res->Prop
 | .ok n a'=>ak prog f ao ((29,PG l a o)::ex) ⟨res n,(29,.ent (PG l a' o))::ex.map fun p=>(p.1,.ent p.2)⟩
 | .bad e p n a' o'=>ak prog f ao ((29,PG l a o)::ex) ⟨res n,(29,.ent (PE l a' o' e p))::ex.map fun p=>(p.1,.ent p.2)⟩
mutual
def cnt:Nd->Nat
 | .mk _ _ ks=>1+jy ks
def jy:List Nd->Nat
 |[]=>0
 |k::ks=>cnt k+jy ks
end
def fB:∀ks ms:List Nd,jy (ks++ms)=jy ks+jy ms
 |[],ms=>by simp[jy]
 |k::ks,ms=>by simp[jy,fB ks ms];omega
def nJ:∀n:Nd,1<=cnt n
 | .mk _ _ _=>by rw[cnt];omega
def fT(x:Int)(t:List UInt8)(ks:List Nd):cnt (.mk x t ks)=1+jy ks:=by rw[cnt]
def aY(k:Nd)(ks:List Nd):jy (k::ks)=cnt k+jy ks:=by rw[jy]
def bU:jy []=0:=by rw[jy]
def xY:∀ks:List Nd,ks.length<=jy ks
 |[]=>by simp[jy]
 |k::ks=>by have:=xY ks;have:=nJ k;simp[jy];omega
def nE(s c k:Nat)(l:List Tok)(a o:Nat):Res->Prop
 | .ok n a'=>a+cnt n+c<=a'+s/\a<=a'/\a'<=l.length
 | .bad _ _ _ _ o'=>o<=o'/\o'<=o+k
def aaX(k o:Nat):Res->Prop
 | .ok _ _=>True
 | .bad _ _ _ _ o'=>o<=o'/\o'<=o+k
def Adv(k:Nat)(l:List Tok)(m:Nat)(g:Gr):Prop:=∀a o,m<=a->a<=l.length->nE 0 0 k l a o (g a o)
abbrev rNd(n:Nd):AV:= .agg (ndA n)
abbrev rKs(n:Nd):AV:= .r (aD 3 ndC n.kids)
abbrev PP:Ent:= .box 124 [.ptr 29 0]
abbrev NB(n:Nd):Ent:= .box 128 (ndA n)
abbrev KB(t:Tok):Ent:= .box 121 (tokA t)
abbrev fnA(f:FuncId)(am:List (Nat×Nat)):AV:= .it (.one (.clo f am))
abbrev bnA(f:FuncId):AV:= .it (.one (.bnd f 29))
attribute [local irreducible] IntKind.wrap Go1 Reg WP aK aN bD aZ aJ aA aj ak aT Sat
def aha{f:FuncId}{l:List Tok}{k:Gr}(ho:o<=600)(hk:o+1<=600->CR rNd f [.ptr 81 0] [(81,PP)] l a (o+1) (k a (o+1))/\aaX 2 (o+1) (k a (o+1))):
  CR rNd 149 [.ptr 29 0,fnA f [(81,0)]] [(81,PP)] l a o (ins 600 k a o):=by
 unfold ins;by_cases h:600 < o+1
 ·rw[if_pos h];have c:=yZ l a h zE
  show ak _ _ _ _ _;refine ak.fq func149 fun w0 T B E0 hB=>?_
  refine zg ?_;exact aR aj.aW (rP rfl rfl) ⟨rfl,rfl,trivial⟩
 ·rw[if_neg h];have c:=y7 l a (o:=o) zE
  obtain⟨hk,hb⟩:=hk zE
  cases hr:k a (o+1)with
  |ok n a'=>
   rw[hr]at hk;unfold CR at hk;show ak _ _ _ _ _;refine ak.fq func149 fun w0 T B E0 hB=>?_
   refine zg ?_;exact aR aj.aW (z7 _) ⟨rfl,rfl,trivial⟩
  |bad e p n a' o'=>
   rw[hr]at hk hb;unfold CR at hk;unfold aaX at hb;show ak _ _ _ _ _;refine ak.fq func149 fun w0 T B E0 hB=>?_
   refine zg ?_;exact aR aj.aW (z7 _) ⟨rfl,rfl,trivial⟩
def ayU{f:FuncId}{l:List Tok}{k:Gr}{N:Nd}(ho:o<=600)(hk:o+1<=600->CR rNd f [.ptr 83 0,.ptr 81 0] [(81,PP),(83,NB N)] l a (o+1) (k a (o+1))/\aaX 2 (o+1) (k a (o+1))):
  CR rNd 149 [.ptr 29 0,fnA f [(83,0),(81,0)]] [(81,PP),(83,NB N)] l a o (ins 600 k a o):=by
 unfold ins;by_cases h:600 < o+1
 ·rw[if_pos h];have c:=yZ l a h zE
  show ak _ _ _ _ _;refine ak.fq func149 fun w0 T B E0 hB=>?_
  refine zg ?_;exact aR aj.aW (rP rfl rfl) ⟨rfl,rfl,rfl,trivial⟩
 ·rw[if_neg h];have c:=y7 l a (o:=o) zE
  obtain⟨hk,hb⟩:=hk zE
  cases hr:k a (o+1)with
  |ok n a'=>
   rw[hr]at hk;unfold CR at hk;show ak _ _ _ _ _;refine ak.fq func149 fun w0 T B E0 hB=>?_
   refine zg ?_;exact aR aj.aW (z7 _) ⟨rfl,rfl,rfl,trivial⟩
  |bad e p n a' o'=>
   rw[hr]at hk hb;unfold CR at hk;unfold aaX at hb;show ak _ _ _ _ _;refine ak.fq func149 fun w0 T B E0 hB=>?_
   refine zg ?_;exact aR aj.aW (z7 _) ⟨rfl,rfl,rfl,trivial⟩
def ayJ{f:FuncId}{l:List Tok}{k:Gr}{t:Tok}(ho:o<=600)(hk:o+1<=600->CR rNd f [.ptr 82 0,.ptr 81 0] [(81,PP),(82,KB t)] l a (o+1) (k a (o+1))/\aaX 2 (o+1) (k a (o+1))):
  CR rNd 149 [.ptr 29 0,fnA f [(82,0),(81,0)]] [(81,PP),(82,KB t)] l a o (ins 600 k a o):=by
 unfold ins;by_cases h:600 < o+1
 ·rw[if_pos h];have c:=yZ l a h zE
  show ak _ _ _ _ _;refine ak.fq func149 fun w0 T B E0 hB=>?_
  refine zg ?_;exact aR aj.aW (rP rfl rfl) ⟨rfl,rfl,rfl,trivial⟩
 ·rw[if_neg h];have c:=y7 l a (o:=o) zE
  obtain⟨hk,hb⟩:=hk zE
  cases hr:k a (o+1)with
  |ok n a'=>
   rw[hr]at hk;unfold CR at hk;show ak _ _ _ _ _;refine ak.fq func149 fun w0 T B E0 hB=>?_
   refine zg ?_;exact aR aj.aW (z7 _) ⟨rfl,rfl,rfl,trivial⟩
  |bad e p n a' o'=>
   rw[hr]at hk hb;unfold CR at hk;unfold aaX at hb;show ak _ _ _ _ _;refine ak.fq func149 fun w0 T B E0 hB=>?_
   refine zg ?_;exact aR aj.aW (z7 _) ⟨rfl,rfl,rfl,trivial⟩
def azh{f:FuncId}{l:List Tok}{k:Gr}(ho:o<=600)(hk:o+1<=600->CR rNd f [.ptr 29 0] [] l a (o+1) (k a (o+1))/\aaX 2 (o+1) (k a (o+1))):
  CR rNd 149 [.ptr 29 0,bnA f] [] l a o (ins 600 k a o):=by
 unfold ins;by_cases h:600 < o+1
 ·rw[if_pos h];have c:=yZ l a h zE
  show ak _ _ _ _ _;refine ak.fq func149 fun w0 T B E0 hB=>?_
  refine zg ?_;exact aR aj.aW (rP rfl rfl) ⟨rfl,trivial⟩
 ·rw[if_neg h];have c:=y7 l a (o:=o) zE
  obtain⟨hk,hb⟩:=hk zE
  cases hr:k a (o+1)with
  |ok n a'=>
   rw[hr]at hk;unfold CR at hk;show ak _ _ _ _ _;refine ak.fq func149 fun w0 T B E0 hB=>?_
   refine zg ?_;exact aR aj.aW (z7 _) ⟨rfl,trivial⟩
  |bad e p n a' o'=>
   rw[hr]at hk hb;unfold CR at hk;unfold aaX at hb;show ak _ _ _ _ _;refine ak.fq func149 fun w0 T B E0 hB=>?_
   refine zg ?_;exact aR aj.aW (z7 _) ⟨rfl,trivial⟩
def aqa{f:FuncId}{l:List Tok}{a e p:Nat}(ho:o<=1000000):
  ak prog 149 [.ptr 29 0,fnA f [(81,0)]] [(29,PE l a o e p),(81,PP)] ⟨rNd nd0,[(29,.ent (PE l a (o+1) e p)),(81,.ent PP)]⟩:=by
 have c:=aqe l a e p ho;refine ak.fq func149 ?_;intros
 refine zg ?_;exact aR aj.aW (rP rfl rfl) ⟨rfl,rfl,trivial⟩
def GOK(f:FuncId)(l:List Tok)(m:Nat)(g:Gr):Prop:=∀a o,m<=a->a<=l.length->o<=600->CR rNd f [.ptr 29 0] [] l a o (g a o)
def GE(f:FuncId)(l:List Tok):Prop:=∀a o e p,ak prog f [.ptr 29 0] [(29,PE l a o e p)] ⟨rNd nd0,[(29,.ent (PE l a o e p))]⟩
def CR.ok{res:Nd->AV}{f:FuncId}{ex:List (Nat×Ent)}{l:List Tok}{n:Nd}(h:CR res f ao ex l a o (.ok n a')):ak prog f ao ((29,PG l a o)::ex) ⟨res n,(29,.ent (PG l a' o))::ex.map fun p=>(p.1,.ent p.2)⟩:=h
def CR.bad{res:Nd->AV}{f:FuncId}{ex:List (Nat×Ent)}{l:List Tok}{n:Nd}{o':Nat}(h:CR res f ao ex l a o (.bad e p n a' o')):ak prog f ao ((29,PG l a o)::ex) ⟨res n,(29,.ent (PE l a' o' e p))::ex.map fun p=>(p.1,.ent p.2)⟩:=h
def nE.open{s c k:Nat}{l:List Tok}{r:Res}(h:nE s c k l a o r):aaX k o r:=by
 cases r with
 |ok n a'=>trivial
 |bad e p n a' o'=>exact h
def aaX.mono{k:Nat}{r:Res}(h:aaX k o r)(hk:k<=k'):aaX k' o r:=by
 cases r with
 |ok n a'=>trivial
 |bad e p n a' o'=>exact⟨h.1,by have:=h.2;omega⟩
def nE.mono{s c k s':Nat}{l:List Tok}{r:Res}(h:nE s c k l a2 o r)(hk:k<=k')(ha:a<=a2)(hc:a+c'+s<=a2+c+s'):nE s' c' k' l a o r:=by
 cases r with
 |ok n a'=>exact⟨by have:=h.1;omega,by have:=h.2.1;omega,h.2.2⟩
 |bad e p n a' o'=>exact⟨h.1,by have:=h.2;omega⟩
def j5{f:Nd->Nd}{s s' c k:Nat}{l:List Tok}{r:Res}(h:nE s c k l a o r)(hf:∀n,cnt (f n)+c'+s<=cnt n+c+s'):nE s' c' k l a o (jf f r):=by
 cases r with
 |ok n a'=>exact⟨by have:=h.1;have:=hf n;omega,h.2⟩
 |bad e p n a' o'=>exact h
def qK{s c k:Nat}{l:List Tok}{r:Res}{t:List UInt8}(h:nE s c k l a o r):nE s (c+1) k l a o (thenS l r o t):=by
 cases r with
 |ok n a'=>
  unfold thenS
  dsimp only
  split
  ·rename_i hs;exact⟨by have:=h.1;omega,by have:=h.2.1;omega,bN hs⟩
  ·exact⟨zq6 _,zE⟩
 |bad e p n a' o'=>exact h
def pQ{s c k:Nat}{l:List Tok}{g:Gr}(hk:1<=k)(h:nE s c k l a (o+1) (g a (o+1))):nE s c k l a o (ins K g a o):=by
 unfold ins
 split
 ·exact⟨zE,zE⟩
 ·cases hr:g a (o+1)with
  |ok n a'=>rw[hr]at h;exact h
  |bad e p n a' o'=>rw[hr]at h;exact⟨by have:=h.1;omega,by have:=h.2;omega⟩
end
def zy(n:Nd)(x:Int)(t:List UInt8):cnt (.mk x t n.kids)=cnt n:=by
 cases n;rw[fT,fT];rfl
def nN{s c k:Nat}{l:List Tok}{n:Nd}(hk:1<=k):nE s c k l a o (.bad e p n a' o):=⟨zq6 _,zE⟩
def ahP{l:List Tok}{m:Nat}{X:Gr}{e:List UInt8}(h:Adv 1 l m X):∀(f:Nat) (ks:List Nd) (a o:Nat),m<=a->a<=l.length->nE (jy ks) 0 1 l a o (uf l X e f ks a o)
 |0,ks,a,o,hm,ha=>nN (zq6 _)
 |f+1,ks,a,o,hm,ha=>by
  have h1:=h a o hm ha;unfold uf;cases hr:X a o with
  |bad c p n a' o'=>rw[hr]at h1;exact h1
  |ok n a'=>
   rw[hr]at h1;obtain⟨h1,h3,h2⟩:=h1
   dsimp only
   split
   ·rename_i hs;have:=bN hs;exact⟨by rw[fT,fB,aY,bU];omega,zE,zE⟩
   ·split
    ·rename_i hs;have:=bN hs;refine(ahP h f (ks++[n]) (a'+1) o zE zE).mono (zq6 _) zE ?_
     rw[fB,aY,bU];omega
    ·exact nN (zq6 _)
def vO{l:List Tok}{m:Nat}{X:Gr}{e:List UInt8}(h:Adv 1 l m X)(hm:m<=a)(ha:a<=l.length):nE 0 0 1 l a o (jV l X e a o):=by
 unfold jV
 split
 ·rename_i hs;have:=bN hs;exact⟨by rw[fT,bU];omega,zE,zE⟩
 ·have:=ahP (e:=e) h (l.length+1) [] a o hm ha
  rwa [bU]at this
def abw{l:List Tok}{m:Nat}{X:Gr}(h:Adv 1 l m X):∀(f:Nat) (rs r:List Nd) (a o:Nat),m<=a->a<=l.length->nE (jy rs+jy r+1) 0 1 l a o (tY l X f rs r a o)
 |0,rs,r,a,o,hm,ha=>nN (zq6 _)
 |f+1,rs,r,a,o,hm,ha=>by
  have h1:=h a o hm ha;unfold tY;cases hr:X a o with
  |bad c p n a' o'=>rw[hr]at h1;exact h1
  |ok n a'=>
   rw[hr]at h1;obtain⟨h1,h3,h2⟩:=h1
   dsimp only
   split
   ·rename_i hs;have:=bN hs;refine(abw h f rs (r++[n]) (a'+1) o zE zE).mono (zq6 _) zE ?_
    rw[fB,aY,bU];omega
   ·split
    ·rename_i hs;have:=bN hs;have hh:=abw h f (rs++[.mk 15 [] (r++[n])]) [] (a'+1) o zE zE
     refine hh.mono (zq6 _) zE ?_
     rw[fB,aY,bU,fT,fB,aY,bU];omega
    ·split
     ·rename_i hs;have:=bN hs;exact⟨by rw[fT,fB,aY,bU,fT,fB,aY,bU];omega,zE,zE⟩
     ·exact nN (zq6 _)
def ahF{l:List Tok}{m:Nat}{X:Gr}(h:Adv 1 l (m+1) X):Adv 1 l m (qF K l X):=by
 intro a o hm ha;unfold qF;cases ht:l[a]? with
 |none=>exact nN (zq6 _)
 |some t=>
  have hlt:a < l.length:=(zxg.1 ht).1
  dsimp only
  split
  ·exact⟨by rw[fT,bU];omega,zE,zE⟩
  ·split
   ·split
    ·rename_i hs;have:=bN hs;refine(pQ (zq6 _) (j5 (c':=0) (s':=0) (vO h zE zE) (fun n=>by rw[zy];omega))).mono (zq6 _) zE zE
    ·exact⟨by rw[fT,bU];omega,zE,zE⟩
   ·split
    ·refine(pQ (zq6 _) (qK (h _ _ zE zE))).mono (zq6 _) zE zE
    ·split
     ·refine(pQ (zq6 _) (abw h _ _ _ _ _ zE zE)).mono (zq6 _) zE (by simp only[bU];omega)
     ·split
      ·refine(pQ (zq6 _) (j5 (c':=0) (s':=0) (vO h zE zE) (fun n=>by rw[zy];omega))).mono (zq6 _) zE zE
      ·exact nN (zq6 _)
def adQ{l:List Tok}{m:Nat}{X:Gr}{n:Nd}(h:Adv 1 l m X)(hm:m<=a)(ha:a<=l.length):nE (cnt n) 0 1 l a o (wK l X n a o):=by
 have h1:=h a o hm ha;unfold wK;cases hr:X a o with
 |bad c p m a' o'=>rw[hr]at h1;exact h1
 |ok n1 a'=>
  rw[hr]at h1;obtain⟨h1,h3,h2⟩:=h1
  dsimp only
  split
  ·rename_i hs;have:=bN hs;exact(qK (j5 (c':=0) (s':=1+cnt n+cnt n1) (h (a'+1) o zE zE) (fun n2=>by rw[fT,aY,aY,aY,bU];omega))).mono (zq6 _) zE zE
  ·exact(qK (k:=1) (s:=1+cnt n+cnt n1) (c:=0) (show nE _ _ _ l a' o (.ok _ a')from ⟨by rw[fT,aY,aY,bU];omega,zq6 _,h2⟩)).mono (zq6 _) zE zE
def aho{K:Nat}{l:List Tok}{m:Nat}{X:Gr}(h:Adv 1 l (m+1) X):∀(f:Nat) (n:Nd) (a o:Nat),m<=a->a<=l.length->nE (cnt n) 0 1 l a o (wI K l X f n a o)
 |0,n,a,o,hm,ha=>nN (zq6 _)
 |f+1,n,a,o,hm,ha=>by
  unfold wI
  split
  ·rename_i hs;have:=bN hs;have h1:=pQ (K:=K) (g:=wK l X n) (a:=a+1) (o:=o) (zq6 _) (adQ (n:=n) (o:=o+1) h zE zE)
   cases hr:ins K (wK l X n) (a+1) o with
   |bad e p n' a' o'=>rw[hr]at h1;exact h1
   |ok n' a'=>
    rw[hr]at h1;obtain⟨h1,h3,h2⟩:=h1;exact(aho h f n' a' o zE h2).mono (zq6 _) zE zE
  ·exact⟨zE,zE,ha⟩
def aeH{l:List Tok}{m:Nat}{X:Gr}(h:Adv 1 l (m+1) X):Adv 1 l m (sW K l X):=by
 intro a o hm ha;have h1:=ahF (K:=K) h a o hm ha;unfold sW;cases hr:qF K l X a o with
 |bad e p n a' o'=>rw[hr]at h1;exact h1
 |ok n a'=>
  rw[hr]at h1;obtain⟨h1,h3,h2⟩:=h1;exact(aho h _ n a' o zE h2).mono (zq6 _) zE zE
def awX{l:List Tok}{m:Nat}{X U:Gr}(h:Adv 1 l (m+1) X)(hu:Adv 1 l (m+1) U):Adv 1 l m (aed K l X U):=by
 intro a o hm ha;have h1:=aeH (K:=K) h a o hm ha;unfold aed;cases hr:sW K l X a o with
 |bad e p n a' o'=>rw[hr]at h1;exact h1
 |ok n a'=>
  rw[hr]at h1;obtain⟨h1,h3,h2⟩:=h1;have:=nJ n
  dsimp only
  split
  ·rename_i hs;have:=bN hs;exact(j5 (c':=0) (s':=1+cnt n) (hu (a'+1) o zE zE) (fun k=>by rw[fT,aY,aY,bU];omega)).mono (zq6 _) zE zE
  ·exact⟨h1,h3,h2⟩
def arv{l:List Tok}{m:Nat}{X U:Gr}(h:Adv 1 l (m+1) X)(hu:Adv 1 l (m+1) U):Adv 1 l m (unG K l X U):=by
 intro a o hm ha;unfold unG
 split
 ·rename_i hs;have:=bN hs;exact(pQ (zq6 _) (j5 (c':=0) (s':=1) (hu (a+1) (o+1) zE zE) (fun k=>by rw[fT,aY,bU];omega))).mono (zq6 _) zE zE
 ·exact awX h hu a o hm ha
def aac{l:List Tok}{m:Nat}{S:Gr}{s1 s2:List UInt8}{x y:Nat}(h:Adv 1 l m S):∀(f:Nat) (n:Nd) (a o:Nat),m<=a->a<=l.length->nE (cnt n) 0 1 l a o (iO l S s1 x s2 y f n a o)
 |0,n,a,o,hm,ha=>nN (zq6 _)
 |f+1,n,a,o,hm,ha=>by
  unfold iO
  split
  ·rename_i hs;have:=bN hs;have h1:=h (a+1) o zE zE
   cases hr:S (a+1) o with
   |bad e p n' a' o'=>rw[hr]at h1;exact h1
   |ok n' a'=>
    rw[hr]at h1;obtain⟨h1,h3,h2⟩:=h1;exact(aac h f _ a' o zE h2).mono (zq6 _) zE (by rw[fT,aY,aY,bU];omega)
  ·split
   ·rename_i hs;have:=bN hs;have h1:=h (a+1) o zE zE
    cases hr:S (a+1) o with
    |bad e p n' a' o'=>rw[hr]at h1;exact h1
    |ok n' a'=>
     rw[hr]at h1;obtain⟨h1,h3,h2⟩:=h1;exact(aac h f _ a' o zE h2).mono (zq6 _) zE (by rw[fT,aY,aY,bU];omega)
   ·exact⟨zE,zE,ha⟩
def abV{l:List Tok}{m:Nat}{S:Gr}{x:Nat}(h:Adv 1 l m S):Adv 1 l m (aaT l S s1 x s2 y):=by
 intro a o hm ha;have h1:=h a o hm ha;unfold aaT;cases hr:S a o with
 |bad e p n a' o'=>rw[hr]at h1;exact h1
 |ok n a'=>
  rw[hr]at h1;obtain⟨h1,h3,h2⟩:=h1;exact(aac h _ n a' o zE h2).mono (zq6 _) zE zE
def af7{l:List Tok}{m:Nat}{U:Gr}(h:Adv 1 l m U):Adv 1 l m (oK l U):=abV (abV h)
def avw{l:List Tok}{m:Nat}{U:Gr}(h:Adv 1 l m U):Adv 1 l m (wS l U):=by
 intro a o hm ha;have h1:=af7 h a o hm ha;unfold wS;cases hr:oK l U a o with
 |bad e p n a' o'=>rw[hr]at h1;exact h1
 |ok n a'=>
  rw[hr]at h1;obtain⟨h1,h3,h2⟩:=h1;have key:∀(x:Int),a' < l.length->nE 0 0 1 l a o (jf (fun m=> .mk x [] [n,m]) (oK l U (a'+1) o)):=fun x hx=>
   (j5 (c':=0) (s':=1+cnt n) (af7 h (a'+1) o zE zE) (fun k=>by rw[fT,aY,aY,bU];omega)).mono (zq6 _) zE zE
  dsimp only
  split
  ·rename_i hs;exact key 9 (bN hs)
  ·split
   ·rename_i hs;exact key 10 (bN hs)
   ·split
    ·rename_i hs;exact key 11 (bN hs)
    ·split
     ·rename_i hs;exact key 12 (bN hs)
     ·exact⟨h1,h3,h2⟩
def ab6(K:Nat)(l:List Tok):∀(n m:Nat),l.length+1<=m+n->Adv 1 l m (lev K l n).1/\Adv 1 l m (lev K l n).2
 |0,m,h=>⟨fun a o hm ha=>zE,fun a o hm ha=>zE⟩
 |n+1,m,h=>by
  obtain⟨h1,h2⟩:=ab6 K l n (m+1) zE
  have h3:=arv (K:=K) h1 h2;exact⟨avw h3,h3⟩
end
attribute [local irreducible] IntKind.wrap Go1 Reg WP aK aN bD aZ aJ aA aj ak aT Sat
section
def g_pow{l:List Tok}{m:Nat}{X U:Gr}(hl:l.length<=1000000)(hp:GOK 332 l m (sW 600 l X))(ap:Adv 1 l m (sW 600 l X))(hu:GOK 208 l (m+1) U):GOK 236 l m (aed 600 l X U):=by
 intro a o hm ha ho;have h1:=hp a o hm ha ho;have h2:=ap a o hm ha;unfold aed;cases hr:sW 600 l X a o with
 |bad e p n a' o'=>
  rw[hr]at h1;have c1:=h1.bad;have c2:=dK l a' o' e p [94];show ak _ _ _ _ _;refine ak.fq func236 fun w0 T B E0 hB=>?_
  refine zg ?_
  try(refine WP.aG ?_;refine zg ?_)
  exact aR aj.aW (z7 _) ⟨rfl,trivial⟩
 |ok n a'=>
  rw[hr]at h1 h2;have c1:=h1.ok;obtain⟨g1,g2,g3⟩:=h2;have g4:=nJ n;cases ht:isS l a' [94]with
  |false=>
   have c2:=dS o ht;simp only[Bool.false_eq_true,if_false,ht];show ak _ _ _ _ _;refine ak.fq func236 fun w0 T B E0 hB=>?_
   refine zg ?_
   try(refine WP.aG ?_;refine zg ?_)
   exact aR aj.aW (z7 _) ⟨rfl,trivial⟩
  |true=>
   have c2:=eU o hl ht;have g3:=bN ht;have h3:=hu (a'+1) o zE zE ho
   simp only[if_true,ht];cases hr2:U (a'+1) o with
   |bad e p n2 a2 o2=>
    rw[hr2]at h3;have c3:=h3.bad;show ak _ _ _ _ _;refine ak.fq func236 fun w0 T B E0 hB=>?_
    refine zg ?_
    try(refine WP.aG ?_;refine zg ?_)
    exact aR aj.aW (bJ rfl rfl rfl (by first|(simp only[zq7,zqd,aI,zqb];done)|(simp only[zq7,zqd,aI,zqb];rfl))) ⟨rfl,trivial⟩
   |ok n2 a2=>
    rw[hr2]at h3;have c3:=h3.ok;show ak _ _ _ _ _;refine ak.fq func236 fun w0 T B E0 hB=>?_
    refine zg ?_
    try(refine WP.aG ?_;refine zg ?_)
    exact aR aj.aW (bJ rfl rfl rfl (by first|(simp only[zq7,zqd,aI,zqb];done)|(simp only[zq7,zqd,aI,zqb];rfl))) ⟨rfl,trivial⟩
def azN{l:List Tok}(hp:GE 332 l):GE 236 l:=by
 intro a o e p;have c1:=hp a o e p;have c2:=dK l a o e p [94];refine ak.fq func236 ?_;intros
 refine zg ?_
 try(refine WP.aG ?_;refine zg ?_)
 exact aR aj.aW (z7 _) ⟨rfl,trivial⟩
def g_un1{l:List Tok}{m:Nat}{U:Gr}(hu:GOK 208 l m U)(hm:m<=a)(ha:a<=l.length)(ho:o<=600):CR rNd 237 [.ptr 81 0] [(81,PP)] l a o (jf (fun m=> .mk 3 [] [m]) (U a o)):=by
 have h3:=hu a o hm ha ho;cases hr2:U a o with
 |bad e p n2 a2 o2=>
  rw[hr2]at h3;have c3:=h3.bad;show ak _ _ _ _ _;refine ak.fq func237 fun w0 T B E0 hB=>?_
  refine zg ?_
  try(refine WP.aG ?_;refine zg ?_)
  exact aR aj.aW (bJ rfl rfl rfl (by first|(simp only[zq7,zqd,aI,zqb];done)|(simp only[zq7,zqd,aI,zqb];rfl))) ⟨rfl,rfl,trivial⟩
 |ok n2 a2=>
  rw[hr2]at h3;have c3:=h3.ok;show ak _ _ _ _ _;refine ak.fq func237 fun w0 T B E0 hB=>?_
  refine zg ?_
  try(refine WP.aG ?_;refine zg ?_)
  exact aR aj.aW (bJ rfl rfl rfl (by first|(simp only[zq7,zqd,aI,zqb];done)|(simp only[zq7,zqd,aI,zqb];rfl))) ⟨rfl,rfl,trivial⟩
def g_un{l:List Tok}{m:Nat}{X U:Gr}(hl:l.length<=1000000)(hp:GOK 236 l m (aed 600 l X U))(hu:GOK 208 l (m+1) U)(au:Adv 1 l (m+1) U):GOK 208 l m (unG 600 l X U):=by
 intro a o hm ha ho;have nm:Named 1 81:=⟨⟩;unfold unG;cases ht:isS l a [45]with
 |false=>
  simp only[Bool.false_eq_true,if_false];have c1:=dS o ht;have h1:=hp a o hm ha ho;cases hr:aed 600 l X U a o with
  |bad e p n a' o'=>
   rw[hr]at h1;have c2:=h1.bad;show ak _ _ _ _ _;refine ak.fq func208 fun w0 T B E0 hB=>?_
   refine zg ?_
   try(refine WP.aG ?_;refine zg ?_)
   exact aR aj.aW (z7 _) ⟨rfl,trivial⟩
  |ok n a'=>
   rw[hr]at h1;have c2:=h1.ok;show ak _ _ _ _ _;refine ak.fq func208 fun w0 T B E0 hB=>?_
   refine zg ?_
   try(refine WP.aG ?_;refine zg ?_)
   exact aR aj.aW (z7 _) ⟨rfl,trivial⟩
 |true=>
  simp only[if_true];have c1:=eU o hl ht;have g3:=bN ht;have h1:=aha (f:=237) (l:=l) (a:=a+1) (o:=o) (k:=fun a o=>jf (fun m=> .mk 3 [] [m]) (U a o)) ho (fun h=>⟨g_un1 hu zE zE zE,(j5 (c':=0) (s':=1) (au (a+1) (o+1) zE zE) (fun k=>by rw[fT,aY,bU];omega)).open.mono zE⟩)
  cases hr:ins 600 (fun a o=>jf (fun m=> .mk 3 [] [m]) (U a o)) (a+1) o with
  |bad e p n a' o'=>
   rw[hr]at h1;have c2:=h1.bad;show ak _ _ _ _ _;refine ak.fq func208 fun w0 T B E0 hB=>?_
   refine zg ?_
   try(refine WP.aG ?_;refine zg ?_)
   exact aR aj.aW (z7 _) ⟨rfl,trivial⟩
  |ok n a'=>
   rw[hr]at h1;have c2:=h1.ok;show ak _ _ _ _ _;refine ak.fq func208 fun w0 T B E0 hB=>?_
   refine zg ?_
   try(refine WP.aG ?_;refine zg ?_)
   exact aR aj.aW (z7 _) ⟨rfl,trivial⟩
def ge_un{l:List Tok}(hp:GE 236 l):GE 208 l:=by
 intro a o e p;have c1:=hp a o e p;have c2:=dK l a o e p [45];refine ak.fq func208 ?_;intros
 refine zg ?_
 try(refine WP.aG ?_;refine zg ?_)
 exact aR aj.aW (z7 _) ⟨rfl,trivial⟩
def bE:Option (Nat×Nat)->Nat
 |none=>0
 |some (e,_)=>e
def bP:Option (Nat×Nat)->Nat
 |none=>0
 |some (_,p)=>p
def bH:Option (Nat×Nat)->Bool
 |none=>false
 |some _=>true
abbrev PS(l:List Tok)(a o:Nat)(b:Option (Nat×Nat)):Ent:=PB l a o (bE b) (bH b) (bP b)
structure ChS where
 n:Nd
 a:Nat
 o:Nat
 b:Option (Nat×Nat)
 f:Nat
def chS(l:List Tok)(S:Gr)(s1:List UInt8)(x:Nat)(s2:List UInt8)(y:Nat)(q:ChS):Res:=match q.b with
 |none=>iO l S s1 x s2 y q.f q.n q.a q.o
 |some (e,p)=> .bad e p q.n q.a q.o
abbrev NZ:Ent:= .box 128 [.c (.val (.int .i64 0)),.c (.val (.string ByteArray.empty)),.c (.val (.slice none 0 0))]
def chI(f:FuncId)(s1:List UInt8)(x:Nat)(s2:List UInt8)(y:Nat):List (Nat×AV):=[(0,.ptr 29 0),(1,bnA f),(2,.v (str s1)),(3,.v (.int .i64 (x:Int))),(4,.v (str s2)),(5,.v (.int .i64 (y:Int))),(12,.ptr 12 0),(13,.ptr 13 0)]
def Res.nd:Res->Nd
 | .ok n _=>n
 | .bad _ _ n _ _=>n
def Res.pl:Res->Nat
 | .ok _ a=>a
 | .bad _ _ _ a _=>a
def Res.op(o:Nat):Res->Nat
 | .ok _ _=>o
 | .bad _ _ _ _ o'=>o'
def Res.er:Res->Option (Nat×Nat)
 | .ok _ _=>none
 | .bad e p _ _ _=>some (e,p)
def CR.of{res:Nd->AV}{f:FuncId}{ex:List (Nat×Ent)}{l:List Tok}{r:Res}(h:ak prog f ao ((29,PG l a o)::ex) ⟨res r.nd,(29,.ent (PS l r.pl (r.op o) r.er))::ex.map fun p=>(p.1,.ent p.2)⟩):CR res f ao ex l a o r:=by
 cases r <;> exact h
abbrev caN(n:Nd):List CA:=[.val (.int .i64 (n.op:Int)),.val (str n.text),.sat (aD 3 ndC n.kids)]
def afC(x:Nat)(n k:Nd):Ent.box 128 [.c (.val (.int .i64 (x:Int))),.c (.val (.string ByteArray.empty)),.c (.sat (aP 3 2 (caN n++caN k)))]=NB (.mk x [] [n,k]):=by
 show _=Ent.box _ [_,_,.c (.sat (aP 3 2 ([n,k].flatMap ndC)))];rw[show [n,k].flatMap ndC=caN n++caN k by simp only[zq7,zqd,aI,zqb]]
 rfl
def amr{f:FuncId}{l:List Tok}{m:Nat}{S:Gr}{s1 s2:List UInt8}{x y:Nat}(hl:l.length<=1000000)(hs:GOK f l m S)(hA:Adv 1 l m S)(hm:m<=a)(ha:a<=l.length)(ho:o<=600):
  CR rNd 187 [.ptr 29 0,bnA f,.v (str s1),.v (.int .i64 (x:Int)),.v (str s2),.v (.int .i64 (y:Int))] [] l a o (aaT l S s1 x s2 y a o):=by
 have h1:=hs a o hm ha ho;have h2:=hA a o hm ha;unfold aaT;cases hr:S a o with
 |bad e p n a' o'=>
  rw[hr]at h1;have c1:=h1.bad;have c2:=dK l a' o' e p s1;have c3:=dK l a' o' e p s2;show ak _ _ _ _ _;refine ak.fq func187 fun w0 T B E0 hB=>?_
  refine zg ?_
  try(refine WP.aG ?_;refine zg ?_)
  refine W.loop (fun _:Unit=>True) (fun _=>chI f s1 x s2 y) (fun _=>[(29,PE l a' o' e p),(12,NZ),(13,NB n)]) (fun _=>0) () trivial (fun _ _=>?_)
  refine zg ?_
  try(refine WP.aG ?_;refine zg ?_)
  exact aR aj.aW (z7 _) ⟨rfl,trivial⟩
 |ok n a'=>
  rw[hr]at h1 h2;have c1:=h1.ok;obtain⟨g1,g2,g3⟩:=h2;have g4:=nJ n
  dsimp only
  generalize hR:iO l S s1 x s2 y (l.length+1) n a' o=R;refine CR.of ?_;refine ak.fq func187 fun w0 T B E0 hB=>?_
  refine zg ?_
  try(refine WP.aG ?_;refine zg ?_)
  refine W.loop (fun q:ChS=>chS l S s1 x s2 y q=R/\(q.b=none->q.o=o/\m<=q.a/\q.a<=l.length/\l.length < q.a+q.f)) (fun _=>chI f s1 x s2 y) (fun q=>[(29,PS l q.a q.o q.b),(12,NZ),(13,NB q.n)]) (fun q=>match q.b with|none=>l.length+1 - q.a|some _=>0) ⟨n,a',o,none,l.length+1⟩ ⟨hR,fun _=>by dsimp only;exact⟨rfl,zE,zE,zE⟩⟩ (fun q hq=>?_)
  obtain⟨qn,qa,qo,qb,qf⟩:=q;obtain⟨hq1,hq2⟩:=hq
  dsimp only at hq1 hq2
  cases qb with
  |some b=>
   obtain⟨e,p⟩:=b;have c2:=dK l qa qo e p s1;have c3:=dK l qa qo e p s2;refine zg ?_
   try(refine WP.aG ?_;refine zg ?_)
   subst hq1;exact aR aj.aW (z7 _) ⟨rfl,trivial⟩
  |none=>
   obtain⟨rfl,b1,b2,b3⟩:=hq2 rfl;obtain⟨qf,rfl⟩:∃k,qf=k+1:=⟨qf - 1,zE⟩
   have hq1:iO l S s1 x s2 y (qf+1) qn qa qo=R:=hq1;unfold iO at hq1;cases ht:isS l qa s1 with
   |true=>
    have c2:=eU qo hl ht;have g5:=bN ht;have h3:=hs (qa+1) qo zE zE ho
    have h4:=hA (qa+1) qo zE zE
    rw[if_pos ht]at hq1;cases hr2:S (qa+1) qo with
    |bad e p k a2 o2=>
     rw[hr2]at h3 hq1;have c3:=h3.bad;refine zg ?_
     try(refine WP.aG ?_;refine zg ?_)
     exact W.next ⟨.mk x [] [qn,k],a2,o2,some (e,p),0⟩ ⟨hq1,fun h=>by cases h⟩ (by dsimp only;omega) 
      (by
       apply St.lt0
       ·intro b h;exact SX.dB h
       ·exact yd
       ·exact⟨ay.eq rfl rfl rfl,ay.same rfl rfl,ay.eq rfl (afC _ _ _) rfl,trivial⟩
       ·rfl)
    |ok k a2=>
     rw[hr2]at h3 hq1 h4;have c3:=h3.ok;obtain⟨j1,j2,j3⟩:=h4;refine zg ?_
     try(refine WP.aG ?_;refine zg ?_)
     exact W.next ⟨.mk x [] [qn,k],a2,qo,none,qf⟩ ⟨hq1,fun h=>by dsimp only;exact⟨rfl,zE,zE,zE⟩⟩ (by dsimp only;omega)
      (by
       apply St.lt0
       ·intro b h;exact SX.dB h
       ·exact yd
       ·exact⟨ay.eq rfl rfl rfl,ay.same rfl rfl,ay.eq rfl (afC _ _ _) rfl,trivial⟩
       ·rfl)
   |false=>
    have c2:=dS qo ht;rw[if_neg (by rw[ht];decide)]at hq1
    cases ht2:isS l qa s2 with
    |true=>
     have c4:=eU qo hl ht2;have g5:=bN ht2;have h3:=hs (qa+1) qo zE zE ho
     have h4:=hA (qa+1) qo zE zE
     rw[if_pos ht2]at hq1;cases hr2:S (qa+1) qo with
     |bad e p k a2 o2=>
      rw[hr2]at h3 hq1;have c3:=h3.bad;refine zg ?_
      try(refine WP.aG ?_;refine zg ?_)
      exact W.next ⟨.mk y [] [qn,k],a2,o2,some (e,p),0⟩ ⟨hq1,fun h=>by cases h⟩ (by dsimp only;omega)
       (by
        apply St.lt0
        ·intro b h;exact SX.dB h
        ·exact yd
        ·exact⟨ay.eq rfl rfl rfl,ay.same rfl rfl,ay.eq rfl (afC _ _ _) rfl,trivial⟩
        ·rfl)
     |ok k a2=>
      rw[hr2]at h3 hq1 h4;have c3:=h3.ok;obtain⟨j1,j2,j3⟩:=h4;refine zg ?_
      try(refine WP.aG ?_;refine zg ?_)
      exact W.next ⟨.mk y [] [qn,k],a2,qo,none,qf⟩ ⟨hq1,fun h=>by dsimp only;exact⟨rfl,zE,zE,zE⟩⟩ (by dsimp only;omega)
       (by
        apply St.lt0
        ·intro b h;exact SX.dB h
        ·exact yd
        ·exact⟨ay.eq rfl rfl rfl,ay.same rfl rfl,ay.eq rfl (afC _ _ _) rfl,trivial⟩
        ·rfl)
    |false=>
     have c4:=dS qo ht2;rw[if_neg (by rw[ht2];decide)]at hq1
     refine zg ?_
     try(refine WP.aG ?_;refine zg ?_)
     subst hq1;exact aR aj.aW (z7 _) ⟨rfl,trivial⟩
def ajj{f:FuncId}{l:List Tok}{s1 s2:List UInt8}{x y:Nat}(hs:GE f l)(a o e p:Nat):
  ak prog 187 [.ptr 29 0,bnA f,.v (str s1),.v (.int .i64 (x:Int)),.v (str s2),.v (.int .i64 (y:Int))] [(29,PE l a o e p)] ⟨rNd nd0,[(29,.ent (PE l a o e p))]⟩:=by
 have c1:=hs a o e p;have c2:=dK l a o e p s1;have c3:=dK l a o e p s2;refine ak.fq func187 ?_;intros
 refine zg ?_
 try(refine WP.aG ?_;refine zg ?_)
 refine W.loop (fun _:Unit=>True) (fun _=>chI f s1 x s2 y) (fun _=>[(29,PE l a o e p),(12,NZ),(13,NB nd0)]) (fun _=>0) () trivial (fun _ _=>?_)
 refine zg ?_
 try(refine WP.aG ?_;refine zg ?_)
 exact aR aj.aW (z7 _) ⟨rfl,trivial⟩
def ayn{l:List Tok}{m:Nat}{U:Gr}(hl:l.length<=1000000)(hs:GOK 208 l m U)(hA:Adv 1 l m U):GOK 188 l m (zl l U):=by
 intro a o hm ha ho;have h1:CR rNd 187 [.ptr 29 0,bnA 208,.v (str [42]),.v (.int .i64 6),.v (str [47]),.v (.int .i64 7)] [] l a o (zl l U a o):=amr hl hs hA hm ha ho;cases hr:zl l U a o with
 |bad e p n a' o'=>
  rw[hr]at h1;have c1:=h1.bad;show ak _ _ _ _ _;refine ak.fq func188 fun w0 T B E0 hB=>?_
  refine zg ?_
  try(refine WP.aG ?_;refine zg ?_)
  exact aR aj.aW (z7 _) ⟨rfl,trivial⟩
 |ok n a'=>
  rw[hr]at h1;have c1:=h1.ok;show ak _ _ _ _ _;refine ak.fq func188 fun w0 T B E0 hB=>?_
  refine zg ?_
  try(refine WP.aG ?_;refine zg ?_)
  exact aR aj.aW (z7 _) ⟨rfl,trivial⟩
def avl{l:List Tok}(hs:GE 208 l):GE 188 l:=by
 intro a o e p;have c1:ak prog 187 [.ptr 29 0,bnA 208,.v (str [42]),.v (.int .i64 6),.v (str [47]),.v (.int .i64 7)] [(29,PE l a o e p)] ⟨rNd nd0,[(29,.ent (PE l a o e p))]⟩:=ajj hs a o e p;refine ak.fq func188 ?_;intros
 refine zg ?_
 try(refine WP.aG ?_;refine zg ?_)
 exact aR aj.aW (z7 _) ⟨rfl,trivial⟩
def g_sum{l:List Tok}{m:Nat}{U:Gr}(hl:l.length<=1000000)(hs:GOK 188 l m (zl l U))(hA:Adv 1 l m U):GOK 148 l m (oK l U):=by
 intro a o hm ha ho;have h1:CR rNd 187 [.ptr 29 0,bnA 188,.v (str [43]),.v (.int .i64 4),.v (str [45]),.v (.int .i64 5)] [] l a o (oK l U a o):=amr hl hs (abV hA) hm ha ho;cases hr:oK l U a o with
 |bad e p n a' o'=>
  rw[hr]at h1;have c1:=h1.bad;show ak _ _ _ _ _;refine ak.fq func148 fun w0 T B E0 hB=>?_
  refine zg ?_
  try(refine WP.aG ?_;refine zg ?_)
  exact aR aj.aW (z7 _) ⟨rfl,trivial⟩
 |ok n a'=>
  rw[hr]at h1;have c1:=h1.ok;show ak _ _ _ _ _;refine ak.fq func148 fun w0 T B E0 hB=>?_
  refine zg ?_
  try(refine WP.aG ?_;refine zg ?_)
  exact aR aj.aW (z7 _) ⟨rfl,trivial⟩
def azH{l:List Tok}(hs:GE 188 l):GE 148 l:=by
 intro a o e p;have c1:ak prog 187 [.ptr 29 0,bnA 188,.v (str [43]),.v (.int .i64 4),.v (str [45]),.v (.int .i64 5)] [(29,PE l a o e p)] ⟨rNd nd0,[(29,.ent (PE l a o e p))]⟩:=ajj hs a o e p;refine ak.fq func148 ?_;intros
 refine zg ?_
 try(refine WP.aG ?_;refine zg ?_)
 exact aR aj.aW (z7 _) ⟨rfl,trivial⟩
def sgnB:Nat->List UInt8
 |0=>[61,61]
 |1=>[33,61]
 |2=>[60]
 |_=>[60,61]
def exI(i:Nat):List (Nat×AV):=[(0,.ptr 29 0),(2,.ptr 2 0),(3,.ptr 3 0),(8,.agg [.c (.val (str [61,61])),.c (.val (str [33,61])),.c (.val (str [60])),.c (.val (str [60,61]))]),(9,.v (.int .i64 (i:Int)))]
def az5{l:List Tok}(hs:GE 148 l):GE 103 l:=by
 intro a o e p;have c1:=hs a o e p;have k0:=dK l a o e p [61,61];have k1:=dK l a o e p [33,61];have k2:=dK l a o e p [60];have k3:=dK l a o e p [60,61];refine ak.fq func103 ?_;intros
 refine zg ?_
 try(refine WP.aG ?_;refine zg ?_)
 refine W.loop (fun i=>i<=4) exI (fun _=>[(29,PE l a o e p),(2,NZ),(3,NB nd0)]) (fun i=>4 - i) 0 zE (fun i hi=>?_)
 match i,hi with
 |0,_=>
  refine zg ?_
  try(refine WP.aG ?_;refine zg ?_)
  exact W.next 1 zE zE
 |1,_=>
  refine zg ?_
  try(refine WP.aG ?_;refine zg ?_)
  exact W.next 2 zE zE
 |2,_=>
  refine zg ?_
  try(refine WP.aG ?_;refine zg ?_)
  exact W.next 3 zE zE
 |3,_=>
  refine zg ?_
  try(refine WP.aG ?_;refine zg ?_)
  exact W.next 4 zE zE
 |4,_=>
  refine zg ?_
  try(refine WP.aG ?_;refine zg ?_)
  exact aR aj.aW (z7 _) ⟨rfl,trivial⟩
 |i+5,h=>omega
def exT(l:List Tok)(U:Gr)(n:Nd)(a o:Nat):Nat->Res
 |0=> .ok n a
 |k+1=>if isS l a (sgnB (3 - k))then jf (fun m=> .mk ((12 - k:Nat):Int) [] [n,m]) (oK l U (a+1) o)else exT l U n a o k
def amq{l:List Tok}{U:Gr}{n:Nd}{k:Nat}{R:Res}(h:exT l U n a o (k+1)=R)(hs:sgnB (3 - k)=s)(ht:isS l a s=true):jf (fun m=> .mk ((12 - k:Nat):Int) [] [n,m]) (oK l U (a+1) o)=R:=by
 subst hs;unfold exT at h;rwa [if_pos ht]at h
def alH{l:List Tok}{U:Gr}{n:Nd}{k:Nat}{R:Res}(h:exT l U n a o (k+1)=R)(hs:sgnB (3 - k)=s)(ht:isS l a s=false):exT l U n a o k=R:=by
 subst hs;unfold exT at h;rwa [if_neg (by rw[ht];decide)]at h
def g_exp{l:List Tok}{m:Nat}{U:Gr}(hl:l.length<=1000000)(hs:GOK 148 l m (oK l U))(hA:Adv 1 l m U):GOK 103 l m (wS l U):=by
 intro a o hm ha ho;have h1:=hs a o hm ha ho;have h2:=af7 hA a o hm ha;unfold wS;cases hr:oK l U a o with
 |bad e p n a' o'=>
  rw[hr]at h1;have c1:=h1.bad;show ak _ _ _ _ _;have k0:=dK l a' o' e p [61,61];have k1:=dK l a' o' e p [33,61];have k2:=dK l a' o' e p [60];have k3:=dK l a' o' e p [60,61];refine ak.fq func103 fun w0 T B E0 hB=>?_
  refine zg ?_
  try(refine WP.aG ?_;refine zg ?_)
  refine W.loop (fun i=>i<=4) exI (fun _=>[(29,PE l a' o' e p),(2,NZ),(3,NB n)]) (fun i=>4 - i) 0 zE (fun i hi=>?_)
  match i,hi with
  |0,_=>
   refine zg ?_
   try(refine WP.aG ?_;refine zg ?_)
   exact W.next 1 zE zE
  |1,_=>
   refine zg ?_
   try(refine WP.aG ?_;refine zg ?_)
   exact W.next 2 zE zE
  |2,_=>
   refine zg ?_
   try(refine WP.aG ?_;refine zg ?_)
   exact W.next 3 zE zE
  |3,_=>
   refine zg ?_
   try(refine WP.aG ?_;refine zg ?_)
   exact W.next 4 zE zE
  |4,_=>
   refine zg ?_
   try(refine WP.aG ?_;refine zg ?_)
   exact aR aj.aW (z7 _) ⟨rfl,trivial⟩
  |i+5,h=>omega
 |ok n a'=>
  rw[hr]at h1 h2;have c1:=h1.ok;obtain⟨g1,g2,g3⟩:=h2;have key:∀R,exT l U n a' o 4=R->CR rNd 103 [.ptr 29 0] [] l a o R:=by
   intro R hR;refine CR.of ?_;refine ak.fq func103 fun w0 T B E0 hB=>?_
   refine zg ?_
   try(refine WP.aG ?_;refine zg ?_)
   refine W.loop (fun i=>i<=4/\exT l U n a' o (4 - i)=R) exI (fun _=>[(29,PG l a' o),(2,NZ),(3,NB n)]) (fun i=>4 - i) 0 ⟨zE,hR⟩ (fun i hi=>?_)
   match i,hi with
   |0,⟨_,hq⟩=>
    have hq:exT l U n a' o (3+1)=R:=hq;cases ht:isS l a' [61,61]with
    |true=>
     have hq:=amq hq rfl ht;have k0:=eU o hl ht;have g5:=bN ht;have h3:=hs (a'+1) o zE zE ho
     cases hr2:oK l U (a'+1) o with
     |bad e p k a2 o2=>
      rw[hr2]at h3 hq;have c3:=h3.bad;refine zg ?_
      try(refine WP.aG ?_;refine zg ?_)
      subst hq;exact aR aj.aW (bJ rfl rfl rfl (by first|(simp only[zq7,zqd,aI,zqb];done)|(simp only[zq7,zqd,aI,zqb];rfl))) ⟨rfl,trivial⟩
     |ok k a2=>
      rw[hr2]at h3 hq;have c3:=h3.ok;refine zg ?_
      try(refine WP.aG ?_;refine zg ?_)
      subst hq;exact aR aj.aW (bJ rfl rfl rfl (by first|(simp only[zq7,zqd,aI,zqb];done)|(simp only[zq7,zqd,aI,zqb];rfl))) ⟨rfl,trivial⟩
    |false=>
     have hq:=alH hq rfl ht;have k0:=dS o ht;refine zg ?_
     try(refine WP.aG ?_;refine zg ?_)
     exact W.next 1 ⟨zE,hq⟩ zE
   |1,⟨_,hq⟩=>
    have hq:exT l U n a' o (2+1)=R:=hq;cases ht:isS l a' [33,61]with
    |true=>
     have hq:=amq hq rfl ht;have k0:=eU o hl ht;have g5:=bN ht;have h3:=hs (a'+1) o zE zE ho
     cases hr2:oK l U (a'+1) o with
     |bad e p k a2 o2=>
      rw[hr2]at h3 hq;have c3:=h3.bad;refine zg ?_
      try(refine WP.aG ?_;refine zg ?_)
      subst hq;exact aR aj.aW (bJ rfl rfl rfl (by first|(simp only[zq7,zqd,aI,zqb];done)|(simp only[zq7,zqd,aI,zqb];rfl))) ⟨rfl,trivial⟩
     |ok k a2=>
      rw[hr2]at h3 hq;have c3:=h3.ok;refine zg ?_
      try(refine WP.aG ?_;refine zg ?_)
      subst hq;exact aR aj.aW (bJ rfl rfl rfl (by first|(simp only[zq7,zqd,aI,zqb];done)|(simp only[zq7,zqd,aI,zqb];rfl))) ⟨rfl,trivial⟩
    |false=>
     have hq:=alH hq rfl ht;have k0:=dS o ht;refine zg ?_
     try(refine WP.aG ?_;refine zg ?_)
     exact W.next 2 ⟨zE,hq⟩ zE
   |2,⟨_,hq⟩=>
    have hq:exT l U n a' o (1+1)=R:=hq;cases ht:isS l a' [60]with
    |true=>
     have hq:=amq hq rfl ht;have k0:=eU o hl ht;have g5:=bN ht;have h3:=hs (a'+1) o zE zE ho
     cases hr2:oK l U (a'+1) o with
     |bad e p k a2 o2=>
      rw[hr2]at h3 hq;have c3:=h3.bad;refine zg ?_
      try(refine WP.aG ?_;refine zg ?_)
      subst hq;exact aR aj.aW (bJ rfl rfl rfl (by first|(simp only[zq7,zqd,aI,zqb];done)|(simp only[zq7,zqd,aI,zqb];rfl))) ⟨rfl,trivial⟩
     |ok k a2=>
      rw[hr2]at h3 hq;have c3:=h3.ok;refine zg ?_
      try(refine WP.aG ?_;refine zg ?_)
      subst hq;exact aR aj.aW (bJ rfl rfl rfl (by first|(simp only[zq7,zqd,aI,zqb];done)|(simp only[zq7,zqd,aI,zqb];rfl))) ⟨rfl,trivial⟩
    |false=>
     have hq:=alH hq rfl ht;have k0:=dS o ht;refine zg ?_
     try(refine WP.aG ?_;refine zg ?_)
     exact W.next 3 ⟨zE,hq⟩ zE
   |3,⟨_,hq⟩=>
    have hq:exT l U n a' o (0+1)=R:=hq;cases ht:isS l a' [60,61]with
    |true=>
     have hq:=amq hq rfl ht;have k0:=eU o hl ht;have g5:=bN ht;have h3:=hs (a'+1) o zE zE ho
     cases hr2:oK l U (a'+1) o with
     |bad e p k a2 o2=>
      rw[hr2]at h3 hq;have c3:=h3.bad;refine zg ?_
      try(refine WP.aG ?_;refine zg ?_)
      subst hq;exact aR aj.aW (bJ rfl rfl rfl (by first|(simp only[zq7,zqd,aI,zqb];done)|(simp only[zq7,zqd,aI,zqb];rfl))) ⟨rfl,trivial⟩
     |ok k a2=>
      rw[hr2]at h3 hq;have c3:=h3.ok;refine zg ?_
      try(refine WP.aG ?_;refine zg ?_)
      subst hq;exact aR aj.aW (bJ rfl rfl rfl (by first|(simp only[zq7,zqd,aI,zqb];done)|(simp only[zq7,zqd,aI,zqb];rfl))) ⟨rfl,trivial⟩
    |false=>
     have hq:=alH hq rfl ht;have k0:=dS o ht;refine zg ?_
     try(refine WP.aG ?_;refine zg ?_)
     exact W.next 4 ⟨zE,hq⟩ zE
   |4,⟨_,hq⟩=>
    refine zg ?_
    try(refine WP.aG ?_;refine zg ?_)
    subst hq;exact aR aj.aW (z7 _) ⟨rfl,trivial⟩
   |i+5,⟨h,_⟩=>omega
  exact key _ rfl
def axP{t:Tmp}{l:List (Nat×Slot)}{n:Nat}{ks:List Nd}(hh:adZ st l)(h:st.tm t=some (.r (aP 3 n ag)):=by rfl)(hn:n=ks.length:=by first|rfl|(simp[Res.nd,Nd.kids];done))(hc:ag=ks.flatMap ndC:=by first|rfl|exact bO (aI _).symm):aJ C P [.tmp t] ⟨.r (aD 3 ndC ks),l⟩ st:=by
 subst hn hc;exact gQ (xs:=[.one (.c (.sat (aD 3 ndC ks)))]) ⟨aj.tmp h,trivial⟩ hh
def retK0{t:Tmp}{l:List (Nat×Slot)}(hh:adZ st l)(h:st.tm t=some (.v (.slice none 0 0)):=by rfl):aJ C P [.tmp t] ⟨.r (aD 3 ndC []),l⟩ st:=
 gQ (xs:=[.one (.c (.sat (aD 3 ndC [])))]) ⟨(aj.tmp h).imp imp_nil,trivial⟩ hh
structure LiS where
 ks:List Nd
 a:Nat
 o:Nat
 b:Option (Nat×Nat)
 f:Nat
def liS(l:List Tok)(X:Gr)(e:List UInt8)(q:LiS):Res:=match q.b with
 |none=>uf l X e q.f q.ks q.a q.o
 |some (e,p)=> .bad e p (.mk 0 [] q.ks) q.a q.o
abbrev NR(ks:List Nd):Ent:= .row 128 3 ks.length (ks.flatMap ndC)
def asS{l:List Tok}{m:Nat}{X:Gr}{e:List UInt8}(hl:l.length<=1000000)(hs:GOK 103 l m X)(hA:Adv 1 l m X)(hm:m<=a)(ha:a<=l.length)(ho:o<=600):
  CR rKs 507 [.ptr 29 0,.v (str e)] [] l a o (jV l X e a o):=by
 unfold jV;cases h0:isS l a e with
 |true=>
  rw[if_pos rfl];have c0:=eU o hl h0;show ak _ _ _ _ _;refine ak.fq func507 fun w0 T B E0 hB=>?_
  refine zg ?_;exact retK0 ⟨rfl,trivial⟩
 |false=>
  rw[if_neg zc]
  have c0:=dS o h0;generalize hR:uf l X e (l.length+1) [] a o=R;refine CR.of ?_;refine ak.fq func507 fun w0 T B E0 hB=>?_
  refine zg ?_;refine W.loop (fun q:LiS=>liS l X e q=R/\(q.b=none->q.o=o/\m<=q.a/\q.a<=l.length/\l.length < q.a+q.f/\q.ks.length<=q.a)) (fun _=>[(0,.ptr 29 0),(1,.v (str e)),(5,.own 100)]) (fun q=>[(29,PS l q.a q.o q.b),(100,NR q.ks)]) (fun q=>match q.b with|none=>l.length+1 - q.a|some _=>0) ⟨[],a,o,none,l.length+1⟩ ⟨hR,fun _=>by dsimp only;exact⟨rfl,zE,zE,zE,zq8 _⟩⟩ (fun q hq=>?_)
  obtain⟨qk,qa,qo,qb,qf⟩:=q;obtain⟨hq1,hq2⟩:=hq
  dsimp only at hq1 hq2
  cases qb with
  |some b=>
   obtain⟨ee,p⟩:=b;show WP _ _ _ (gL [(0,.ptr 29 0),(1,.v (str e)),(5,.own 100)] [(29,PE l qa qo ee p),(100,NR qk)]) _;refine zg ?_;subst hq1;refine aJ.tC 100 (ps:=[29]) ?_;exact axP ⟨rfl,trivial⟩
  |none=>
   obtain⟨rfl,b1,b2,b3,b4⟩:=hq2 rfl;obtain⟨qf,rfl⟩:∃k,qf=k+1:=⟨qf - 1,zE⟩
   show WP _ _ _ (gL [(0,.ptr 29 0),(1,.v (str e)),(5,.own 100)] [(29,PG l qa qo),(100,NR qk)]) _;have hq1:uf l X e (qf+1) qk qa qo=R:=hq1;unfold uf at hq1;have h3:=hs qa qo zE zE ho
   have h4:=hA qa qo zE zE
   cases hr2:X qa qo with
   |bad c p k a2 o2=>
    rw[hr2]at h3 hq1;have c3:=h3.bad;have c4:=dK l a2 o2 c p e;have c5:=jN l a2 o2 c p [44];refine zg ?_;exact W.next ⟨qk++[k],a2,o2,some (c,p),0⟩ ⟨hq1,fun h=>by cases h⟩ (by dsimp only;omega)
     (by
      apply St.lt1
      ·intro b h;exact SX.dB h
      ·exact ye
      ·exact⟨ay.eq rfl rfl rfl,ay.row rfl rfl zp (bO (aI _).symm),trivial⟩
      ·rfl)
   |ok k a2=>
    rw[hr2]at h3 hq1 h4;have c3:=h3.ok;obtain⟨j1,j2,j3⟩:=h4;have j4:=nJ k
    dsimp only at hq1
    cases ht:isS l a2 e with
    |true=>
     have c4:=eU qo hl ht;rw[if_pos ht]at hq1;refine zg ?_;subst hq1;refine aJ.tC 18 (ps:=[29]) ?_;exact axP ⟨rfl,trivial⟩
    |false=>
     have c4:=dS qo ht;rw[if_neg (by rw[ht];decide)]at hq1
     cases ht2:isS l a2 [44]with
     |true=>
      have c5:=kR qo hl ht2;have g5:=bN ht2;rw[if_pos ht2]at hq1;refine zg ?_;exact W.next ⟨qk++[k],a2+1,qo,none,qf⟩ ⟨hq1,fun h=>by dsimp only;exact⟨rfl,zE,zE,zE,by simp;omega⟩⟩ (by dsimp only;omega)
       (by
        apply St.lt1
        ·intro b h;exact SX.dB h
        ·exact ye
        ·exact⟨ay.eq rfl rfl rfl,ay.row rfl rfl zp (bO (aI _).symm),trivial⟩
        ·rfl)
     |false=>
      have c5:=mF qo ht2;rw[if_neg (by rw[ht2];decide)]at hq1
      refine zg ?_;exact W.next ⟨qk++[k],a2,qo,some (4,a2),0⟩ ⟨hq1,fun h=>by cases h⟩ (by dsimp only;omega)
       (by
        apply St.lt1
        ·intro b h;exact SX.dB h
        ·exact ye
        ·exact⟨ay.eq rfl rfl rfl,ay.row rfl rfl zp (bO (aI _).symm),trivial⟩
        ·rfl)
def ay.node{ρ:List (Nat×Option Nat)}{b c:Nat}{x:Value}{s:Value}{o:Atom}(h:st.hp b= .ent (.box 128 [.c (.val x),.c (.val s),o]))(hf:fresh ρ [b]=true)(hi:aB ρ o (.own c)):ay st ρ b (.box 128 [.c (.val x),.c (.val s),.own c]):=
 ay.jE h hf ⟨aB.same rfl,aB.same rfl,hi,trivial⟩
abbrev NG(x:Int)(c:Nat):Ent:= .box 128 [.c (.val (.int .i64 x)),.c (.val (.string ByteArray.empty)),.own c]
structure MaS where
 rs:List Nd
 r:List Nd
 a:Nat
 f:Nat
def abu(r:List Nd)(k:Nd):([CA.val (.int .i64 15),.val (.string ByteArray.empty),.sat (aP 3 (r.length+1) (r.flatMap ndC++caN k))]:List CA)=ndC (.mk 15 [] (r++[k])):=by
 rw[atP];show _=[CA.val (.int .i64 15),.val (.string ByteArray.empty),.sat (aP 3 (r++[k]).length ((r++[k]).flatMap ndC))];rw[<-bO (aI k).symm,zqi];rfl
def g_mat{l:List Tok}{m:Nat}{X:Gr}(hl:l.length<=1000000)(hs:GOK 103 l m X)(hA:Adv 1 l m X)(hm:m<=a)(ha:a<=l.length)(ho:o<=600):
  CR rNd 509 [.ptr 29 0] [] l a o (tY l X (l.length+1) [] [] a o):=by
 generalize hR:tY l X (l.length+1) [] [] a o=R;refine CR.of ?_;refine ak.fq func509 fun _ _ _ _ hB=>?_
 refine zg ?_;refine W.loop (fun q:MaS=>tY l X q.f q.rs q.r q.a o=R/\m<=q.a/\q.a<=l.length/\l.length < q.a+q.f/\q.rs.length+q.r.length<=q.a) (fun _=>[(0,.ptr 29 0),(2,.ptr 2 0),(3,.ptr 3 0),(4,.ptr 4 0)]) (fun q=>[(29,PG l q.a o),(2,NZ),(3,NG 14 100),(4,NG 15 101),(100,NR q.rs),(101,NR q.r)]) (fun q=>l.length+1 - q.a) ⟨[],[],a,l.length+1⟩ ⟨hR,by dsimp only;exact⟨zE,zE,zE,zq8 _⟩⟩ (fun q hq=>?_)
  (by
   refine St.aS [(100,none),(101,none)] (by intro b h;exact SX.dB h rfl) ?_ ?_ rfl
   ·exact yd
   ·exact⟨ay.same rfl rfl,ay.same rfl rfl,ay.node rfl rfl (aB.nil rfl),ay.node rfl rfl (aB.nil rfl),ay.dw rfl,ay.dw rfl,trivial⟩)
 obtain⟨rs,r,qa,qf⟩:=q
 dsimp only at hq
 obtain⟨hq1,b1,b2,b3,b4⟩:=hq;obtain⟨qf,rfl⟩:∃k,qf=k+1:=⟨qf - 1,zE⟩
 unfold tY at hq1;show WP _ _ _ (gL [(0,.ptr 29 0),(2,.ptr 2 0),(3,.ptr 3 0),(4,.ptr 4 0)] [(29,PG l qa o),(2,NZ),(3,NG 14 100),(4,NG 15 101),(100,NR rs),(101,NR r)]) _;have h3:=hs qa o zE zE ho
 have h4:=hA qa o zE zE
 cases hr2:X qa o with
 |bad c p k a2 o2=>
  rw[hr2]at h3 hq1;have c3:=h3.bad;have c4:=dK l a2 o2 c p [44];have c6:=jN l a2 o2 c p [93];obtain⟨bb,hbb⟩:∃b,Hide (b=false):=⟨_,⟨rfl⟩⟩;have c5:ak prog 102 [.ptr 29 0,.v (str [59])] [(29,PE l a2 o2 c p)] ⟨.v (.bool bb),[(29,.ent (PE l a2 o2 c p))]⟩:=by rw[hbb.out];exact dK l a2 o2 c p [59]
  refine zg ?_;refine WP.abm 17 (ps:=[29]) hB rfl rfl ?_;refine W.adK ?_ rfl hbb.out;refine zg ?_;subst hq1;refine aJ.tC 25 (ps:=[29]) ?_;exact aR aj.aW (bJ rfl rfl (by simp[Res.nd]) (bO (abu r k))) ⟨rfl,trivial⟩
 |ok k a2=>
  rw[hr2]at h3 hq1 h4;have c3:=h3.ok;obtain⟨j1,j2,j3⟩:=h4;have j4:=nJ k
  dsimp only at hq1
  cases ht:isS l a2 [44]with
  |true=>
   have c4:=eU o hl ht;have g5:=bN ht;rw[if_pos ht]at hq1;refine zg ?_;exact W.next ⟨rs,r++[k],a2+1,qf⟩ ⟨hq1,by dsimp only;exact⟨zE,zE,zE,by simp;omega⟩⟩ (by dsimp only;omega)
    (by
     refine St.aS [(100,some 100),(101,some 17)] (by intro b h;exact SX.dB h rfl) ?_ ?_ rfl
     ·exact yd
     ·exact⟨ay.eq rfl rfl rfl,ay.same rfl rfl,ay.node rfl rfl (aB.own rfl),ay.node rfl rfl (aB.own rfl),ay.row rfl rfl rfl rfl,ay.row rfl rfl zp (bO (aI _).symm),trivial⟩)
  |false=>
   have c4:=dS o ht;rw[if_neg (by rw[ht];decide)]at hq1
   cases ht2:isS l a2 [59]with
   |true=>
    have g5:=bN ht2;rw[if_pos ht2]at hq1;obtain⟨bb,hbb⟩:∃b,Hide (b=true):=⟨_,⟨rfl⟩⟩;have c5:ak prog 102 [.ptr 29 0,.v (str [59])] [(29,PG l a2 o)] ⟨.v (.bool bb),[(29,.ent (PG l (a2+1) o))]⟩:=by rw[hbb.out];exact eU o hl ht2
    refine zg ?_;refine WP.abm 17 (ps:=[29]) hB rfl rfl ?_;refine W.an6 ?_ rfl hbb.out;refine zg ?_;exact W.next ⟨rs++[.mk 15 [] (r++[k])],[],a2+1,qf⟩ ⟨hq1,by dsimp only;exact⟨zE,zE,zE,by simp;omega⟩⟩ (by dsimp only;omega)
     (by
      refine St.aS [(100,some 38),(101,none)] (by intro b h;exact SX.dB h rfl) ?_ ?_ rfl
      ·exact yd
      ·exact⟨ay.eq rfl rfl rfl,ay.same rfl rfl,ay.node rfl rfl (aB.own rfl),ay.node rfl rfl (aB.nil rfl),ay.row rfl rfl zp (bO (abu r k)),ay.dw rfl,trivial⟩)
   |false=>
    rw[if_neg (by rw[ht2];decide)]at hq1
    obtain⟨bb,hbb⟩:∃b,Hide (b=false):=⟨_,⟨rfl⟩⟩;have c5:ak prog 102 [.ptr 29 0,.v (str [59])] [(29,PG l a2 o)] ⟨.v (.bool bb),[(29,.ent (PG l a2 o))]⟩:=by rw[hbb.out];exact dS o ht2
    cases ht3:isS l a2 [93]with
    |true=>
     rw[if_pos ht3]at hq1;have c6:=kR o hl ht3;refine zg ?_;refine WP.abm 17 (ps:=[29]) hB rfl rfl ?_;refine W.adK ?_ rfl hbb.out;refine zg ?_;subst hq1;refine aJ.tC 25 (ps:=[29]) ?_;exact aR aj.aW (bJ rfl rfl (by simp[Res.nd]) (bO (abu r k))) ⟨rfl,trivial⟩
    |false=>
     rw[if_neg (by rw[ht3];decide)]at hq1
     have c6:=mF o ht3;refine zg ?_;refine WP.abm 17 (ps:=[29]) hB rfl rfl ?_;refine W.adK ?_ rfl hbb.out;refine zg ?_;subst hq1;refine aJ.tC 25 (ps:=[29]) ?_;exact aR aj.aW (bJ rfl rfl (by simp[Res.nd]) (bO (abu r k))) ⟨rfl,trivial⟩
def g_par{l:List Tok}{m:Nat}{X:Gr}(hl:l.length<=1000000)(hs:GOK 103 l m X)(hm:m<=a)(ha:a<=l.length)(ho:o<=600):CR rNd 508 [.ptr 81 0] [(81,PP)] l a o (thenS l (X a o) o [41]):=by
 have h3:=hs a o hm ha ho;cases hr2:X a o with
 |bad e p n2 a2 o2=>
  rw[hr2]at h3;have c3:=h3.bad;have c4:=jN l a2 o2 e p [41];show ak _ _ _ _ _;refine ak.fq func508 fun w0 T B E0 hB=>?_
  refine zg ?_;exact aR aj.aW (z7 _) ⟨rfl,rfl,trivial⟩
 |ok n2 a2=>
  rw[hr2]at h3;have c3:=h3.ok;unfold thenS
  dsimp only
  cases ht:isS l a2 [41]with
  |true=>
   have c4:=kR o hl ht;rw[if_pos rfl];show ak _ _ _ _ _;refine ak.fq func508 fun w0 T B E0 hB=>?_
   refine zg ?_;exact aR aj.aW (z7 _) ⟨rfl,rfl,trivial⟩
  |false=>
   have c4:=mF o ht;rw[if_neg zc]
   show ak _ _ _ _ _;refine ak.fq func508 fun w0 T B E0 hB=>?_
   refine zg ?_;exact aR aj.aW (z7 _) ⟨rfl,rfl,trivial⟩
def g_call{l:List Tok}{m:Nat}{X:Gr}{t:Tok}(hl:l.length<=1000000)(hs:GOK 103 l m X)(hA:Adv 1 l m X)(hm:m<=a)(ha:a<=l.length)(ho:o<=600):CR rNd 506 [.ptr 82 0,.ptr 81 0] [(81,PP),(82,KB t)] l a o (jf (fun n=> .mk 13 t.text n.kids) (jV l X [41] a o)):=by
 have h3:=asS (e:=[41]) hl hs hA hm ha ho;cases hr2:jV l X [41] a o with
 |bad e p n2 a2 o2=>
  rw[hr2]at h3;have c3:=h3.bad;show ak _ _ _ _ _;refine ak.fq func506 fun w0 T B E0 hB=>?_
  refine zg ?_;exact aR aj.aW (z7 _) ⟨rfl,rfl,rfl,trivial⟩
 |ok n2 a2=>
  rw[hr2]at h3;have c3:=h3.ok;show ak _ _ _ _ _;refine ak.fq func506 fun w0 T B E0 hB=>?_
  refine zg ?_;exact aR aj.aW (z7 _) ⟨rfl,rfl,rfl,trivial⟩
def g_set{l:List Tok}{m:Nat}{X:Gr}(hl:l.length<=1000000)(hs:GOK 103 l m X)(hA:Adv 1 l m X)(hm:m<=a)(ha:a<=l.length)(ho:o<=600):CR rNd 510 [.ptr 81 0] [(81,PP)] l a o (jf (fun n=> .mk 16 [] n.kids) (jV l X [125] a o)):=by
 have h3:=asS (e:=[125]) hl hs hA hm ha ho;cases hr2:jV l X [125] a o with
 |bad e p n2 a2 o2=>
  rw[hr2]at h3;have c3:=h3.bad;show ak _ _ _ _ _;refine ak.fq func510 fun w0 T B E0 hB=>?_
  refine zg ?_;exact aR aj.aW (z7 _) ⟨rfl,rfl,trivial⟩
 |ok n2 a2=>
  rw[hr2]at h3;have c3:=h3.ok;show ak _ _ _ _ _;refine ak.fq func510 fun w0 T B E0 hB=>?_
  refine zg ?_;exact aR aj.aW (z7 _) ⟨rfl,rfl,trivial⟩
def az7{l:List Tok}{m:Nat}{X:Gr}{N:Nd}(hl:l.length<=1000000)(hs:GOK 103 l m X)(hA:Adv 1 l m X)(hm:m<=a)(ha:a<=l.length)(ho:o<=600):CR rNd 438 [.ptr 83 0,.ptr 81 0] [(81,PP),(83,NB N)] l a o (wK l X N a o):=by
 have mark:zZ 7:=⟨⟩;have h3:=hs a o hm ha ho;have h4:=hA a o hm ha;unfold wK;cases hr2:X a o with
 |bad e p n2 a2 o2=>
  rw[hr2]at h3;have c3:=h3.bad;have c4:=dK l a2 o2 e p [44];have c5:=jN l a2 o2 e p [93];show ak _ _ _ _ _;refine ak.fq func438 fun w0 T B E0 hB=>?_
  refine zg ?_;refine aJ.tC 7 (ps:=[29,81,83]) ?_;exact aR aj.aW (bJ rfl rfl rfl (by first|(simp only[zq7,zqd,aI,zqb];done)|(simp only[zq7,zqd,aI,zqb];rfl))) ⟨rfl,rfl,rfl,trivial⟩
 |ok n2 a2=>
  rw[hr2]at h3 h4;have c3:=h3.ok;obtain⟨j1,j2,j3⟩:=h4
  dsimp only
  cases ht:isS l a2 [44]with
  |false=>
   have c4:=dS o ht;rw[if_neg zc]
   unfold thenS
   dsimp only
   cases ht2:isS l a2 [93]with
   |true=>
    have c5:=kR o hl ht2;rw[if_pos rfl];show ak _ _ _ _ _;refine ak.fq func438 fun w0 T B E0 hB=>?_
    refine zg ?_;refine aJ.tC 7 (ps:=[29,81,83]) ?_;exact aR aj.aW (bJ rfl rfl rfl (by first|(simp only[zq7,zqd,aI,zqb];done)|(simp only[zq7,zqd,aI,zqb];rfl))) ⟨rfl,rfl,rfl,trivial⟩
   |false=>
    have c5:=mF o ht2;rw[if_neg zc]
    show ak _ _ _ _ _;refine ak.fq func438 fun w0 T B E0 hB=>?_
    refine zg ?_;refine aJ.tC 7 (ps:=[29,81,83]) ?_;exact aR aj.aW (bJ rfl rfl rfl (by first|(simp only[zq7,zqd,aI,zqb];done)|(simp only[zq7,zqd,aI,zqb];rfl))) ⟨rfl,rfl,rfl,trivial⟩
  |true=>
   have c4:=eU o hl ht;have g5:=bN ht;rw[if_pos rfl];have h5:=hs (a2+1) o zE zE ho
   cases hr3:X (a2+1) o with
   |bad e p n3 a3 o3=>
    rw[hr3]at h5;have c6:=h5.bad;have c5:=jN l a3 o3 e p [93];show ak _ _ _ _ _;refine ak.fq func438 fun w0 T B E0 hB=>?_
    refine zg ?_;refine aJ.tC 16 (ps:=[29,81,83]) ?_;exact aR aj.aW (bJ rfl rfl rfl (by first|(simp only[zq7,zqd,aI,zqb,zqj];done)|(simp only[zq7,zqd,aI,zqb,zqj];rfl))) ⟨rfl,rfl,rfl,trivial⟩
   |ok n3 a3=>
    rw[hr3]at h5;have c6:=h5.ok;unfold thenS jf
    dsimp only
    cases ht2:isS l a3 [93]with
    |true=>
     have c5:=kR o hl ht2;rw[if_pos rfl];show ak _ _ _ _ _;refine ak.fq func438 fun w0 T B E0 hB=>?_
     refine zg ?_;refine aJ.tC 16 (ps:=[29,81,83]) ?_;exact aR aj.aW (bJ rfl rfl rfl (by first|(simp only[zq7,zqd,aI,zqb,zqj];done)|(simp only[zq7,zqd,aI,zqb,zqj];rfl))) ⟨rfl,rfl,rfl,trivial⟩
    |false=>
     have c5:=mF o ht2;rw[if_neg zc]
     show ak _ _ _ _ _;refine ak.fq func438 fun w0 T B E0 hB=>?_
     refine zg ?_;refine aJ.tC 16 (ps:=[29,81,83]) ?_;exact aR aj.aW (bJ rfl rfl rfl (by first|(simp only[zq7,zqd,aI,zqb,zqj];done)|(simp only[zq7,zqd,aI,zqb,zqj];rfl))) ⟨rfl,rfl,rfl,trivial⟩
def avo{l:List Tok}:GE 437 l:=by
 intro a o e p;have nm1:Named 1 81:=⟨⟩;have c1:=ahH l a o e p;refine ak.fq func437 ?_;intros
 refine zg ?_
 try(refine WP.aG ?_;refine zg ?_)
 exact aR aj.aW (z7 _) ⟨rfl,trivial⟩
def azM{l:List Tok}{m:Nat}{X:Gr}(hl:l.length<=1000000)(hs:GOK 103 l (m+1) X)(hA:Adv 1 l (m+1) X):GOK 437 l m (qF 600 l X):=by
 intro a o hm ha ho;have nm1:Named 1 81:=⟨⟩;have nm2:Named 3 82:=⟨⟩;unfold qF;cases hg:l[a]? with
 |none=>
  have hge:l.length<=a:=List.getElem?_eq_none_iff.1 hg
  have c1:=xR l a o;show ak _ _ _ _ _;refine ak.fq func437 fun w0 T B E0 hB=>?_
  refine zg ?_
  try(refine WP.aG ?_;refine zg ?_)
  exact aR aj.aW (z7 _) ⟨rfl,trivial⟩
 |some t=>
  have hlt:a < l.length:=(zxg.1 hg).1
  obtain⟨tk,tt,tp⟩:=t
  dsimp only
  by_cases hk:tk=1
  ·rw[if_pos hk];show ak _ _ _ _ _;refine ak.fq func437 fun w0 T B E0 hB=>?_
   refine zg ?_
   try(refine WP.aG ?_;refine zg ?_)
   exact aR aj.aW (rP rfl rfl) ⟨rfl,trivial⟩
  ·rw[if_neg hk];have c1:=uQ l a o;cases hn:oP l a with
   |true=>
    rw[hn]at c1;rw[if_pos rfl];cases ht:isS l (a+1) [40]with
    |true=>
     have c2:=eU o hl ht;have g5:=bN ht;rw[if_pos rfl];have h1:=ayJ (f:=506) (l:=l) (t:=⟨tk,tt,tp⟩) (a:=a+2) (o:=o) (k:=fun a o=>jf (fun n=> .mk 13 tt n.kids) (jV l X [41] a o)) ho (fun h=>⟨g_call hl hs hA zE zE zE,(j5 (c':=0) (s':=0) (vO hA zE zE) (fun n=>by rw[zy];omega)).open.mono zE⟩)
     cases hr:ins 600 (fun a o=>jf (fun n=> .mk 13 tt n.kids) (jV l X [41] a o)) (a+2) o with
     |bad e p n a' o'=>
      rw[hr]at h1;have c3:=h1.bad;show ak _ _ _ _ _;refine ak.fq func437 fun w0 T B E0 hB=>?_
      refine zg ?_
      try(refine WP.aG ?_;refine zg ?_)
      exact aR aj.aW (z7 _) ⟨rfl,trivial⟩
     |ok n a'=>
      rw[hr]at h1;have c3:=h1.ok;show ak _ _ _ _ _;refine ak.fq func437 fun w0 T B E0 hB=>?_
      refine zg ?_
      try(refine WP.aG ?_;refine zg ?_)
      exact aR aj.aW (z7 _) ⟨rfl,trivial⟩
    |false=>
     have c2:=dS o ht;rw[if_neg zc]
     show ak _ _ _ _ _;refine ak.fq func437 fun w0 T B E0 hB=>?_
     refine zg ?_
     try(refine WP.aG ?_;refine zg ?_)
     exact aR aj.aW (rP rfl rfl) ⟨rfl,trivial⟩
   |false=>
    rw[hn]at c1;rw[if_neg zc]
    cases ht:isS l a [40]with
    |true=>
     have c2:=eU o hl ht;rw[if_pos rfl];have h1:=aha (f:=508) (l:=l) (a:=a+1) (o:=o) (k:=fun a o=>thenS l (X a o) o [41]) ho (fun h=>⟨g_par hl hs zE zE zE,(qK (hA _ _ zE zE)).open.mono zE⟩)
     cases hr:ins 600 (fun a o=>thenS l (X a o) o [41]) (a+1) o with
     |bad e p n a' o'=>
      rw[hr]at h1;have c3:=h1.bad;show ak _ _ _ _ _;refine ak.fq func437 fun w0 T B E0 hB=>?_
      refine zg ?_
      try(refine WP.aG ?_;refine zg ?_)
      exact aR aj.aW (z7 _) ⟨rfl,trivial⟩
     |ok n a'=>
      rw[hr]at h1;have c3:=h1.ok;show ak _ _ _ _ _;refine ak.fq func437 fun w0 T B E0 hB=>?_
      refine zg ?_
      try(refine WP.aG ?_;refine zg ?_)
      exact aR aj.aW (z7 _) ⟨rfl,trivial⟩
    |false=>
     have c2:=dS o ht;rw[if_neg zc]
     cases ht2:isS l a [91]with
     |true=>
      have c3:=eU o hl ht2;rw[if_pos rfl];have h1:=azh (f:=509) (l:=l) (a:=a+1) (o:=o) (k:=fun a o=>tY l X (l.length+1) [] [] a o) ho (fun h=>⟨g_mat hl hs hA zE zE zE,(abw hA _ _ _ _ _ zE zE).open.mono zE⟩)
      cases hr:ins 600 (fun a o=>tY l X (l.length+1) [] [] a o) (a+1) o with
      |bad e p n a' o'=>
       rw[hr]at h1;have c4:=h1.bad;show ak _ _ _ _ _;refine ak.fq func437 fun w0 T B E0 hB=>?_
       refine zg ?_
       try(refine WP.aG ?_;refine zg ?_)
       exact aR aj.aW (z7 _) ⟨rfl,trivial⟩
      |ok n a'=>
       rw[hr]at h1;have c4:=h1.ok;show ak _ _ _ _ _;refine ak.fq func437 fun w0 T B E0 hB=>?_
       refine zg ?_
       try(refine WP.aG ?_;refine zg ?_)
       exact aR aj.aW (z7 _) ⟨rfl,trivial⟩
     |false=>
      have c3:=dS o ht2;rw[if_neg zc]
      cases ht3:isS l a [123]with
      |true=>
       have c4:=eU o hl ht3;rw[if_pos rfl];have h1:=aha (f:=510) (l:=l) (a:=a+1) (o:=o) (k:=fun a o=>jf (fun n=> .mk 16 [] n.kids) (jV l X [125] a o)) ho (fun h=>⟨g_set hl hs hA zE zE zE,(j5 (c':=0) (s':=0) (vO hA zE zE) (fun n=>by rw[zy];omega)).open.mono zE⟩)
       cases hr:ins 600 (fun a o=>jf (fun n=> .mk 16 [] n.kids) (jV l X [125] a o)) (a+1) o with
       |bad e p n a' o'=>
        rw[hr]at h1;have c5:=h1.bad;show ak _ _ _ _ _;refine ak.fq func437 fun w0 T B E0 hB=>?_
        refine zg ?_
        try(refine WP.aG ?_;refine zg ?_)
        exact aR aj.aW (z7 _) ⟨rfl,trivial⟩
       |ok n a'=>
        rw[hr]at h1;have c5:=h1.ok;show ak _ _ _ _ _;refine ak.fq func437 fun w0 T B E0 hB=>?_
        refine zg ?_
        try(refine WP.aG ?_;refine zg ?_)
        exact aR aj.aW (z7 _) ⟨rfl,trivial⟩
      |false=>
       have c4:=dS o ht3;rw[if_neg zc]
       have c5:=xR l a o;show ak _ _ _ _ _;refine ak.fq func437 fun w0 T B E0 hB=>?_
       refine zg ?_
       try(refine WP.aG ?_;refine zg ?_)
       exact aR aj.aW (z7 _) ⟨rfl,trivial⟩
def awZ{l:List Tok}:GE 332 l:=by
 intro a o e p;have nm1:Named 1 81:=⟨⟩;have nm2:Named 3 83:=⟨⟩;have c1:=avo (l:=l) a o e p;have c2:=dK l a o e p [91];refine ak.fq func332 ?_;intros
 refine zg ?_
 try(refine WP.aG ?_;refine zg ?_)
 refine W.loop (fun _:Unit=>True) (fun _=>[(1,.ptr 81 0),(2,.ptr 2 0),(3,.ptr 83 0)]) (fun _=>[(29,PE l a o e p),(2,NZ),(81,PP),(83,NB nd0)]) (fun _=>0) () trivial (fun _ _=>?_)
 refine zg ?_
 try(refine WP.aG ?_;refine zg ?_)
 exact aR aj.aW (z7 _) ⟨rfl,trivial⟩
structure PoS where
 n:Nd
 a:Nat
 o:Nat
 b:Option (Nat×Nat)
 f:Nat
def poS(l:List Tok)(X:Gr)(q:PoS):Res:=match q.b with
 |none=>wI 600 l X q.f q.n q.a q.o
 |some (e,p)=> .bad e p q.n q.a q.o
def azA{l:List Tok}{m:Nat}{X:Gr}(hl:l.length<=1000000)(hs:GOK 103 l (m+1) X)(hA:Adv 1 l (m+1) X):GOK 332 l m (sW 600 l X):=by
 intro a o hm ha ho;have nm1:Named 1 81:=⟨⟩;have nm2:Named 3 83:=⟨⟩;have h1:=azM hl hs hA a o hm ha ho;have h2:=ahF (K:=600) hA a o hm ha;unfold sW;cases hr:qF 600 l X a o with
 |bad e p n a' o'=>
  rw[hr]at h1;have c1:=h1.bad;have c2:=dK l a' o' e p [91];show ak _ _ _ _ _;refine ak.fq func332 fun w0 T B E0 hB=>?_
  refine zg ?_
  try(refine WP.aG ?_;refine zg ?_)
  refine W.loop (fun _:Unit=>True) (fun _=>[(1,.ptr 81 0),(2,.ptr 2 0),(3,.ptr 83 0)]) (fun _=>[(29,PE l a' o' e p),(2,NZ),(81,PP),(83,NB n)]) (fun _=>0) () trivial (fun _ _=>?_)
  refine zg ?_
  try(refine WP.aG ?_;refine zg ?_)
  exact aR aj.aW (z7 _) ⟨rfl,trivial⟩
 |ok n a'=>
  rw[hr]at h1 h2;have c1:=h1.ok;obtain⟨g1,g2,g3⟩:=h2;have g4:=nJ n
  dsimp only
  generalize hR:wI 600 l X (l.length+1) n a' o=R;refine CR.of ?_;refine ak.fq func332 fun w0 T B E0 hB=>?_
  refine zg ?_
  try(refine WP.aG ?_;refine zg ?_)
  refine W.loop (fun q:PoS=>poS l X q=R/\(q.b=none->q.o=o/\m<=q.a/\q.a<=l.length/\l.length < q.a+q.f)) (fun _=>[(1,.ptr 81 0),(2,.ptr 2 0),(3,.ptr 83 0)]) (fun q=>[(29,PS l q.a q.o q.b),(2,NZ),(81,PP),(83,NB q.n)]) (fun q=>match q.b with|none=>l.length+1 - q.a|some _=>0) ⟨n,a',o,none,l.length+1⟩ ⟨hR,fun _=>by dsimp only;exact⟨rfl,zE,zE,zE⟩⟩ (fun q hq=>?_)
  obtain⟨qn,qa,qo,qb,qf⟩:=q;obtain⟨hq1,hq2⟩:=hq
  dsimp only at hq1 hq2
  cases qb with
  |some b=>
   obtain⟨e,p⟩:=b;have c2:=dK l qa qo e p [91];show WP _ _ _ (gL [(1,.ptr 81 0),(2,.ptr 2 0),(3,.ptr 83 0)] [(29,PE l qa qo e p),(2,NZ),(81,PP),(83,NB qn)]) _;refine zg ?_
   try(refine WP.aG ?_;refine zg ?_)
   subst hq1;exact aR aj.aW (z7 _) ⟨rfl,trivial⟩
  |none=>
   obtain⟨rfl,b1,b2,b3⟩:=hq2 rfl;obtain⟨qf,rfl⟩:∃k,qf=k+1:=⟨qf - 1,zE⟩
   have hq1:wI 600 l X (qf+1) qn qa qo=R:=hq1;unfold wI at hq1;show WP _ _ _ (gL [(1,.ptr 81 0),(2,.ptr 2 0),(3,.ptr 83 0)] [(29,PG l qa qo),(2,NZ),(81,PP),(83,NB qn)]) _;cases ht:isS l qa [91]with
   |true=>
    have c2:=eU qo hl ht;have g5:=bN ht;rw[if_pos ht]at hq1;have h5:=ayU (f:=438) (l:=l) (N:=qn) (a:=qa+1) (o:=qo) (k:=wK l X qn) ho (fun h=>⟨az7 hl hs hA zE zE zE,(adQ hA zE zE).open.mono zE⟩)
    have h6:=pQ (K:=600) (g:=wK l X qn) (a:=qa+1) (o:=qo) (zq6 _) (adQ (n:=qn) (o:=qo+1) hA zE zE)
    cases hr2:ins 600 (wK l X qn) (qa+1) qo with
    |bad e p k a2 o2=>
     rw[hr2]at h5 hq1;have c3:=h5.bad;refine zg ?_
     try(refine WP.aG ?_;refine zg ?_)
     exact W.next ⟨k,a2,o2,some (e,p),0⟩ ⟨hq1,fun h=>by cases h⟩ (by dsimp only;omega)
    |ok k a2=>
     rw[hr2]at h5 hq1 h6;have c3:=h5.ok;obtain⟨j1,j2,j3⟩:=h6;refine zg ?_
     try(refine WP.aG ?_;refine zg ?_)
     exact W.next ⟨k,a2,qo,none,qf⟩ ⟨hq1,fun h=>by dsimp only;exact⟨rfl,zE,zE,zE⟩⟩ (by dsimp only;omega)
   |false=>
    have c2:=dS qo ht;rw[if_neg (by rw[ht];decide)]at hq1
    refine zg ?_
    try(refine WP.aG ?_;refine zg ?_)
    subst hq1;exact aR aj.aW (z7 _) ⟨rfl,trivial⟩
def abq{l:List Tok}:GE 103 l:=az5 (azH (avl (ge_un (azN awZ))))
def axR{l:List Tok}(hl:l.length<=1000000):∀(n m:Nat),l.length+1<=m+n->GOK 103 l m (lev 600 l n).1/\GOK 208 l m (lev 600 l n).2
 |0,m,h=>⟨fun a o hm ha=>zE,fun a o hm ha=>zE⟩
 |n+1,m,h=>by
  obtain⟨h1,h2⟩:=axR hl n (m+1) zE
  obtain⟨a1,a2⟩:=ab6 600 l n (m+1) zE
  have u:GOK 208 l m (unG 600 l (lev 600 l n).1 (lev 600 l n).2):=g_un hl (g_pow hl (azA hl h1 a1) (aeH a1) h2) h2 a2;have au:=arv (K:=600) a1 a2;exact⟨g_exp hl (g_sum hl (ayn hl u au) au) au,u⟩
end
section
section
variable(K:Nat)(l:List Tok)
def sQ(S:Gr):Nat->List Nd->Gr
 |0,_=>fun a o=> .bad 4 a nd0 a o
 |f+1,ks=>fun a o=>if isS l a [125]then .ok (.mk 22 [] ks) (a+1)else match S a o with
  | .bad e p n a' o'=> .bad e p (.mk 22 [] (ks++[n])) a' o'
  | .ok n a'=>sQ S f (ks++[n]) a' o
def auH(S:Gr):Gr:=fun a o=>if isS l a [123]then ins K (fun a o=>sQ l S (l.length+1) [] a o) (a+1) o else .bad 4 a nd0 a (o+1)
def ifG(E B:Gr):Gr:=fun a o=>match E a o with
 | .bad e p n a' o'=> .bad e p (.mk 20 [] [n,nd0]) a' (o'+1)
 | .ok n a'=>match B a' o with
  | .bad e p b a2 o2=> .bad e p (.mk 20 [] [n,b]) a2 o2
  | .ok b a2=>if isS l a2 [101,108,115,101]then jf (fun c=> .mk 20 [] [n,b,c]) (B (a2+1) o)else .ok (.mk 20 [] [n,b]) a2
def aui(E B:Gr):Gr:=fun a o=>if oP l a then
  (if isS l (a+1) [61]then(match E (a+2) o with
   | .bad e p n a' o'=> .bad e p (.mk 21 (txt l a) [n,nd0,nd0]) a' (o'+1)
   | .ok n a'=>if isS l a' [46,46]then(match E (a'+1) o with
     | .bad e p n2 a2 o2=> .bad e p (.mk 21 (txt l a) [n,n2,nd0]) a2 (o2+1)
     | .ok n2 a2=>jf (fun b=> .mk 21 (txt l a) [n,n2,b]) (B a2 o))
    else .bad 4 a' (.mk 21 (txt l a) [n,nd0,nd0]) a' (o+1))
  else .bad 4 (a+1) (.mk 21 (txt l a) [nd0,nd0,nd0]) (a+1) (o+1))
 else .bad 4 a (.mk 21 [] [nd0,nd0,nd0]) a (o+1)
def stG(E B:Gr):Gr:=fun a o=>if isS l a [105,102]then ifG l E B (a+1) o
 else if isS l a [102,111,114]then aui l E B (a+1) o
 else if oP l a&&isS l (a+1) [61]then thenS l (jf (fun n=> .mk 18 (txt l a) [n]) (E (a+2) o)) o [59]
 else thenS l (jf (fun n=> .mk 19 [] [n]) (E a o)) o [59]
def ajV:Nat->Gr
 |0=>fun a o=> .bad 4 a nd0 a o
 |n+1=>stG l (lev K l (l.length+1)).1 (auH K l (ajV n))
end
def adF{l:List Tok}{m:Nat}{S:Gr}(h:Adv 2 l m S):∀(f:Nat) (ks:List Nd) (a o:Nat),m<=a->a<=l.length->nE (jy ks) 0 2 l a o (sQ l S f ks a o)
 |0,ks,a,o,hm,ha=>nN zE
 |f+1,ks,a,o,hm,ha=>by
  unfold sQ
  split
  ·rename_i hs;have:=bN hs;exact⟨by rw[fT];omega,zE,zE⟩
  ·have h1:=h a o hm ha;cases hr:S a o with
   |bad e p n a' o'=>rw[hr]at h1;exact h1
   |ok n a'=>
    rw[hr]at h1;obtain⟨h1,h3,h2⟩:=h1;have hh:=adF h f (ks++[n]) a' o zE h2
    refine hh.mono (zq6 _) zE ?_
    rw[fB,aY,bU];omega
def amV{l:List Tok}{m:Nat}{S:Gr}(h:Adv 2 l (m+1) S):Adv 2 l m (auH K l S):=by
 intro a o hm ha;unfold auH
 split
 ·rename_i hs;have:=bN hs;have hh:=pQ (K:=K) (g:=fun a o=>sQ l S (l.length+1) [] a o) (a:=a+1) (o:=o) zE (adF h (l.length+1) [] (a+1) (o+1) zE zE)
  exact hh.mono (zq6 _) zE (by rw[bU];omega)
 ·exact⟨zE,zE⟩
def azu{l:List Tok}{m:Nat}{E B:Gr}(he:Adv 1 l m E)(hb:Adv 2 l m B)(hm:m<=a)(ha:a<=l.length):nE 1 0 2 l a o (ifG l E B a o):=by
 have h1:=he a o hm ha;unfold ifG;cases hr:E a o with
 |bad e p n a' o'=>rw[hr]at h1;exact⟨by have:=h1.1;omega,by have:=h1.2;omega⟩
 |ok n a'=>
  rw[hr]at h1;obtain⟨h1,h3,h2⟩:=h1;have h4:=hb a' o zE h2
  dsimp only
  cases hr2:B a' o with
  |bad e p n a' o'=>rw[hr2]at h4;exact h4
  |ok b a2=>
   rw[hr2]at h4;obtain⟨h4,h6,h5⟩:=h4
   dsimp only
   split
   ·rename_i hs;have:=bN hs;have hh:=j5 (f:=fun c=>Nd.mk 20 [] [n,b,c]) (c':=0) (s':=1+cnt n+cnt b) (hb (a2+1) o zE zE) (fun k=>by rw[fT,aY,aY,aY,bU];omega)
    exact hh.mono (zq6 _) zE zE
   ·exact⟨by rw[fT,aY,aY,bU];omega,zE,h5⟩
def av1{l:List Tok}{m:Nat}{E B:Gr}(he:Adv 1 l m E)(hb:Adv 2 l m B)(hm:m<=a)(ha:a<=l.length):nE 0 0 2 l a o (aui l E B a o):=by
 unfold aui
 split
 ·split
  ·rename_i hs;have:=bN hs;have h1:=he (a+2) o zE zE
   cases hr:E (a+2) o with
   |bad e p n a' o'=>rw[hr]at h1;exact⟨by have:=h1.1;omega,by have:=h1.2;omega⟩
   |ok n a'=>
    rw[hr]at h1;obtain⟨h1,h3,h2⟩:=h1
    dsimp only
    split
    ·rename_i hs2;have:=bN hs2;have h4:=he (a'+1) o zE zE
     cases hr2:E (a'+1) o with
     |bad e p n a' o'=>rw[hr2]at h4;exact⟨by have:=h4.1;omega,by have:=h4.2;omega⟩
     |ok n2 a2=>
      rw[hr2]at h4;obtain⟨h4,h6,h5⟩:=h4;have hh:=j5 (f:=fun b=>Nd.mk 21 (txt l a) [n,n2,b]) (c':=0) (s':=1+cnt n+cnt n2) (hb a2 o zE h5) (fun k=>by rw[fT,aY,aY,aY,bU];omega)
      exact hh.mono (zq6 _) zE zE
    ·exact⟨zE,zE⟩
  ·exact⟨zE,zE⟩
 ·exact⟨zE,zE⟩
def a0e{l:List Tok}{m:Nat}{E B:Gr}(he:Adv 1 l m E)(hb:Adv 2 l (m+1) B):Adv 2 l m (stG l E B):=by
 have he':Adv 1 l (m+1) E:=fun a o hm ha=>he a o zE ha
 intro a o hm ha;unfold stG
 split
 ·rename_i hs;have:=bN hs;exact(azu he' hb (o:=o) zE zE).mono (zq6 _) zE zE
 ·split
  ·rename_i hs;have:=bN hs;exact(av1 he' hb (o:=o) zE zE).mono (zq6 _) zE zE
  ·split
   ·rename_i hs;rw[zx4]at hs;have:=bN hs.2;have hh:=qK (t:=[59]) (j5 (f:=fun n=>Nd.mk 18 (txt l a) [n]) (c':=0) (s':=1) (he (a+2) o zE zE) (fun k=>by rw[fT,aY,bU];omega))
    exact hh.mono zE zE zE
   ·have hh:=qK (t:=[59]) (j5 (f:=fun n=>Nd.mk 19 [] [n]) (c':=0) (s':=1) (he a o hm ha) (fun k=>by rw[fT,aY,bU];omega))
    exact hh.mono zE zE zE
def yF(K:Nat)(l:List Tok):∀(n m:Nat),l.length+1<=m+n->Adv 2 l m (ajV K l n)
 |0,m,h=>fun a o hm ha=>zE
 |n+1,m,h=>a0e (fun a o hm ha=>(ab6 K l (l.length+1) m zE).1 a o hm ha) (amV fun a o hm ha=>yF K l n (m+1) zE a o zE ha)
def boS(l:List Tok)(S:Gr)(q:LiS):Res:=match q.b with
 |none=>sQ l S q.f q.ks q.a q.o
 |some (e,p)=> .bad e p (.mk 22 [] q.ks) q.a q.o
def ay8{l:List Tok}{m:Nat}{S:Gr}(hl:l.length<=1000000)(hs:GOK 64 l m S)(hA:Adv 2 l m S)(hm:m<=a)(ha:a<=l.length)(ho:o<=600):
  CR rNd 150 [.ptr 81 0] [(81,PP)] l a o (sQ l S (l.length+1) [] a o):=by
 generalize hR:sQ l S (l.length+1) [] a o=R;refine CR.of ?_;refine ak.fq func150 ?_;intros
 refine zg ?_
 try(refine WP.aG ?_;refine zg ?_)
 refine W.loop (fun q:LiS=>boS l S q=R/\(q.b=none->q.o=o/\m<=q.a/\q.a<=l.length/\l.length < q.a+q.f/\q.ks.length<=q.a)) (fun _=>[(0,.ptr 81 0),(1,.ptr 1 0),(2,.ptr 2 0)]) (fun q=>[(29,PS l q.a q.o q.b),(81,PP),(1,NZ),(2,NG 22 100),(100,NR q.ks)]) (fun q=>match q.b with|none=>l.length+1 - q.a|some _=>0) ⟨[],a,o,none,l.length+1⟩ ⟨hR,fun _=>by dsimp only;exact⟨rfl,zE,zE,zE,zq8 _⟩⟩ (fun q hq=>?_)
  (by
   refine St.aS [(100,none)] (by intro b h;exact SX.dB h rfl) ?_ ?_ rfl
   ·exact yd
   ·exact⟨ay.same rfl rfl,ay.same rfl rfl,ay.same rfl rfl,ay.node rfl rfl (aB.nil rfl),ay.dw rfl,trivial⟩)
 obtain⟨qk,qa,qo,qb,qf⟩:=q;obtain⟨hq1,hq2⟩:=hq
 dsimp only at hq1 hq2
 cases qb with
 |some b=>
  obtain⟨ee,p⟩:=b;show WP _ _ _ (gL [(0,.ptr 81 0),(1,.ptr 1 0),(2,.ptr 2 0)] [(29,PE l qa qo ee p),(81,PP),(1,NZ),(2,NG 22 100),(100,NR qk)]) _;refine zg ?_
  try(refine WP.aG ?_;refine zg ?_)
  subst hq1;refine aJ.tC 100 (ps:=[29,81]) ?_;exact aR aj.aW (bJ rfl rfl rfl rfl) ⟨rfl,rfl,trivial⟩
 |none=>
  obtain⟨rfl,b1,b2,b3,b4⟩:=hq2 rfl;obtain⟨qf,rfl⟩:∃k,qf=k+1:=⟨qf - 1,zE⟩
  show WP _ _ _ (gL [(0,.ptr 81 0),(1,.ptr 1 0),(2,.ptr 2 0)] [(29,PG l qa qo),(81,PP),(1,NZ),(2,NG 22 100),(100,NR qk)]) _;have hq1:sQ l S (qf+1) qk qa qo=R:=hq1;unfold sQ at hq1;cases ht:isS l qa [125]with
  |true=>
   rw[if_pos ht]at hq1;have c3:=eU qo hl ht;refine zg ?_
   try(refine WP.aG ?_;refine zg ?_)
   subst hq1;refine aJ.tC 100 (ps:=[29,81]) ?_;exact aR aj.aW (bJ rfl rfl rfl rfl) ⟨rfl,rfl,trivial⟩
  |false=>
   rw[if_neg (by rw[ht];decide)]at hq1
   have c3:=dS qo ht;have h3:=hs qa qo zE zE ho
   have h4:=hA qa qo zE zE
   cases hr2:S qa qo with
   |bad c p k a2 o2=>
    rw[hr2]at h3 hq1;have c4:=h3.bad;refine zg ?_
    try(refine WP.aG ?_;refine zg ?_)
    exact W.next ⟨qk++[k],a2,o2,some (c,p),0⟩ ⟨hq1,fun h=>by cases h⟩ (by dsimp only;omega)
     (by
      refine St.aS [(100,some 19)] (by intro b h;exact SX.dB h rfl) ?_ ?_ rfl
      ·exact yd
      ·exact⟨ay.eq rfl rfl rfl,ay.same rfl rfl,ay.same rfl rfl,ay.node rfl rfl (aB.own rfl),ay.row rfl rfl zp (bO (aI _).symm),trivial⟩)
   |ok k a2=>
    rw[hr2]at h3 hq1 h4;have c4:=h3.ok;obtain⟨j1,j2,j3⟩:=h4;have j4:=nJ k;refine zg ?_
    try(refine WP.aG ?_;refine zg ?_)
    exact W.next ⟨qk++[k],a2,qo,none,qf⟩ ⟨hq1,fun h=>by dsimp only;exact⟨rfl,zE,zE,zE,by simp;omega⟩⟩ (by dsimp only;omega)
     (by
      refine St.aS [(100,some 19)] (by intro b h;exact SX.dB h rfl) ?_ ?_ rfl
      ·exact yd
      ·exact⟨ay.eq rfl rfl rfl,ay.same rfl rfl,ay.same rfl rfl,ay.node rfl rfl (aB.own rfl),ay.row rfl rfl zp (bO (aI _).symm),trivial⟩)
def g_blk{l:List Tok}{m:Nat}{S:Gr}(hl:l.length<=1000000)(hs:GOK 64 l (m+1) S)(hA:Adv 2 l (m+1) S):GOK 104 l m (auH 600 l S):=by
 intro a o hm ha ho;have nm1:Named 1 81:=⟨⟩;unfold auH;cases ht:isS l a [123]with
 |true=>
  rw[if_pos rfl];have c1:=kR o hl ht;have g5:=bN ht;have h1:=aha (f:=150) (l:=l) (a:=a+1) (o:=o) (k:=fun a o=>sQ l S (l.length+1) [] a o) ho (fun h=>⟨ay8 hl hs hA zE zE zE,(adF hA _ _ _ _ zE zE).open.mono zE⟩)
  cases hr:ins 600 (fun a o=>sQ l S (l.length+1) [] a o) (a+1) o with
  |bad e p n a' o'=>
   rw[hr]at h1;have c3:=h1.bad;show ak _ _ _ _ _;refine ak.fq func104 fun w0 T B E0 hB=>?_
   refine zg ?_
   try(refine WP.aG ?_;refine zg ?_)
   exact aR aj.aW (z7 _) ⟨rfl,trivial⟩
  |ok n a'=>
   rw[hr]at h1;have c3:=h1.ok;show ak _ _ _ _ _;refine ak.fq func104 fun w0 T B E0 hB=>?_
   refine zg ?_
   try(refine WP.aG ?_;refine zg ?_)
   exact aR aj.aW (z7 _) ⟨rfl,trivial⟩
 |false=>
  rw[if_neg zc]
  have c1:=mF o ht;have c2:=aqa (f:=150) (l:=l) (a:=a) (o:=o) (e:=4) (p:=a) zE
  show ak _ _ _ _ _;refine ak.fq func104 fun w0 T B E0 hB=>?_
  refine zg ?_
  try(refine WP.aG ?_;refine zg ?_)
  exact aR aj.aW (z7 _) ⟨rfl,trivial⟩
def zU(l:List Tok)(a:Nat)(e p:Nat)(ho:o<=1000000):ak prog 104 [.ptr 29 0] [(29,PE l a o e p)] ⟨rNd nd0,[(29,.ent (PE l a (o+1) e p))]⟩:=by
 have nm1:Named 1 81:=⟨⟩;have c1:=jN l a o e p [123];have c2:=aqa (f:=150) (l:=l) (a:=a) (o:=o) (e:=e) (p:=p) ho;refine ak.fq func104 ?_;intros
 refine zg ?_
 try(refine WP.aG ?_;refine zg ?_)
 exact aR aj.aW (z7 _) ⟨rfl,trivial⟩
end
section
def g_if{l:List Tok}{m:Nat}{X S:Gr}(hl:l.length<=1000000)(hs:GOK 103 l m X)(hA:Adv 1 l m X)(hb:GOK 104 l m S)(bA:Adv 2 l m S)(hm:m<=a+1)(ha:a<=l.length)(ho:o<=600)(hi:isS l a [105,102]=true):
  CR rNd 64 [.ptr 29 0] [] l a o (ifG l X S (a+1) o):=by
 have mark:zZ 14:=⟨⟩;have g5:=bN hi;have k1:=eU o hl hi;have h1:=hs (a+1) o hm zE ho
 have h2:=hA (a+1) o hm zE
 unfold ifG;cases hr:X (a+1) o with
 |bad e p n a' o'=>
  rw[hr]at h1 h2;have k2:=h1.bad;obtain⟨j1,j2⟩:=h2;have k3:=zU l a' (o:=o') e p zE
  have k4:=dK l a' (o'+1) e p [101,108,115,101];show ak _ _ _ _ _;refine ak.fq func64 fun w0 T B E0 hB=>?_
  refine zg ?_;refine aJ.tC 21 (ps:=[29]) ?_;exact aR aj.aW (bJ rfl rfl rfl (by first|(simp only[zq7,zqd,aI,zqb,zqj];done)|(simp only[zq7,zqd,aI,zqb,zqj];rfl))) ⟨rfl,trivial⟩
 |ok n a'=>
  rw[hr]at h1 h2;have k2:=h1.ok;obtain⟨j1,j2,j3⟩:=h2;have h3:=hb a' o zE j3 ho
  have h4:=bA a' o zE j3
  dsimp only
  cases hr2:S a' o with
  |bad e p b a2 o2=>
   rw[hr2]at h3;have k3:=h3.bad;have k4:=dK l a2 o2 e p [101,108,115,101];show ak _ _ _ _ _;refine ak.fq func64 fun w0 T B E0 hB=>?_
   refine zg ?_;refine aJ.tC 21 (ps:=[29]) ?_;exact aR aj.aW (bJ rfl rfl rfl (by first|(simp only[zq7,zqd,aI,zqb,zqj];done)|(simp only[zq7,zqd,aI,zqb,zqj];rfl))) ⟨rfl,trivial⟩
  |ok b a2=>
   rw[hr2]at h3 h4;have k3:=h3.ok;obtain⟨i1,i2,i3⟩:=h4
   dsimp only
   cases ht:isS l a2 [101,108,115,101]with
   |false=>
    rw[if_neg zc]
    have k4:=dS o ht;show ak _ _ _ _ _;refine ak.fq func64 fun w0 T B E0 hB=>?_
    refine zg ?_;refine aJ.tC 21 (ps:=[29]) ?_;exact aR aj.aW (bJ rfl rfl rfl (by first|(simp only[zq7,zqd,aI,zqb,zqj];done)|(simp only[zq7,zqd,aI,zqb,zqj];rfl))) ⟨rfl,trivial⟩
   |true=>
    rw[if_pos rfl];have k4:=eU o hl ht;have g6:=bN ht;have h5:=hb (a2+1) o zE zE ho
    cases hr3:S (a2+1) o with
    |bad e p c a3 o3=>
     rw[hr3]at h5;have k5:=h5.bad;show ak _ _ _ _ _;refine ak.fq func64 fun w0 T B E0 hB=>?_
     refine zg ?_;refine aJ.tC 30 (ps:=[29]) ?_;exact aR aj.aW (bJ rfl rfl rfl (by first|(simp only[zq7,zqd,aI,zqb,zqj];done)|(simp only[zq7,zqd,aI,zqb,zqj];rfl))) ⟨rfl,trivial⟩
    |ok c a3=>
     rw[hr3]at h5;have k5:=h5.ok;show ak _ _ _ _ _;refine ak.fq func64 fun w0 T B E0 hB=>?_
     refine zg ?_;refine aJ.tC 30 (ps:=[29]) ?_;exact aR aj.aW (bJ rfl rfl rfl (by first|(simp only[zq7,zqd,aI,zqb,zqj];done)|(simp only[zq7,zqd,aI,zqb,zqj];rfl))) ⟨rfl,trivial⟩
def g_for{l:List Tok}{m:Nat}{X S:Gr}(hl:l.length<=1000000)(hs:GOK 103 l m X)(hA:Adv 1 l m X)(hb:GOK 104 l m S)(hm:m<=a+1)(ha:a<=l.length)(ho:o<=600)(hf:isS l a [105,102]=false)(hi:isS l a [102,111,114]=true):
  CR rNd 64 [.ptr 29 0] [] l a o (aui l X S (a+1) o):=by
 have g5:=bN hi;have k0:=dS o hf;have k1:=eU o hl hi;unfold aui;cases hn:oP l (a+1)with
 |false=>
  rw[if_neg zc]
  have k2:=axq o hn;have k3:=jN l (a+1) o 4 (a+1) [61];have k4:=abq (l:=l) (a+1) o 4 (a+1);have k5:=jN l (a+1) o 4 (a+1) [46,46];have k6:=zU l (a+1) (o:=o) 4 (a+1) zE
  show ak _ _ _ _ _;refine ak.fq func64 fun w0 T B E0 hB=>?_
  refine zg ?_;exact aR aj.aW (bJ rfl rfl rfl (by first|(simp only[zq7,zqd,aI,zqb,zqj];done)|(simp only[zq7,zqd,aI,zqb,zqj];rfl))) ⟨rfl,trivial⟩
 |true=>
  rw[if_pos rfl];have k2:=anu o hl hn;have g6:=agF hn;cases ht:isS l (a+1+1) [61]with
  |false=>
   rw[if_neg zc]
   have k3:=mF o ht;have k4:=abq (l:=l) (a+1+1) o 4 (a+1+1);have k5:=jN l (a+1+1) o 4 (a+1+1) [46,46];have k6:=zU l (a+1+1) (o:=o) 4 (a+1+1) zE
   show ak _ _ _ _ _;refine ak.fq func64 fun w0 T B E0 hB=>?_
   refine zg ?_;exact aR aj.aW (bJ rfl rfl rfl (by first|(simp only[zq7,zqd,aI,zqb,zqj];done)|(simp only[zq7,zqd,aI,zqb,zqj];rfl))) ⟨rfl,trivial⟩
  |true=>
   rw[if_pos rfl];have k3:=kR o hl ht;have g7:=bN ht;have h1:=hs (a+1+2) o zE zE ho
   have h2:=hA (a+1+2) o zE zE
   cases hr:X (a+1+2) o with
   |bad e p n a' o'=>
    rw[hr]at h1 h2;have k4:=h1.bad;obtain⟨j1,j2⟩:=h2;have k5:=jN l a' o' e p [46,46];have k6:=abq (l:=l) a' o' e p;have k7:=zU l a' (o:=o') e p zE
    show ak _ _ _ _ _;refine ak.fq func64 fun w0 T B E0 hB=>?_
    refine zg ?_;exact aR aj.aW (bJ rfl rfl rfl (by first|(simp only[zq7,zqd,aI,zqb,zqj];done)|(simp only[zq7,zqd,aI,zqb,zqj];rfl))) ⟨rfl,trivial⟩
   |ok n a'=>
    rw[hr]at h1 h2;have k4:=h1.ok;obtain⟨j1,j2,j3⟩:=h2
    dsimp only
    cases ht2:isS l a' [46,46]with
    |false=>
     rw[if_neg zc]
     have k5:=mF o ht2;have k6:=abq (l:=l) a' o 4 a';have k7:=zU l a' (o:=o) 4 a' zE
     show ak _ _ _ _ _;refine ak.fq func64 fun w0 T B E0 hB=>?_
     refine zg ?_;exact aR aj.aW (bJ rfl rfl rfl (by first|(simp only[zq7,zqd,aI,zqb,zqj];done)|(simp only[zq7,zqd,aI,zqb,zqj];rfl))) ⟨rfl,trivial⟩
    |true=>
     rw[if_pos rfl];have k5:=kR o hl ht2;have g8:=bN ht2;have h3:=hs (a'+1) o zE zE ho
     have h4:=hA (a'+1) o zE zE
     cases hr2:X (a'+1) o with
     |bad e p n2 a2 o2=>
      rw[hr2]at h3 h4;have k6:=h3.bad;obtain⟨j1,j2⟩:=h4;have k7:=zU l a2 (o:=o2) e p zE
      show ak _ _ _ _ _;refine ak.fq func64 fun w0 T B E0 hB=>?_
      refine zg ?_;exact aR aj.aW (bJ rfl rfl rfl (by first|(simp only[zq7,zqd,aI,zqb,zqj];done)|(simp only[zq7,zqd,aI,zqb,zqj];rfl))) ⟨rfl,trivial⟩
     |ok n2 a2=>
      rw[hr2]at h3 h4;have k6:=h3.ok;obtain⟨i1,i2,i3⟩:=h4
      dsimp only
      have h5:=hb a2 o zE i3 ho
      cases hr3:S a2 o with
      |bad e p c a3 o3=>
       rw[hr3]at h5;have k7:=h5.bad;show ak _ _ _ _ _;refine ak.fq func64 fun w0 T B E0 hB=>?_
       refine zg ?_;exact aR aj.aW (bJ rfl rfl rfl (by first|(simp only[zq7,zqd,aI,zqb,zqj];done)|(simp only[zq7,zqd,aI,zqb,zqj];rfl))) ⟨rfl,trivial⟩
      |ok c a3=>
       rw[hr3]at h5;have k7:=h5.ok;show ak _ _ _ _ _;refine ak.fq func64 fun w0 T B E0 hB=>?_
       refine zg ?_;exact aR aj.aW (bJ rfl rfl rfl (by first|(simp only[zq7,zqd,aI,zqb,zqj];done)|(simp only[zq7,zqd,aI,zqb,zqj];rfl))) ⟨rfl,trivial⟩
def HT(l:List Tok):Prop:=∀(i:Nat) (t:Tok),l[i]? =some t->t.text=[61]->t.kind≠1
def atv{l:List Tok}(hT:HT l){t:Tok}(ht:l[a]? =some t):isS l a [61]=decide (t.text=[61]):=by
 unfold isS;rw[ht]
 dsimp only
 by_cases h:t.text=[61]
 ·simp[h,hT a t ht h]
 ·simp[h]
def g_let{l:List Tok}{m:Nat}{X:Gr}(hl:l.length<=1000000)(hT:HT l)(hs:GOK 103 l m X)(hA:Adv 1 l m X)(hm:m<=a+2)(ha:a<=l.length)(ho:o<=600)(hf:isS l a [105,102]=false)(hi:isS l a [102,111,114]=false)(hn:oP l a=true)(he:isS l (a+1) [61]=true):
  CR rNd 64 [.ptr 29 0] [] l a o (thenS l (jf (fun n=> .mk 18 (txt l a) [n]) (X (a+2) o)) o [59]):=by
 have k0:=dS o hf;have k1:=dS o hi;have k2:=uQ l a o;rw[hn]at k2;have k3:=anu o hl hn;have k4:=kR o hl he;have g5:=bN he;obtain⟨⟨tk,tt,tp⟩,ht⟩:∃t,l[a+1]? =some t:=⟨_,zyh g5⟩
 rw[atv hT ht]at he
 dsimp only at he
 have h1:=hs (a+2) o zE zE ho
 cases hr:X (a+2) o with
 |bad e p n a' o'=>
  rw[hr]at h1;have k5:=h1.bad;have k6:=jN l a' o' e p [59];show ak _ _ _ _ _;refine ak.fq func64 fun w0 T B E0 hB=>?_
  refine zg ?_;exact aR aj.aW (bJ rfl rfl rfl (by first|(simp only[zq7,zqd,aI,zqb,zqj];done)|(simp only[zq7,zqd,aI,zqb,zqj];rfl))) ⟨rfl,trivial⟩
 |ok n a'=>
  rw[hr]at h1;have k5:=h1.ok;unfold thenS jf
  dsimp only
  cases ht2:isS l a' [59]with
  |true=>
   rw[if_pos rfl];have k6:=kR o hl ht2;show ak _ _ _ _ _;refine ak.fq func64 fun w0 T B E0 hB=>?_
   refine zg ?_;exact aR aj.aW (bJ rfl rfl rfl (by first|(simp only[zq7,zqd,aI,zqb,zqj];done)|(simp only[zq7,zqd,aI,zqb,zqj];rfl))) ⟨rfl,trivial⟩
  |false=>
   rw[if_neg zc]
   have k6:=mF o ht2;show ak _ _ _ _ _;refine ak.fq func64 fun w0 T B E0 hB=>?_
   refine zg ?_;exact aR aj.aW (bJ rfl rfl rfl (by first|(simp only[zq7,zqd,aI,zqb,zqj];done)|(simp only[zq7,zqd,aI,zqb,zqj];rfl))) ⟨rfl,trivial⟩
def ayS{l:List Tok}{m:Nat}{X:Gr}(hl:l.length<=1000000)(hT:HT l)(hs:GOK 103 l m X)(hm:m<=a)(ha:a<=l.length)(ho:o<=600)(hf:isS l a [105,102]=false)(hi:isS l a [102,111,114]=false)(hn:(oP l a&&isS l (a+1) [61])=false):
  CR rNd 64 [.ptr 29 0] [] l a o (thenS l (jf (fun n=> .mk 19 [] [n]) (X a o)) o [59]):=by
 have k0:=dS o hf;have k1:=dS o hi;have k2:=uQ l a o;have h1:=hs a o hm ha ho
 -- what is behind,whatever it be
 have key:∀{n a' o'} {b:Option (Nat×Nat)},ak prog 103 [.ptr 29 0] [(29,PG l a o)] ⟨rNd n,[(29,.ent (PS l a' o' b))]⟩->∀{a2 o2 b2},ak prog 106 [.ptr 29 0,.v (str [59])] [(29,PS l a' o' b)] ⟨.tup [],[(29,.ent (PS l a2 o2 b2))]⟩->
   ak prog 64 [.ptr 29 0] [(29,PG l a o)] ⟨rNd (.mk 19 [] [n]),[(29,.ent (PS l a2 o2 b2))]⟩:=by
  intro n a' o' b k5 a2 o2 b2 k6;cases hn1:oP l a with
  |false=>
   rw[hn1]at k2;show ak _ _ _ _ _;refine ak.fq func64 fun w0 T B E0 hB=>?_
   refine zg ?_;exact aR aj.aW (bJ rfl rfl rfl (by first|(simp only[zq7,zqd,aI,zqb,zqj];done)|(simp only[zq7,zqd,aI,zqb,zqj];rfl))) ⟨rfl,trivial⟩
  |true=>
   rw[hn1]at k2 hn;have he:isS l (a+1) [61]=false:=by simpa using hn
   by_cases hlt:a+1 < l.length
   ·obtain⟨⟨tk,tt,tp⟩,ht⟩:∃t,l[a+1]? =some t:=⟨_,zyh hlt⟩
    rw[atv hT ht]at he
    dsimp only at he
    show ak _ _ _ _ _;refine ak.fq func64 fun w0 T B E0 hB=>?_
    refine zg ?_;exact aR aj.aW (bJ rfl rfl rfl (by first|(simp only[zq7,zqd,aI,zqb,zqj];done)|(simp only[zq7,zqd,aI,zqb,zqj];rfl))) ⟨rfl,trivial⟩
   ·have g6:=agF hn1;show ak _ _ _ _ _;refine ak.fq func64 fun w0 T B E0 hB=>?_
    refine zg ?_;exact aR aj.aW (bJ rfl rfl rfl (by first|(simp only[zq7,zqd,aI,zqb,zqj];done)|(simp only[zq7,zqd,aI,zqb,zqj];rfl))) ⟨rfl,trivial⟩
 cases hr:X a o with
 |bad e p n a' o'=>
  rw[hr]at h1;exact key (b:=some (e,p)) h1.bad (b2:=some (e,p)) (jN l a' o' e p [59])
 |ok n a'=>
  rw[hr]at h1;unfold thenS jf
  dsimp only
  cases ht2:isS l a' [59]with
  |true=>
   rw[if_pos rfl];exact key (b:=none) h1.ok (b2:=none) (kR o hl ht2)
  |false=>
   rw[if_neg zc]
   exact key (b:=none) h1.ok (b2:=some (4,a')) (mF o ht2)
def g_st{l:List Tok}{m:Nat}{X S:Gr}(hl:l.length<=1000000)(hT:HT l)(hs:GOK 103 l m X)(hA:Adv 1 l m X)(hb:GOK 104 l (m+1) S)(bA:Adv 2 l (m+1) S):GOK 64 l m (stG l X S):=by
 intro a o hm ha ho;have hs':GOK 103 l (m+1) X:=fun a o hm ha=>hs a o zE ha
 have hA':Adv 1 l (m+1) X:=fun a o hm ha=>hA a o zE ha
 unfold stG;cases h1:isS l a [105,102]with
 |true=>exact g_if hl hs' hA' hb bA zE ha ho h1
 |false=>
  cases h2:isS l a [102,111,114]with
  |true=>exact g_for hl hs' hA' hb zE ha ho h1 h2
  |false=>
   cases h3:oP l a&&isS l (a+1) [61]with
   |true=>
    have h4:=h3;rw[zx4]at h4;exact g_let hl hT hs' hA' zE ha ho h1 h2 h4.1 h4.2
   |false=>exact ayS hl hT hs hm ha ho h1 h2 h3
def aqB{l:List Tok}(hl:l.length<=1000000)(hT:HT l):∀(n m:Nat),l.length+1<=m+n->GOK 64 l m (ajV 600 l n)
 |0,m,h=>fun a o hm ha=>zE
 |n+1,m,h=>g_st hl hT (fun a o hm ha ho=>(axR hl (l.length+1) m zE).1 a o hm ha ho) (fun a o hm ha=>(ab6 600 l (l.length+1) m zE).1 a o hm ha) (g_blk hl (fun a o hm ha ho=>aqB hl hT n (m+1) zE a o zE ha ho) (fun a o hm ha=>yF 600 l n (m+1) zE a o zE ha)) (amV fun a o hm ha=>yF 600 l n (m+1) zE a o zE ha)
end
section
section
def ayx(n:Nd):cnt n=1+jy n.kids:=by cases n;rw[fT];rfl
def zY:∀L:List Nd,jy (L.flatMap Nd.kids)+L.length=jy L
 |[]=>by simp[bU]
 |k::ks=>by rw[zq7,fB,aY,ayx,zx6,<-zY ks];omega
def apw(L:List Nd)(j:Nat):jy ((L.take j).flatMap Nd.kids)<=jy L:=by
 have h1:=zY (L.take j);have h2:jy (L.take j++L.drop j)=jy L:=by rw[zv5]
 rw[fB]at h2;omega
def ait(L:List Nd)(j:Nat):((L.take j).flatMap Nd.kids).length<=jy L:=zxf (xY _) (apw L j)
def ae7{L:List Nd}{j:Nat}{n:Nd}(h:L[j]? =some n):(L.take (j+1)).flatMap Nd.kids=(L.take j).flatMap Nd.kids++n.kids:=by
 rw[zw7,h];simp
mutual
def dep:Nd->Nat
 | .mk _ _ ks=>if ks.isEmpty then 0 else 1+lD ks
def lD:List Nd->Nat
 |[]=>0
 |k::ks=>max (dep k) (lD ks)
end
def mQ:lD []=0:=by rw[lD]
def lN(k:Nd)(ks:List Nd):lD (k::ks)=max (dep k) (lD ks):=by rw[lD]
def abL(n:Nd):dep n=if n.kids.isEmpty then 0 else 1+lD n.kids:=by cases n;rw[dep];rfl
def aaA:∀ks ms:List Nd,lD (ks++ms)=max (lD ks) (lD ms)
 |[],ms=>by simp[mQ]
 |k::ks,ms=>by rw[List.cons_append,lN,lN,aaA ks ms];omega
def afp:∀L:List Nd,lD L=if L.flatMap Nd.kids=[]then 0 else 1+lD (L.flatMap Nd.kids)
 |[]=>by simp[mQ]
 |k::ks=>by
  rw[lN,abL,afp ks,zq7,aaA];cases hk:k.kids with
  |nil=>simp[mQ]
  |cons a b=>
   by_cases h:ks.flatMap Nd.kids=[]
   ·simp[h,mQ]
   ·simp[h,Nat.add_max_add_left]
def agu:∀L:List Nd,lD L<=jy L
 |[]=>by simp[mQ]
 | .mk o t ks::ms=>by
  have h1:=agu ks;have h2:=agu ms;rw[lN,aY,fT,dep]
  split <;> omega
def ndE(n:Nd):List CA:=caN n
instance:dY ndE 3:=⟨fun n=>rfl⟩
def am4(l:List Nd):AV.r (aD 3 ndC l)=AV.r (aD 3 ndE l):=by rw[show ndC=ndE from funext aI]
structure DeS where
 n:Nat
 L:List Nd
 out:Nat
instance a0y(l:List Nd):Con prog 65 [.r (aD 3 ndC l)] (jy l<=1000000000) (.v (.int .i64 (lD l:Int))):=⟨fun hl=>by
 have hd:=agu l;have hrow:=am4 l;refine ah.fq func65 fun _ _ _ _ hB=>?_
 refine zg ?_;refine W.loop (fun q:DeS=>(q.L≠[]->lD l=q.n+lD q.L)/\(q.L=[]->lD l=q.out)/\jy q.L+q.n<=jy l/\q.out<=q.n) (fun q=>[(3,.r (aD 3 ndE q.L)),(4,.v (.int .i64 (q.out:Int))),(5,.v (.int .i64 (q.n:Int)))]) (fun _=>[]) (fun q=>jy q.L) ⟨0,l,0⟩ ⟨fun _=>by dsimp only;omega,fun h=>by dsimp only at*;subst h;exact mQ,by dsimp only;omega,zq6 _⟩ (fun q hq=>?_)
 obtain⟨n,L,out⟩:=q
 dsimp only at hq
 obtain⟨h1,h2,h3,h4⟩:=hq;show WP _ _ _ (gL [(3,.r (aD 3 ndE L)),(4,.v (.int .i64 (out:Int))),(5,.v (.int .i64 (n:Int)))] []) _;have hlen:=xY L;refine zg ?_;refine W.nu (fun(j:Nat) (M:List Nd)=>j<=L.length/\M=(L.take j).flatMap Nd.kids) (fun j M=>[(3,.r (aD 3 ndE L)),(4,.v (.int .i64 (out:Int))),(5,.v (.int .i64 (n:Int))),(6,.own 100),(12,.r (aD 3 ndE L)),(13,.v (.int .i64 (L.length:Int))),(14,.v (.int .i64 (j:Int)))]) (fun j M=>[(100,NR M)]) (fun j _=>L.length - j) 0 [] ⟨zq8 _,rfl⟩ (fun j M ⟨hj,hM⟩=>?_)
 have hm:=ait L j;rw[<-hM]at hm;by_cases hlt:j < L.length
 ·obtain⟨k,hk⟩:∃k,L[j]? =some k:=⟨_,zyh hlt⟩
  have hm2:=ait L (j+1);rw[ae7 hk,<-hM,zqi]at hm2;refine zg ?_;exact W.mV (j+1) (M++k.kids) ⟨zE,by rw[hM,ae7 hk]⟩ zE
   (by
    refine St.aS [(100,some 21)] z6 ?_ ?_ rfl
    ·exact ye
    ·exact⟨ay.row rfl rfl zp zp,trivial⟩)
 ·have hrow2:=am4 M;refine WP.freeze 100 hB rfl ?_;have hj:L.take j=L:=zxc zE
  rw[hj]at hM;have hdf:=afp L;have hcf:=zY L;rw[<-hM]at hdf hcf;by_cases h0:L.length=0
  ·have hL:=zx5 h0;refine zg ?_;exact dZ (by rw[h2 hL])
  ·have hL:L≠[]:=fun e=>h0 (by rw[e];rfl)
   refine zg ?_;exact W.next ⟨n+1,M,n⟩ ⟨fun h=>by dsimp only at*;rw[if_neg h]at hdf;have:=h1 hL;omega,fun h=>by dsimp only at*;rw[if_pos h]at hdf;have:=h1 hL;omega,by dsimp only;omega,by dsimp only;omega⟩ (by dsimp only;omega)
    (St.aS [] z6 ⟨⟨_,rfl,aF.eq hrow2 rfl⟩,⟨_,rfl,aF.same rfl⟩,⟨_,rfl,aF.same rfl⟩,trivial⟩ trivial rfl)⟩
structure CoS where
 L:List Nd
 c:Nat
end
section
def zx(l:List Tok)(S:Gr):Nat->List Nd->Gr
 |0,_=>fun a o=> .bad 4 a nd0 a o
 |f+1,ks=>fun a o=>if a < l.length then(match S a o with
  | .bad e p n a' o'=> .bad e p (.mk 0 [] (ks++[n])) a' o'
  | .ok n a'=>zx l S f (ks++[n]) a' o)
  else .ok (.mk 0 [] ks) a
def ahQ(l:List Tok):Res:=zx l (ajV 600 l (l.length+1)) (l.length+1) [] 0 0
def anL(ks:List Nd)(d:Int):List Nd×Nat×Nat:=if d < (lD ks:Int)then([],0,8)else(ks,0,0)
def xE(l:List Tok)(d:Int):List Nd×Nat×Nat:=
 if d < 0\/200 < d then([],0,1)else
 if l.all iZ then(match ahQ l with
  | .bad e p _ _ _=>([],p,e)
  | .ok n _=>anL n.kids d)
 else([],0,1)
abbrev tupP(r:List Nd×Nat×Nat):AV:= .tup [.one (.c (.sat (aD 3 ndC r.1))),.one (.c (.val (.int .i64 (r.2.1:Int)))),.one (.c (.val (.int .i64 (r.2.2:Int))))]
def awp{t:Tok}(h:iZ t=true)(ht:t.text=[61]):t.kind≠1:=by
 intro hk;have hs:srt 61=5:=by unfold srt;decide
 have hn:num [61]=false:=by unfold num dgL;simp[hs]
 unfold iZ at h;rw[if_pos hk,ht,hn]at h;cases h
def ht_of{l:List Tok}(h:l.all iZ=true):HT l:=fun i t ht he=>awp (zqh.1 h t (zq4 ht)) he
def prS(l:List Tok)(S:Gr)(q:LiS):Res:=match q.b with
 |none=>zx l S q.f q.ks q.a q.o
 |some (e,p)=> .bad e p (.mk 0 [] q.ks) q.a q.o
def awt(l:List Tok)(d:Int)(hl:l.length<=1000000)(ht:∀t∈l,t.text.length<=9223372036854775807):ah prog 38 [.r (aD 3 adL l),.v (.int .i64 d)] (tupP (xE l d)):=by
 unfold xE;by_cases hd:d < 0\/200 < d
 ·rw[if_pos hd];by_cases h0:d < 0
  ·refine ah.fq func38 fun w0 T B E0 hB=>?_
   refine zg ?_;refine yC (aj.tmp rfl) (aj.tmp rfl) (aj.tmp rfl) imp_nil (z7 _) (z7 _)
  ·refine ah.fq func38 fun w0 T B E0 hB=>?_
   refine zg ?_;refine yC (aj.tmp rfl) (aj.tmp rfl) (aj.tmp rfl) imp_nil (z7 _) (z7 _)
 ·rw[if_neg hd];generalize hV:(if l.all iZ then(match ahQ l with
   | .bad e p _ _ _=>(([],p,e):List Nd×Nat×Nat)
   | .ok n _=>anL n.kids d)else([],0,1))=V
  refine ah.fq func38 fun w0 T B E0 hB=>?_
  refine zg ?_;refine W.loop (fun k:Nat=>k<=l.length/\∀i t,i < k->l[i]? =some t->iZ t=true) (fun k=>[(0,.r (aD 3 adL l)),(1,.v (.int .i64 d)),(17,.r (aD 3 adL l)),(18,.v (.int .i64 (l.length:Int))),(19,.v (.int .i64 (k:Int)))]) (fun _=>[]) (fun k=>l.length - k) 0 ⟨zq8 _,fun i t h=>zE⟩ (fun k ⟨hk,hT⟩=>?_)
  by_cases hlt:k < l.length
  ·obtain⟨⟨tk,tt,tp⟩,htk⟩:∃t,l[k]? =some t:=⟨_,zyh hlt⟩
   have htt:tt.length<=9223372036854775807:=ht _ (zq4 htk);have cI:ah prog 63 [.agg (tokA ⟨tk,tt,tp⟩)] (.v (.bool (iZ ⟨tk,tt,tp⟩))):=(azz ⟨tk,tt,tp⟩).h htt;cases hi:iZ ⟨tk,tt,tp⟩with
   |false=>
    rw[hi]at cI;have hall:l.all iZ=false:=by
     rw[List.all_eq_false];exact⟨_,zq4 htk,by rw[hi];decide⟩
    rw[hall,if_neg zc]at hV
    refine zg ?_;subst hV;refine yC (aj.tmp rfl) (aj.tmp rfl) (aj.tmp rfl) imp_nil (z7 _) (z7 _)
   |true=>
    rw[hi]at cI;refine zg ?_;refine W.next (k+1) ⟨zE,fun i t h1 h2=>?_⟩ zE
    by_cases e:i=k
    ·subst e;rw[htk]at h2;cases h2;exact hi
    ·exact hT i t zE h2
  ·have hall:l.all iZ=true:=by
    rw[zqh];intro t htm;obtain⟨i,hi⟩:=List.getElem?_of_mem htm
    exact hT i t (by have:=(zxg.1 hi).1;omega) hi
   rw[hall,if_pos rfl]at hV;have gs:=aqB hl (ht_of hall) (l.length+1) 0 zE
   have ga:=yF 600 l (l.length+1) 0 zE
   unfold ahQ at hV;generalize ajV 600 l (l.length+1)=S at hV gs ga;generalize hR:zx l S (l.length+1) [] 0 0=R at hV;refine zg ?_;refine W.loop (fun q:LiS=>prS l S q=R/\(q.b=none->q.o=0/\q.a<=l.length/\l.length < q.a+q.f/\jy q.ks<=q.a)) (fun _=>[(0,.r (aD 3 adL l)),(1,.v (.int .i64 d)),(9,.ptr 29 0),(10,.own 100)]) (fun q=>[(29,PS l q.a q.o q.b),(100,NR q.ks)]) (fun q=>match q.b with|none=>l.length+1 - q.a|some _=>0) ⟨[],0,0,none,l.length+1⟩ ⟨hR,fun _=>by dsimp only;exact⟨rfl,zE,zE,by rw[bU];omega⟩⟩ (fun q hq=>?_)
    (by
     refine St.aS [(100,none)] z6 ?_ ?_ rfl
     ·exact yk
     ·exact⟨ay.eq rfl rfl rfl,ay.dw rfl,trivial⟩)
   obtain⟨qk,qa,qo,qb,qf⟩:=q;obtain⟨hq1,hq2⟩:=hq
   dsimp only at hq1 hq2
   cases qb with
   |some b=>
    obtain⟨ee,p⟩:=b;show WP _ _ _ (gL [(0,.r (aD 3 adL l)),(1,.v (.int .i64 d)),(9,.ptr 29 0),(10,.own 100)] [(29,PE l qa qo ee p),(100,NR qk)]) _;refine zg ?_;subst hq1;subst hV;refine yC (aj.tmp rfl) (aj.tmp rfl) (aj.tmp rfl) imp_nil (z7 _) (z7 _)
   |none=>
    obtain⟨rfl,b2,b3,b4⟩:=hq2 rfl;obtain⟨qf,rfl⟩:∃k,qf=k+1:=⟨qf - 1,zE⟩
    show WP _ _ _ (gL [(0,.r (aD 3 adL l)),(1,.v (.int .i64 d)),(9,.ptr 29 0),(10,.own 100)] [(29,PG l qa 0),(100,NR qk)]) _;have hq1:zx l S (qf+1) qk qa 0=R:=hq1;unfold zx at hq1;have hlk:=xY qk;by_cases hlt2:qa < l.length
    ·rw[if_pos hlt2]at hq1;have h3:=gs qa 0 zE zE zE
     have h4:=ga qa 0 zE zE
     cases hr2:S qa 0 with
     |bad c p k a2 o2=>
      rw[hr2]at h3 hq1;have c4:=h3.bad;refine zg ?_;exact W.next ⟨qk++[k],a2,o2,some (c,p),0⟩ ⟨hq1,fun h=>by cases h⟩ (by dsimp only;omega)
       (by
        refine St.aS [(100,some 48)] z6 ?_ ?_ rfl
        ·exact ye
        ·exact⟨ay.eq rfl rfl rfl,ay.row rfl rfl zp (bO (aI _).symm),trivial⟩)
     |ok k a2=>
      rw[hr2]at h3 hq1 h4;have c4:=h3.ok;obtain⟨j1,j2,j3⟩:=h4;have j4:=nJ k;refine zg ?_;exact W.next ⟨qk++[k],a2,0,none,qf⟩ ⟨hq1,fun h=>by dsimp only;exact⟨rfl,zE,zE,by rw[fB,aY,bU];omega⟩⟩ (by dsimp only;omega)
       (by
        refine St.aS [(100,some 48)] z6 ?_ ?_ rfl
        ·exact ye
        ·exact⟨ay.eq rfl rfl rfl,ay.row rfl rfl zp (bO (aI _).symm),trivial⟩)
    ·rw[if_neg hlt2]at hq1;have cD:ah prog 65 [.r (aD 3 ndC qk)] (.v (.int .i64 (lD qk:Int))):=Con.use zE
     refine WP.freeze 100 hB rfl ?_;subst hq1;have hV:anL qk d=V:=hV;unfold anL at hV;by_cases hdd:d < (lD qk:Int)
     ·rw[if_pos hdd]at hV;refine zg ?_;subst hV;refine yC (aj.tmp rfl) (aj.tmp rfl) (aj.tmp rfl) imp_nil (z7 _) (z7 _)
     ·rw[if_neg hdd]at hV;refine zg ?_;subst hV;refine yC (aj.tmp rfl) (aj.tmp rfl) (aj.tmp rfl) (z7 _) (z7 _) (z7 _)
end
end
section
abbrev tupQ(x:List Nd)(p e:Nat):AV:= .tup [.one (.c (.sat (aD 3 ndC x))),.one (.c (.val (.int .i64 (p:Int)))),.one (.c (.val (.int .i64 (e:Int))))]
def aj0{l:List Tok}{d:Int}{x:List Nd}(hl:l.length<=1000000)(ht:∀t∈l,t.text.length<=9223372036854775807)(h:xE l d=(x,p,e)):ah prog 38 [.r (aD 3 adL l),.v (.int .i64 d)] (tupQ x p e):=by
 have:=awt l d hl ht;rw[h]at this;exact this
end
section
abbrev Wrd:=Int×List UInt8
abbrev sg(s:List UInt8):Wrd:=(3,s)
def kt(t:Tok):Wrd:=(t.kind,t.text)
def acG(s:Wrd):List (List Wrd)->List Wrd
 |[]=>[]
 |[x]=>x
 |x::y::r=>x++s::acG s (y::r)
def atm(o:Int):Bool:=decide (o=1)||decide (o=2)||decide (o=13)
def tx(k:Int)(t:List UInt8):Bool:=iZ ⟨k,t,0⟩&&!ownB t
def manyB(o:Int)(n:Nat):Bool:=if o=13\/o=16 then true else if o=17 then decide (n=2\/n=3)else if o=3 then decide (n=1)else decide (4<=o/\o<=12)&&decide (n=2)
mutual
def okE:Nd->Bool
 | .mk o t ks=>if o=1\/o=2 then tx o t&&ks.isEmpty
   else if o=14 then decide (t=[])&&(!ks.isEmpty&&okRL ks)
   else manyB o ks.length&&(if o=13 then tx 2 t else decide (t=[]))&&okEL ks
def okEL:List Nd->Bool
 |[]=>true
 |k::ks=>okE k&&okEL ks
def okR:Nd->Bool
 | .mk o t ks=>decide (o=15)&&decide (t=[])&&!ks.isEmpty&&okEL ks
def okRL:List Nd->Bool
 |[]=>true
 |k::ks=>okR k&&okRL ks
end
def rst(l:List Tok)(a:Nat):List Wrd:=(l.map kt).drop a
def hS(r:List Wrd)(s:List UInt8):Bool:=match r with
 |[]=>false
 |w::_=>!decide (w.1=1)&&decide (w.2=s)
def hN(r:List Wrd):Bool:=match r with
 |[]=>false
 |w::_=>decide (w.1=2)&&!ownB w.2
def agI(l:List Tok)(a:Nat):(rst l a).head? =(l[a]?).map kt:=by
 unfold rst;rw[List.head?_drop,zqa]
def bK(l:List Tok)(a:Nat)(s:List UInt8):isS l a s=hS (rst l a) s:=by
 have h:=agI l a;unfold isS hS;cases hl:l[a]? with
 |none=>rw[hl]at h;cases hr:rst l a with|nil=>rfl|cons w r=>rw[hr]at h;cases h
 |some t=>
  rw[hl]at h;cases hr:rst l a with
  |nil=>rw[hr]at h;cases h
  |cons w r=>rw[hr]at h;simp at h;rw[h];rfl
def adg(l:List Tok)(a:Nat):oP l a=hN (rst l a):=by
 have h:=agI l a;unfold oP hN;cases hl:l[a]? with
 |none=>rw[hl]at h;cases hr:rst l a with|nil=>rfl|cons w r=>rw[hr]at h;cases h
 |some t=>
  rw[hl]at h;cases hr:rst l a with
  |nil=>rw[hr]at h;cases h
  |cons w r=>rw[hr]at h;simp at h;rw[h];rfl
def ail{l:List Tok}{w:Wrd}{r:List Wrd}(h:rst l a=w::r):∃t,l[a]? =some t/\t.kind=w.1/\t.text=w.2:=by
 have h1:=agI l a;rw[h]at h1;cases hl:l[a]? with
 |none=>rw[hl]at h1;cases h1
 |some t=>rw[hl]at h1;simp at h1;exact⟨t,rfl,by rw[h1];rfl,by rw[h1];rfl⟩
def avK{l:List Tok}{w:Wrd}{r:List Wrd}(h:rst l a=w::r):txt l a=w.2:=by
 obtain⟨t,h1,_,h2⟩:=ail h;unfold txt;rw[h1];exact h2
def jC{l:List Tok}{w:Wrd}{r:List Wrd}(h:rst l a=w::r):rst l (a+1)=r:=by
 unfold rst at h ⊢;rw[<-List.drop_drop,h];rfl
def jJ{l:List Tok}{u r:List Wrd}(h:rst l a=u++r):rst l (a+u.length)=r:=by
 unfold rst at h ⊢;rw[<-List.drop_drop,h,List.drop_left' rfl]
def amT{l:List Tok}{u:List Wrd}(h:rst l a=u)(h0:u≠[]):a+u.length=l.length:=by
 have h1:(rst l a).length=l.length - a:=by unfold rst;rw[zxe,zq5]
 rw[h]at h1;have:u.length≠0:=by simpa using h0
 omega
def ahU(r:List Wrd):Prop:=∀s∈([[91],[94],[42],[47],[43],[45],[61,61],[33,61],[60],[60,61],[40]]:List (List UInt8)),hS r s=false
def vL(h:s∉([[91],[94],[42],[47],[43],[45],[61,61],[33,61],[60],[60,61],[40]]:List (List UInt8)))(r:List Wrd):ahU (sg s::r):=fun x hx=>by
 show (!decide ((3:Int)=1)&&decide (s=x))=false;have:s≠x:=fun e=>h (e▸hx)
 simp[this]
def atM{k:Nd}{ks:List Nd}(h:k∈ks):dep k<=lD ks:=by
 induction ks with
 |nil=>cases h
 |cons x ks ih=>
  rw[lN];rcases zy3.1 h with rfl|h
  ·omega
  ·have:=ih h;omega
section
inductive EC:Nd->Prop
 |num (t:List UInt8) (h:tx 1 t=true):EC (.mk 1 t [])
 |nam (t:List UInt8) (h:tx 2 t=true):EC (.mk 2 t [])
 |call (t:List UInt8) (ks:List Nd) (h:tx 2 t=true) (hk:∀k∈ks,okE k=true):EC (.mk 13 t ks)
 |mat (ks:List Nd) (h0:ks≠[]) (hk:∀x∈ks,okR x=true):EC (.mk 14 [] ks)
 |list (ks:List Nd) (hk:∀k∈ks,okE k=true):EC (.mk 16 [] ks)
 |item (k k1:Nd) (h:okE k=true) (h1:okE k1=true):EC (.mk 17 [] [k,k1])
 |item2 (k k1 k2:Nd) (h:okE k=true) (h1:okE k1=true) (h2:okE k2=true):EC (.mk 17 [] [k,k1,k2])
 |minus (k:Nd) (h:okE k=true):EC (.mk 3 [] [k])
 |op (o:Int) (k k2:Nd) (ho:4<=o/\o<=12) (h:okE k=true) (h2:okE k2=true):EC (.mk o [] [k,k2])
def mh{k:Nd}{o:Int}{t:List UInt8}{ks:List Nd}(h:k∈ks):dep k+1<=dep (.mk o t ks):=by
 have:=atM h;rw[dep];cases ks with
 |nil=>cases h
 |cons=>rw[if_neg zp];omega
def aoc{t:List UInt8}(h:tx 2 t=true):∃c m,t=c::m/\97<=c.toNat/\c.toNat<=122:=by
 unfold tx at h;rw[zx4,ahZ]at h;obtain⟨_,c,m,h1,h2⟩:=afh (show nam t=true from h.1)
 exact⟨c,m,h1,(srt3 c).1 h2⟩
def axy{t:List UInt8}(h:tx 2 t=true){c:UInt8}{m:List UInt8}(hc:¬(97<=c.toNat/\c.toNat<=122)):t≠c::m:=by
 obtain⟨c',m',rfl,h1⟩:=aoc h;intro e;cases e;exact hc h1
def ars{k:Int}{t:List UInt8}(h:tx k t=true):ownB t=false:=by
 unfold tx at h;rw[zx4]at h;simpa using h.2
def ag5{t:List UInt8}(h:tx 2 t=true)(r:List Wrd):hN ((2,t)::r)=true:=by
 show (decide ((2:Int)=2)&&!ownB t)=true;rw[ars h];rfl
section
variable{K:Nat}{l:List Tok}{X U:Gr}{a o a':Nat}{n:Nd}
def afJ{k:Gr}(h:o+1<=K)(hk:k a (o+1)= .ok n a'):ins K k a o= .ok n a':=by
 unfold ins;rw[if_neg zE,hk]
def aw9(h:qF K l X a o= .ok n a')(h1:hS (rst l a') [91]=false):sW K l X a o= .ok n a':=by
 unfold sW;rw[h];show wI K l X (l.length+1) n a' o=_;unfold wI;rw[bK,h1];rfl
def azX(h:sW K l X a o= .ok n a')(h1:hS (rst l a') [94]=false):aed K l X U a o= .ok n a':=by
 unfold aed;rw[h];show (if isS l a' [94]then _ else _)=_
 rw[bK,h1];rfl
def un_of(h:aed K l X U a o= .ok n a')(h1:hS (rst l a) [45]=false):unG K l X U a o= .ok n a':=by
 unfold unG;rw[bK,h1,if_neg zc];exact h
def mY{S:Gr}{x:Nat}(h:S a o= .ok n a')(h1:hS (rst l a') s1=false)(h2:hS (rst l a') s2=false):aaT l S s1 x s2 y a o= .ok n a':=by
 unfold aaT;rw[h];show iO l S s1 x s2 y (l.length+1) n a' o=_;unfold iO;rw[bK,h1,bK,h2];rfl
def alT{S:Gr}{x:Nat}{m:Nd}(h:S a o= .ok n a')(h1:hS (rst l a') s1=true)(h2:S (a'+1) o= .ok m a2)(h3:hS (rst l a2) s1=false)(h4:hS (rst l a2) s2=false):aaT l S s1 x s2 y a o= .ok (.mk x [] [n,m]) a2:=by
 have hlt:=bN (l:=l) (a:=a') (s:=s1) (by rw[bK,h1])
 unfold aaT;rw[h];show iO l S s1 x s2 y (l.length+1) n a' o=_;unfold iO;rw[bK,h1,if_pos rfl,h2];show iO l S s1 x s2 y l.length _ a2 o=_;obtain⟨k,hk⟩:∃k,l.length=k+1:=⟨l.length - 1,zE⟩
 rw[hk];unfold iO;rw[bK,h3,bK,h4];rfl
def aiB{S:Gr}{x:Nat}{m:Nd}(h:S a o= .ok n a')(h0:hS (rst l a') s1=false)(h1:hS (rst l a') s2=true)(h2:S (a'+1) o= .ok m a2)(h3:hS (rst l a2) s1=false)(h4:hS (rst l a2) s2=false):aaT l S s1 x s2 y a o= .ok (.mk y [] [n,m]) a2:=by
 have hlt:=bN (l:=l) (a:=a') (s:=s2) (by rw[bK,h1])
 unfold aaT;rw[h];show iO l S s1 x s2 y (l.length+1) n a' o=_;unfold iO;rw[bK,h0,if_neg zc,bK,h1,if_pos rfl,h2]
 show iO l S s1 x s2 y l.length _ a2 o=_;obtain⟨k,hk⟩:∃k,l.length=k+1:=⟨l.length - 1,zE⟩
 rw[hk];unfold iO;rw[bK,h3,bK,h4];rfl
def acO(h:oK l U a o= .ok n a')(h1:hS (rst l a') [61,61]=false)(h2:hS (rst l a') [33,61]=false)(h3:hS (rst l a') [60]=false)(h4:hS (rst l a') [60,61]=false):wS l U a o= .ok n a':=by
 unfold wS;rw[h];show (if isS l a' [61,61]then _ else if isS l a' [33,61]then _ else if isS l a' [60]then _ else if isS l a' [60,61]then _ else _)=_
 rw[bK,h1,bK,h2,bK,h3,bK,h4];rfl
def oM{w:Wrd}{r:List Wrd}(h:rst l a=w::r):qF K l X a o=if w.1=1 then .ok (.mk 1 w.2 []) (a+1)
  else if hN (w::r)then(if hS r [40]then ins K (fun a o=>jf (fun n=> .mk 13 w.2 n.kids) (jV l X [41] a o)) (a+2) o else .ok (.mk 2 w.2 []) (a+1))
  else if hS (w::r) [40]then ins K (fun a o=>thenS l (X a o) o [41]) (a+1) o
  else if hS (w::r) [91]then ins K (fun a o=>tY l X (l.length+1) [] [] a o) (a+1) o
  else if hS (w::r) [123]then ins K (fun a o=>jf (fun n=> .mk 16 [] n.kids) (jV l X [125] a o)) (a+1) o
  else .bad 4 a nd0 a o:=by
 obtain⟨t,h1,h2,h3⟩:=ail h;unfold qF;rw[h1];show (if t.kind=1 then _ else _)=_
 rw[adg,bK,bK,bK,bK,h,jC h,h2,h3]
def adz(h:qF K l X a o= .ok n a')(h0:hS (rst l a) [45]=false)(h1:hS (rst l a') [91]=false)(h2:hS (rst l a') [94]=false):unG K l X U a o= .ok n a':=un_of (azX (aw9 h h1) h2) h0
end
end
end
