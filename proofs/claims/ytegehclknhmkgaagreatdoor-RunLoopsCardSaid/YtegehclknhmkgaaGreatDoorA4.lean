import Derived.Test.YtegehclknhmkgaaGreatDoorA3
set_option linter.unusedVariables false
set_option linter.unusedSimpArgs false
namespace SX
open Go Go.RowKit
section
theorem ahi{b:Bool}(h:b=false):(!b)=true:=by rw[h];rfl
theorem afB{b:Bool}(h:b=true):(!b)=false:=by rw[h];rfl
class Con(P:Program)(f:FuncId)(args:List AV)(pre:outParam Prop)(r:outParam AV):Prop where
 h:pre→PureOK P f args r
theorem Con.use{P:Program}{f:FuncId}{args:List AV}{pre:Prop}{r:AV}[c:Con P f args pre r](h:pre):PureOK P f args r:=c.h h
section
variable{P:Program}{C:Ctx}{st:St}{Q:Exit→St→Prop}
variable{ops rest:List Oper}{acc:List (List Nat×List Nat)}{K:List (List Nat×List Nat)→St→Prop}{dst:Option Tmp}{d:Tmp}{op:Op}{ty t t':TypeId}{x y z:Operand}{k k':IntKind}{m n:Int}{pos:String}{af:Array Edge}{za zb zi zj:Int}
theorem jw(n:Nat):((OfNat.ofNat n:Int))=((OfNat.ofNat n:Nat):Int):=rfl
theorem evz{z z':Int}(h:st.ev x=some (.v (.int k z)))(h0:z=z'):st.ev x=some (.v (.int k z')):=h0▸h
theorem G.call{f:FuncId}{as:Array Operand}{tys:Array TypeId}{args:List AV}{r:AV}(next:Reg P C ops rest (st.app dst ⟨r,[]⟩) (([],[])::acc) K)(ha:evs st as.toList=some args:=by rfl)(hc:PureOK P f args r:=by first|(with_reducible assumption)|assumption|exact SX.Con.use (by first|trivial|omega|assumption|(refine⟨?_,?_⟩ <;> first|omega|assumption)|(refine⟨?_,?_,?_⟩ <;> first|omega|assumption)))(hd:ay dst C.nt=true:=by rfl)(hid:r.ids=[]:=by rfl):Go1 P C ops dst (.call ⟨.value (.func f),as,tys⟩) ty rest st acc K:=
 Go1.call ha hc hd hid next
theorem abU{m:Nat}(h:m≤9223372036854775807):IntKind.i64.wrap (m:Int)=(m:Int):=nG (by omega) (by omega)
theorem abP{m:Nat}(h:m≤18446744073709551615):IntKind.u64.wrap (m:Int)=(m:Int):=lZ (by omega) (by omega)
class alk(k:IntKind)(b:outParam Nat):Prop where
 h:∀m:Nat,m≤b→k.wrap (m:Int)=(m:Int)
instance:alk .u64 18446744073709551615:=⟨fun _ h=>abP h⟩
theorem G.addN{a b:Nat}(next:Reg P C ops rest (st.app dst ⟨.v (.int .i64 ((a+b:Nat):Int)),[]⟩) (([],[])::acc) K)(hd:ay dst C.nt=true:=by rfl)(hx:st.ev x=some (.v (.int .i64 za)):=by rfl)(hx0:za=(a:Int):=by first|with_reducible rfl|exact SX.jw _|rfl)(hy:st.ev y=some (.v (.int .i64 zb)):=by rfl)(hy0:zb=(b:Int):=by first|with_reducible rfl|exact SX.jw _|rfl)(hb:a+b≤9223372036854775807:=by omega):Go1 P C ops dst (.binOp .add t x y t') ty rest st acc K:=
 Go1.add hd (evz hx hx0) (evz hy hy0) (by rw[←Int.natCast_add];exact abU hb) next
theorem G.af8{a b:Nat}(next:Reg P C ops rest (st.app dst ⟨.v (.int .u64 ((a+b:Nat):Int)),[]⟩) (([],[])::acc) K)(hd:ay dst C.nt=true:=by rfl)(hx:st.ev x=some (.v (.int .u64 za)):=by rfl)(hx0:za=(a:Int):=by first|with_reducible rfl|exact SX.jw _|rfl)(hy:st.ev y=some (.v (.int .u64 zb)):=by rfl)(hy0:zb=(b:Int):=by first|with_reducible rfl|exact SX.jw _|rfl)(hb:a+b≤18446744073709551615:=by omega):Go1 P C ops dst (.binOp .add t x y t') ty rest st acc K:=
 Go1.add hd (evz hx hx0) (evz hy hy0) (by rw[←Int.natCast_add];exact abP hb) next
theorem G.subN{a b:Nat}(next:Reg P C ops rest (st.app dst ⟨.v (.int .i64 ((a - b:Nat):Int)),[]⟩) (([],[])::acc) K)(hd:ay dst C.nt=true:=by rfl)(hx:st.ev x=some (.v (.int .i64 za)):=by rfl)(hx0:za=(a:Int):=by first|with_reducible rfl|exact SX.jw _|rfl)(hy:st.ev y=some (.v (.int .i64 zb)):=by rfl)(hy0:zb=(b:Int):=by first|with_reducible rfl|exact SX.jw _|rfl)(h1:b≤a:=by omega)(hb:a≤9223372036854775807:=by omega):Go1 P C ops dst (.binOp .sub t x y t') ty rest st acc K:=
 Go1.sub hd (evz hx hx0) (evz hy hy0) (by rw[←Int.ofNat_sub h1];exact abU (by omega)) next
theorem G.mulN{a b:Nat}(next:Reg P C ops rest (st.app dst ⟨.v (.int .i64 ((a*b:Nat):Int)),[]⟩) (([],[])::acc) K)(hd:ay dst C.nt=true:=by rfl)(hx:st.ev x=some (.v (.int .i64 za)):=by rfl)(hx0:za=(a:Int):=by first|with_reducible rfl|exact SX.jw _|rfl)(hy:st.ev y=some (.v (.int .i64 zb)):=by rfl)(hy0:zb=(b:Int):=by first|with_reducible rfl|exact SX.jw _|rfl)(hb:a*b≤9223372036854775807:=by first|omega|assumption):Go1 P C ops dst (.binOp .mul t x y t') ty rest st acc K:=
 Go1.mul hd (evz hx hx0) (evz hy hy0) (by rw[←Int.natCast_mul];exact abU hb) next
theorem G.agi{a b:Nat}(next:Reg P C ops rest (st.app dst ⟨.v (.int .u64 ((a*b:Nat):Int)),[]⟩) (([],[])::acc) K)(hd:ay dst C.nt=true:=by rfl)(hx:st.ev x=some (.v (.int .u64 za)):=by rfl)(hx0:za=(a:Int):=by first|with_reducible rfl|exact SX.jw _|rfl)(hy:st.ev y=some (.v (.int .u64 zb)):=by rfl)(hy0:zb=(b:Int):=by first|with_reducible rfl|exact SX.jw _|rfl)(hb:a*b≤18446744073709551615:=by first|omega|assumption):Go1 P C ops dst (.binOp .mul t x y t') ty rest st acc K:=
 Go1.mul hd (evz hx hx0) (evz hy hy0) (by rw[←Int.natCast_mul];exact abP hb) next
theorem G.ahk{a b:Nat}(next:Reg P C ops rest (st.app dst ⟨.v (.int .u64 ((a / b:Nat):Int)),[]⟩) (([],[])::acc) K)(hd:ay dst C.nt=true:=by rfl)(hx:st.ev x=some (.v (.int .u64 za)):=by rfl)(hx0:za=(a:Int):=by first|with_reducible rfl|exact SX.jw _|rfl)(hy:st.ev y=some (.v (.int .u64 zb)):=by rfl)(hy0:zb=(b:Int):=by first|with_reducible rfl|exact SX.jw _|rfl)(h1:0 < b:=by omega)(hb:a≤18446744073709551615:=by omega):Go1 P C ops dst (.binOp .quo t x y t') ty rest st acc K:=
 Go1.quo hd (evz hx hx0) (evz hy hy0) (by omega) (by show _=_;exact abP (Nat.le_trans (Nat.div_le_self ..) hb)) next
theorem G.remN{a b:Nat}(next:Reg P C ops rest (st.app dst ⟨.v (.int .i64 ((a % b:Nat):Int)),[]⟩) (([],[])::acc) K)(hd:ay dst C.nt=true:=by rfl)(hx:st.ev x=some (.v (.int .i64 za)):=by rfl)(hx0:za=(a:Int):=by first|with_reducible rfl|exact SX.jw _|rfl)(hy:st.ev y=some (.v (.int .i64 zb)):=by rfl)(hy0:zb=(b:Int):=by first|with_reducible rfl|exact SX.jw _|rfl)(h1:0 < b:=by omega):Go1 P C ops dst (.binOp .rem t x y t') ty rest st acc K:=
 Go1.rem hd (evz hx hx0) (evz hy hy0) (by omega) (show ((a:Int)).tmod (b:Int)=((a % b:Nat):Int)from rfl) next
theorem G.agK{a b:Nat}(next:Reg P C ops rest (st.app dst ⟨.v (.int .u64 ((a % b:Nat):Int)),[]⟩) (([],[])::acc) K)(hd:ay dst C.nt=true:=by rfl)(hx:st.ev x=some (.v (.int .u64 za)):=by rfl)(hx0:za=(a:Int):=by first|with_reducible rfl|exact SX.jw _|rfl)(hy:st.ev y=some (.v (.int .u64 zb)):=by rfl)(hy0:zb=(b:Int):=by first|with_reducible rfl|exact SX.jw _|rfl)(h1:0 < b:=by omega):Go1 P C ops dst (.binOp .rem t x y t') ty rest st acc K:=
 Go1.rem hd (evz hx hx0) (evz hy hy0) (by omega) (show ((a:Int)).tmod (b:Int)=((a % b:Nat):Int)from rfl) next
theorem R.runT{j u:Nat}{b':Bool}(h:Go1 P C ops dst op ty rest st acc K)(ht:(ops[j]?).bind (·.dst)=some u:=by rfl)(hv:st.tm u=some (.v (.bool b')):=by rfl)(hb:b'=true:=by first|rfl|(with_reducible assumption)|assumption|exact decide_eq_true (by omega)|exact SX.ahi (by first|(with_reducible assumption)|assumption|exact decide_eq_false (by omega))):Reg P C ops (⟨dst,op,ty,pos,af,some (j,true)⟩::rest) st acc K:=
 Reg.goT ht hv hb h
theorem R.runF{j u:Nat}{b':Bool}(h:Go1 P C ops dst op ty rest st acc K)(ht:(ops[j]?).bind (·.dst)=some u:=by rfl)(hv:st.tm u=some (.v (.bool b')):=by rfl)(hb:b'=false:=by first|rfl|(with_reducible assumption)|assumption|exact decide_eq_false (by omega)|exact SX.afB (by first|(with_reducible assumption)|assumption|exact decide_eq_true (by omega))):Reg P C ops (⟨dst,op,ty,pos,af,some (j,false)⟩::rest) st acc K:=
 Reg.goT ht hv hb h
theorem R.agk{j u:Nat}{b':Bool}(h:Reg P C ops rest (st.put dst (some (.v undef))) (([],[])::acc) K)(ht:(ops[j]?).bind (·.dst)=some u:=by rfl)(hv:st.tm u=some (.v (.bool b')):=by rfl)(hb:b'=false:=by first|rfl|(with_reducible assumption)|assumption|exact decide_eq_false (by omega)|exact SX.afB (by first|(with_reducible assumption)|assumption|exact decide_eq_true (by omega))):Reg P C ops (⟨dst,op,ty,pos,af,some (j,true)⟩::rest) st acc K:=
 Reg.goF ht hv hb h
theorem R.afC{j u:Nat}{b':Bool}(h:Reg P C ops rest (st.put dst (some (.v undef))) (([],[])::acc) K)(ht:(ops[j]?).bind (·.dst)=some u:=by rfl)(hv:st.tm u=some (.v (.bool b')):=by rfl)(hb:b'=true:=by first|rfl|(with_reducible assumption)|assumption|exact decide_eq_true (by omega)|exact SX.ahi (by first|(with_reducible assumption)|assumption|exact decide_eq_false (by omega))):Reg P C ops (⟨dst,op,ty,pos,af,some (j,false)⟩::rest) st acc K:=
 Reg.goF ht hv hb h
theorem R.aaI{j u:Nat}{b:Bool}(h:Reg P C ops rest (st.put dst (some (.v undef))) (([],[])::acc) K)(ht:(ops[j]?).bind (·.dst)=some u:=by rfl)(hv:st.tm u=some (.v undef):=by rfl):Reg P C ops (⟨dst,op,ty,pos,af,some (j,b)⟩::rest) st acc K:=
 Reg.goU ht hv h
theorem W.afA{c:Operand}{a e:Code}{b':Bool}(h:WP P C a st Q)(hc:st.ev c=some (.v (.bool b')):=by rfl)(hb:b'=true:=by first|rfl|(with_reducible assumption)|assumption|exact decide_eq_true (by omega)|exact SX.ahi (by first|(with_reducible assumption)|assumption|exact decide_eq_false (by omega))):WP P C (.cond c a e) st Q:=
 WP.apI hc hb h
theorem W.zA{c:Operand}{a e:Code}{b':Bool}(h:WP P C e st Q)(hc:st.ev c=some (.v (.bool b')):=by rfl)(hb:b'=false:=by first|rfl|(with_reducible assumption)|assumption|exact decide_eq_false (by omega)|exact SX.afB (by first|(with_reducible assumption)|assumption|exact decide_eq_true (by omega))):WP P C (.cond c a e) st Q:=
 WP.aoC hc hb h
theorem W.ite{c:Operand}{a e:Code}{p:Prop}[Decidable p](h1:p→WP P C a st Q)(h2:¬p→WP P C e st Q)(hc:st.ev c=some (.v (.bool (decide p))):=by rfl):WP P C (.cond c a e) st Q:=
 WP.cond hc (fun h=>h1 (of_decide_eq_true h)) (fun h=>h2 (of_decide_eq_false h))
theorem W.eO{c:Operand}{a e:Code}{b:Bool}(h1:b=true→WP P C a st Q)(h2:b=false→WP P C e st Q)(hc:st.ev c=some (.v (.bool b)):=by rfl):WP P C (.cond c a e) st Q:=
 WP.cond hc h1 h2
theorem R.ag3{c:Operand}{b':Bool}{r:AV}(next:Reg P C ops rest (st.app dst ⟨r,[]⟩) (([],[])::acc) K)(hd:ay dst C.nt=true:=by rfl)(hc:st.ev c=some (.v (.bool b')):=by rfl)(ht:b'=true:=by first|rfl|(with_reducible assumption)|assumption|exact decide_eq_true (by omega)|exact SX.ahi (by first|(with_reducible assumption)|assumption|exact decide_eq_false (by omega)))(hx:st.ev x=some r:=by rfl):Go1 P C ops dst (.pick c x y) ty rest st acc K:=
 Go1.aff hd hc ht hx next
theorem R.agD{c:Operand}{b':Bool}{r:AV}(next:Reg P C ops rest (st.app dst ⟨r,[]⟩) (([],[])::acc) K)(hd:ay dst C.nt=true:=by rfl)(hc:st.ev c=some (.v (.bool b')):=by rfl)(ht:b'=false:=by first|rfl|(with_reducible assumption)|assumption|exact decide_eq_false (by omega)|exact SX.afB (by first|(with_reducible assumption)|assumption|exact decide_eq_true (by omega)))(hx:st.ev y=some r:=by rfl):Go1 P C ops dst (.pick c x y) ty rest st acc K:=
 Go1.afa hd hc ht hx next
abbrev str(l:List UInt8):Value:= .string ⟨⟨l⟩⟩
def byt(l:List UInt8)(i:Nat):UInt8:=l.getD i 0
theorem vE(l:List UInt8)(a b:Nat):(⟨⟨l⟩⟩:ByteArray).extract a b=⟨⟨(l.drop a).take (b - a)⟩⟩:=by
 apply ByteArray.ext
 rw[ByteArray.data_extract];apply Array.ext'
 simp[Array.toList_extract,List.extract_eq_take_drop]
theorem G.lenT{l:List UInt8}[ht:yY P t](next:Reg P C ops rest (st.app dst ⟨.v (.int .i64 ((l.length:Nat):Int)),[]⟩) (([],[])::acc) K)(hd:ay dst C.nt=true:=by rfl)(hx:st.ev x=some (.v (str l)):=by rfl):Go1 P C ops dst (.call ⟨.builtin .len,#[x],#[t]⟩) ty rest st acc K:=
 Go1.aiF hd hx next
theorem G.tJ{l:List UInt8}{j:Nat}[ht:yY P t](next:Reg P C ops rest (st.app dst ⟨.v (str (l.take j)),[]⟩) (([],[])::acc) K)(hd:ay dst C.nt=true:=by rfl)(hx:st.ev x=some (.v (str l)):=by rfl)(hy:st.ev y=some (.v (.int k zj)):=by rfl)(hy0:zj=(j:Int):=by first|with_reducible rfl|exact SX.jw _|rfl)(h1:j≤l.length:=by omega):Go1 P C ops dst (.slice t x none (some y) none) ty rest st acc K:=
 Go1.oC hd hx (evz hy hy0) (by omega) (by show (j:Int)≤((l.length:Nat):Int);omega) (by rw[Int.toNat_natCast,vE,List.drop_zero,Nat.sub_zero];exact next)
theorem G.tF{l:List UInt8}{j:Nat}[ht:yY P t](next:Reg P C ops rest (st.app dst ⟨.v (str (l.drop j)),[]⟩) (([],[])::acc) K)(hd:ay dst C.nt=true:=by rfl)(hx:st.ev x=some (.v (str l)):=by rfl)(hy:st.ev y=some (.v (.int k zj)):=by rfl)(hy0:zj=(j:Int):=by first|with_reducible rfl|exact SX.jw _|rfl)(h1:j≤l.length:=by omega):Go1 P C ops dst (.slice t x (some y) none none) ty rest st acc K:=
 Go1.oP hd hx (evz hy hy0) (by omega) (by show (j:Int)≤((l.length:Nat):Int);omega) (by rw[Int.toNat_natCast,vE];rw[show (⟨⟨l⟩⟩:ByteArray).size - j=(l.drop j).length by rw[List.length_drop];rfl,List.take_length];exact next)
theorem G.abO{l:List UInt8}{i:Nat}[ht:yY P t](next:Reg P C ops rest (st.app dst ⟨.v (.int .u8 ((byt l i).toNat:Int)),[]⟩) (([],[])::acc) K)(hd:ay dst C.nt=true:=by rfl)(hx:st.ev x=some (.v (str l)):=by rfl)(hy:st.ev y=some (.v (.int k zi)):=by rfl)(hy0:zi=(i:Int):=by first|with_reducible rfl|exact SX.jw _|rfl)(hi:i < l.length:=by omega):Go1 P C ops dst (.index t x y) ty rest st acc K:=
 Go1.yC hd hx (evz hy hy0) (by omega) (b:=byt l i) (by
  rw[Int.toNat_natCast];unfold byt;show (⟨⟨l⟩⟩:ByteArray)[i]? =_;rw[getElem?_pos _ i (by exact hi)]
  simp[List.getD_eq_getElem?_getD,hi];rfl) next
theorem G.eqlT{l m:List UInt8}(next:Reg P C ops rest (st.app dst ⟨.v (.bool (decide (l=m))),[]⟩) (([],[])::acc) K)(hd:ay dst C.nt=true:=by rfl)(hx:st.ev x=some (.v (str l)):=by rfl)(hy:st.ev y=some (.v (str m)):=by rfl):Go1 P C ops dst (.binOp .eql t x y t') ty rest st acc K:=
 Go1.eqlS hd hx hy (by
  have:((⟨⟨l⟩⟩:ByteArray).toList==(⟨⟨m⟩⟩:ByteArray).toList)=decide (l=m):=by
   rw[ByteArray.toList_eq,ByteArray.toList_eq];rw[Bool.eq_iff_iff];simp
  rw[this];exact next)
theorem G.neqT{l m:List UInt8}(next:Reg P C ops rest (st.app dst ⟨.v (.bool (!decide (l=m))),[]⟩) (([],[])::acc) K)(hd:ay dst C.nt=true:=by rfl)(hx:st.ev x=some (.v (str l)):=by rfl)(hy:st.ev y=some (.v (str m)):=by rfl):Go1 P C ops dst (.binOp .neq t x y t') ty rest st acc K:=
 Go1.neqS hd hx hy (by
  have:((⟨⟨l⟩⟩:ByteArray).toList==(⟨⟨m⟩⟩:ByteArray).toList)=decide (l=m):=by
   rw[ByteArray.toList_eq,ByteArray.toList_eq];rw[Bool.eq_iff_iff];simp
  rw[this];exact next)
end
end
section
class eB{α:Type}(enc:α→List CA)(size:outParam Nat):Prop where
 h:∀a,(enc a).length=size
section
variable{α:Type}{enc:α→List CA}{size:Nat}
theorem xZ[h:eB enc size]:∀l:List α,(l.flatMap enc).length=l.length*size
 |[]=>by simp
 |a::l=>by rw[List.flatMap_cons,List.length_append,h.h,xZ l,List.length_cons,Nat.add_mul];omega
theorem wY[h:eB enc size]:∀{l:List α} {i:Nat} {a:α},l[i]? =some a→((l.flatMap enc).drop (i*size)).take size=enc a
 |[],i,a,hl=>by simp at hl
 |x::l,0,a,hl=>by
  simp at hl;subst hl
  rw[Nat.zero_mul,List.drop_zero,List.flatMap_cons,List.take_append_of_le_length (by rw[h.h];exact Nat.le_refl _),List.take_of_length_le (by rw[h.h];exact Nat.le_refl _)]
 |x::l,i+1,a,hl=>by
  simp at hl
  rw[List.flatMap_cons,Nat.add_mul,Nat.one_mul,Nat.add_comm,List.drop_append,h.h];rw[List.drop_eq_nil_of_le (by rw[h.h];omega),List.nil_append,show size+i*size - size=i*size by omega]
  exact wY hl
theorem bq{l:List α}{a:α}{m:List CA}(h:m=enc a):l.flatMap enc++m=(l++[a]).flatMap enc:=by
 rw[List.flatMap_append,h];simp
theorem flat_one{a:α}{m:List CA}(h:m=enc a):m=[a].flatMap enc:=by rw[h];simp
theorem aat[h:eB enc size](l:List α)(k:Nat):(l.flatMap enc).take (k*size)=(l.take k).flatMap enc:=by
 induction l generalizing k with
 |nil=>simp
 |cons a l ih=>
  cases k with
  |zero=>simp
  |succ k=>rw[List.take_succ_cons,List.flatMap_cons,List.flatMap_cons,Nat.add_mul,Nat.one_mul,Nat.add_comm,List.take_append,List.take_of_length_le (by rw[h.h];omega),h.h,show size+k*size - size=k*size by omega,ih]
theorem ahI[h:eB enc size](l:List α)(k:Nat):(l.flatMap enc).drop (k*size)=(l.drop k).flatMap enc:=by
 induction l generalizing k with
 |nil=>simp
 |cons a l ih=>
  cases k with
  |zero=>simp
  |succ k=>rw[List.drop_succ_cons,List.flatMap_cons,Nat.add_mul,Nat.one_mul,Nat.add_comm,List.drop_append,List.drop_eq_nil_of_le (by rw[h.h];omega),h.h,show size+k*size - size=k*size by omega,ih,List.nil_append]
theorem tC[h:eB enc size](l:List α)(i:Nat)(a:α)(hi:i < l.length):spl (l.flatMap enc) (i*size) (enc a)=(l.set i a).flatMap enc:=by
 have hl:=xZ (enc:=enc) l;have hm:i*size+size≤l.length*size:=by rw[←Nat.succ_mul];exact Nat.mul_le_mul_right _ hi
 rw[gJ _ _ _ (by rw[h.h,hl];omega),h.h,aat,show i*size+size=(i+1)*size by rw[Nat.succ_mul],ahI]
 rw[show l.set i a=l.take i++[a]++l.drop (i+1)by rw[List.set_eq_take_append_cons_drop,if_pos hi];simp]
 simp
end
abbrev aF{α:Type}(size:Nat)(enc:α→List CA)(l:List α):Rep:=aM size l.length (l.flatMap enc)
class aaQ(r:Rep)(size:outParam Nat){α:outParam Type}(enc:outParam (α→List CA))(l:outParam (List α)):Prop where
 h:∀S w v,r.has S w v→(aF size enc l).has S w v
instance{α:Type}(size:Nat)(enc:α→List CA)(l:List α):aaQ (aM size l.length (l.flatMap enc)) size enc l:=⟨fun _ _ _ h=>h⟩
theorem CA.aeA{α:Type}{enc:α→List CA}(h:∀a,(enc a).all CA.dS=true)(l:List α):(l.flatMap enc).all CA.dS=true:=by
 induction l with
 |nil=>rfl
 |cons a l ih=>rw[List.flatMap_cons,List.all_append,h,ih];rfl
class afp{α:Type}(enc:α→List CA):Prop where
 h:∀a,(enc a).all CA.dS=true
theorem apK{α:Type}{enc:α→List CA}(l:List α)[h:afp enc]:(l.flatMap enc).all CA.dS=true:=CA.aeA h.h l
section
variable{P:Program}{C:Ctx}{st:St}
variable{ops rest:List Oper}{acc:List (List Nat×List Nat)}{K:List (List Nat×List Nat)→St→Prop}{dst:Option Tmp}{d:Tmp}{op:Op}{ty t t':TypeId}{x y z:Operand}{k k':IntKind}{i j:Nat}{za zb zi zj:Int}
theorem G.nL{α:Type}{e:TypeId}{size sz:Nat}{enc:α→List CA}{l:List α}{a:α}{r:Rep}[ht:aZ P t e size](next:Reg P C ops rest (st.app dst ⟨.r (bR (enc a)),[]⟩) (([],[])::acc) K)
  (hd:ay dst C.nt=true:=by rfl) (hx:st.ev x=some (.r r):=by rfl) (hy:st.ev y=some (.v (.int k zi)):=by rfl) (hy0:zi=(i:Int):=by first|with_reducible rfl|exact SX.jw _|rfl) (hr:aaQ r sz enc l:=by infer_instance) (hsz:sz=size:=by rfl) (hz:eB enc size:=by infer_instance) (ha:l[i]? =some a:=by first|assumption|exact List.getElem?_eq_getElem (by omega)):Go1 P C ops dst (.indexAddr t x y) ty rest st acc K:=by
 subst hsz
 haveI:gZ r sz l.length (l.flatMap enc):=⟨hr.h⟩
 have hi:i < l.length:=(List.getElem?_eq_some_iff.1 ha).1
 refine Go1.jy (hd:=hd) hx (evz hy hy0) hi ?_;rw[wY ha];exact next
theorem G.tQ{α:Type}{e:TypeId}{size sz:Nat}{enc:α→List CA}{l:List α}{r:Rep}[ht:aZ P t e size](next:Reg P C ops rest (st.app dst ⟨.r (aF size enc (l.take j)),[]⟩) (([],[])::acc) K)
  (hd:ay dst C.nt=true:=by rfl) (hx:st.ev x=some (.r r):=by rfl) (hy:st.ev y=some (.v (.int k zj)):=by rfl) (hy0:zj=(j:Int):=by first|with_reducible rfl|exact SX.jw _|rfl) (hr:aaQ r sz enc l:=by infer_instance) (hsz:sz=size:=by rfl) (hz:eB enc size:=by infer_instance) (h1:j≤l.length:=by omega):Go1 P C ops dst (.slice t x none (some y) none) ty rest st acc K:=by
 subst hsz
 haveI:gZ r sz l.length (l.flatMap enc):=⟨hr.h⟩
 refine Go1.jX (hd:=hd) hx (evz hy hy0) (by omega) (by omega) ?_
 rw[Int.toNat_natCast,aat];have e:(l.take j).length=j:=by rw[List.length_take];omega
 have:=next
 unfold aF at this
 rwa [e]at this
theorem G.maxN{tys:Array TypeId}(next:Reg P C ops rest (st.app dst ⟨.v (.int k ((max i j:Nat):Int)),[]⟩) (([],[])::acc) K)(hd:ay dst C.nt=true:=by rfl)(hx:st.ev x=some (.v (.int k zi)):=by rfl)(hx0:zi=(i:Int):=by first|with_reducible rfl|exact SX.jw _|rfl)(hy:st.ev y=some (.v (.int k zj)):=by rfl)(hy0:zj=(j:Int):=by first|with_reducible rfl|exact SX.jw _|rfl):
  Go1 P C ops dst (.call ⟨.builtin .max,#[x,y],tys⟩) ty rest st acc K:=
 Go1.og hd rfl (evz hx hx0) (evz hy hy0) (fun ρ o w ho h1 h2=>by
  unfold execOp;rw[ho];have e:(if(i:Int) < (j:Int)then(j:Int)else(i:Int))=((max i j:Nat):Int):=by split <;> omega
  simp only[resolve,invoke,builtin,List.map_toArray,List.map_cons,List.map_nil,Sem.run_bind,Sem.run_pure,Result.andThen_ok];rw[show ρ x=_ from h1,show ρ y=_ from h2,run_max_int2]
  simp only[Result.andThen_ok,gt_iff_lt,e]) next
theorem Eff.ak0{E:Env}{S:Nat→Prop}{w:World}{b g cap:Nat}{e:TypeId}{size n:Nat}{cells cells':List CA}{cs':Array Value}{r:AV}{v:Value}{vs':List Value}(hl:∀k,S k→k < w.heap.size)(hS:S g)(hg:E.sl b= .slice (some ⟨g,0,none⟩) n cap)(hlt:g < w.heap.size)
  (hr:r.has E S w v) (hown:(w.setRow g cs').ownsRow 0 e size (E.sl b) n vs') (hcs:aI (CA.has S w) cells' vs'):Eff E S w [(b,.row e size n cells)] ⟨r,[(b,.ent (.row e size n cells'))]⟩ v (w.setRow g cs') E S:=by
 have ho:Off S w (w.setRow g cs'):=Off.setRow w _ _ hS;have hbk:(E.sl b).ownBlock=some g:=by rw[hg];rfl
 refine
  {env:=fun i hi=>⟨rfl,rfl⟩,fpe:=fun _ _=>rfl,sub:=fun k hk=>hk,new:=fun k hk=> .inl hk,lt:=fun k hk=>Nat.lt_of_lt_of_le (hl k hk) ho.size,off:=Off.setRow w _ _ ⟨b,_,List.mem_cons_self,hbk⟩,
   res:=hr.step (fun _ _=>⟨rfl,rfl⟩) ho (fun k hk=> .inl hk),ents:=fun i e' hi=>?_,blk:=fun i e' k hi hk=>?_,sep:=fun i i' e' e2 k hne h1 h2=>?_}
 ·simp at hi;obtain⟨rfl,rfl⟩:=hi
  exact⟨vs',hown,hcs.mono fun c u _ hc=>hc.step ho (fun k hk=> .inl hk)⟩
 ·simp at hi;obtain⟨rfl,rfl⟩:=hi
  have:k=g:=by have h2:(E.sl i).ownBlock=some k:=hk;rw[hbk]at h2;cases h2;rfl
  subst this;exact⟨hS,.inl ⟨i,_,List.mem_cons_self,hbk⟩⟩
 ·simp at h1 h2;exact absurd (h1.1.trans h2.1.symm) hne
theorem Go1.xP{e:TypeId}{b off m n size:Nat}{cells cells2 cells':List CA}{v:AV0}(hs:(P.info? t).map (·.size)=some m)(hx:st.ev x=some (.it (.one (.rptr b off))))(hy:st.ev y=some (.it v))(hb:st.hp b= .ent (.row e size n cells))(hn:v.cells.length=m)(hl:off+m≤n*size)
  (h1:v.cells.all Atom.dS=true) (hc:aP v.cells=some cells2) (hr:spl cells off cells2=cells')
  (next:Reg P C ops rest (st.app none ⟨.v undef,[(b,.ent (.row e size n cells'))]⟩) (([b],[b])::acc) K):Go1 P C ops none (.store t x y) ty rest st acc K:=by
 refine⟨[b],⟨.v undef,[(b,.ent (.row e size n cells'))]⟩,fun o h2 h3 h4=>aT.eff [] [(b,.row e size n cells)] (fun i hi=>?_) (h2▸(fun x hx=>by cases hx)) (fun b e hb=>by cases hb) (fun i e hi=>?_) (fun i s hi=>?_) (fun i s hi=>?_) (fun st' E S a w hev hhp hse _ hpre=>?_),next⟩
 ·rcases hi with⟨e,hi⟩|⟨e,hi⟩|⟨s,hi⟩
  ·cases hi
  ·simp at hi;simp[hi.1]
  ·simp at hi;simp[hi.1]
 ·simp at hi
  obtain⟨rfl,rfl⟩:=hi;exact⟨hb,_,by simp;rfl⟩
 ·simp at hi;obtain⟨rfl,_⟩:=hi;exact .inl ⟨_,by simp;rfl⟩
 ·simp at hi;rw[hi.2];rfl
 ·obtain⟨⟨g,n',cap',hE1,hv⟩,_⟩:=hse.ev ((hev x (by simp[h3,Op.operands])).trans hx)
  obtain⟨hu,hids⟩:=hse.ev ((hev y (by simp[h3,Op.operands])).trans hy)
  have hb':=hpre b (.row e size n cells) (by simp)
  obtain⟨vs,hown,hall⟩:=hse.hp b _ hb';obtain⟨us,hc',hallu,hone⟩:=AV0.has.cells hu h1;have hlu:=hallu.length;have hcl:=dH hc;rw[hcl]at hallu;have hallu':aI (CA.has S w) cells2 us:=by
   clear hcl hc hr next hlu hc' hone
   induction cells2 generalizing us with
   |nil=>cases us with|nil=>trivial|cons _ _=>exact hallu.elim
   |cons c l ih=>cases us with|nil=>exact hallu.elim|cons u us=>exact⟨hallu.1,ih us hallu.2⟩
  have hown0:=hown;obtain⟨hxl,⟨he,_⟩|⟨g2,cap,cur,he,_,hg,hnc,hcm,hcs,htk⟩⟩:=hown
  ·rw[hE1]at he;cases he
  rw[hE1]at he;cases he;have hlen:off+us.length≤cur.toList.length:=by
   have:n*size≤cap'*size:=Nat.mul_le_mul_right _ hnc;have hcz:cur.toList.length=cur.size:=Array.length_toList;omega
  have hrun:=run_store (P:=P) (off:=off) (n:=m) (cs:=cur.toList) (T:=e) (g:=g) hs hc' (by omega) w (by simpa using hg) (by omega) hone
  have hsp:=gJ cur.toList off us hlen;have hsz:(Array.mk us).size=us.length:=rfl;have hcz:cur.toList.length=cur.size:=Array.length_toList;have hmu:us.length=m:=by omega
  have hown':(w.setRow g (spl cur.toList off us).toArray).ownsRow 0 e size (E.sl b) n (spl vs off us):=by
   have hvl:vs.length=n*size:=hxl;refine⟨?_,.inr ⟨g,cap',(spl cur.toList off us).toArray,hE1,Nat.zero_le _,?_,hnc,hcm,?_,?_⟩⟩
   ·rw[gJ _ _ _ (by omega)];simp;omega
   ·exact setRow_heap w g _ _ _ _ hg
   ·rw[hsp];simp;omega
   ·rw[gJ vs off us (by omega),hsp,←htk]
    simp only[List.take_append,List.length_take,List.length_append,List.length_drop,Array.length_toList,List.drop_take,List.take_take];have e1:min (n*size) off=off:=by omega
    have e2:min off cur.size=off:=by rw[Array.length_toList]at hlen;omega
    have e3:min off (n*size)=off:=by omega
    rw[e1,e2,e3];rw[List.take_of_length_le (l:=us) (by omega)]
  have hgl:g < w.heap.size:=by rw[Array.getElem?_eq_some_iff]at hg;exact hg.1
  have hcs2:aI (CA.has S w) cells' (spl vs off us):=by
   rw[←hr];exact aI.spl off hall hallu'
  have hE:=Eff.ak0 (E:=E) (S:=S) (w:=w) (b:=b) (g:=g) (cap:=cap') (e:=e) (size:=size) (n:=n) (cells:=cells) (cells':=cells') (r:= .v undef) (v:=undef) hse.lt (hse.blk b _ g hb' (by show (E.sl b).ownBlock=some g;rw[hE1];rfl)).1 hE1 hgl rfl hown' hcs2
  refine⟨⟨fun i hi=>(by cases hi),fun i e hi j hj=>?_⟩,fun K Q hK=>?_⟩
  ·simp at hi
   obtain⟨rfl,rfl⟩:=hi;cases hj
  ·unfold Oper.wp execOp;rw[h3];simp only[show a.eval x=_ from hv,Instr.storeAt,Instr.sureAddr,Sem.run_bind,Sem.run_pure,Result.andThen_ok,hrun]
   have:=hK undef _ _ _ hE;exact this
theorem G.xB{e:TypeId}{b n m bytes size:Nat}{zs:List Value}{r:Rep}{cells cells2:List CA}[ht:aZ P t e size][he:eH P e zs bytes](next:Reg P C ops rest (st.app (some d) ⟨.own d,[(b,.gone),(d,.ent (.row e size (n+m) (cells++cells2)))]⟩) (([b,d],[b,d])::acc) K)(hd:ay (some d) C.nt=true:=by rfl)(hx:st.ev x=some (.own b):=by rfl)(hy:st.ev y=some (.r r):=by rfl)(hr:gZ r size m cells2:=by infer_instance)
  (hb:st.hp b= .ent (.row e size n cells):=by rfl) (hf:st.hp d= .free:=by rfl) (hz:Nat.beq zs.length size=true:=by rfl) (h1:cells2.all CA.dS=true:=by first|rfl|exact SX.apK _) (h63:n+m≤9223372036854775807:=by omega) (hbytes:(n+m)*bytes≤140737488355328:=by omega):Go1 P C ops (some d) (.call ⟨.builtin .append,#[x,y],#[t,t]⟩) ty rest st acc K:=
 Go1.append hd hx hy hb hf hz h1 h63 hbytes next
theorem G.nM{e:TypeId}{size n:Nat}{cells:List CA}{r:Rep}[ht:aZ P t e size](next:Reg P C ops rest (st.app dst ⟨.r (bR ((cells.drop (i*size)).take size)),[]⟩) (([],[])::acc) K)(hd:ay dst C.nt=true:=by rfl)(hx:st.ev x=some (.r r):=by rfl)(hr:gZ r size n cells:=by infer_instance)(hy:st.ev y=some (.v (.int k zi)):=by rfl)(hy0:zi=(i:Int):=by first|with_reducible rfl|exact SX.jw _|rfl)(hi:i < n:=by omega):Go1 P C ops dst (.indexAddr t x y) ty rest st acc K:=
 Go1.jy (hd:=hd) hx (evz hy hy0) hi next
end
end
end SX