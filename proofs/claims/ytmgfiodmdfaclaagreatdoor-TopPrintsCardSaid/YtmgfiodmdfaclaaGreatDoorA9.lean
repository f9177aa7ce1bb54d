import Derived.Test.YtmgfiodmdfaclaaGreatDoorA8
import Derived.Lib.SliceRun
set_option linter.unusedVariables false
set_option linter.unusedSimpArgs false
namespace SX
open Go Go.RowKit
section
section
variable{P:Program}{C:Ctx}{st:St}
variable{ops rest:List Oper}{acc:List (List Nat×List Nat)}{K:List (List Nat×List Nat)→St→Prop}{dst:Option Tmp}{d:Tmp}{op:Op}{ty t t':TypeId}{x y z:Operand}
theorem G.acO{b off:Nat}{T:TypeId}{cells:List Atom}{a1 a2 a3 a4 a5 a6 a7 a8 a9 a10 a11 a12 a13 a14 a15:Atom}[ht:gU P t 15](next:Reg P C ops rest (st.app (some d) ⟨.agg [a1,a2,a3,a4,a5,a6,a7,a8,a9,a10,a11,a12,a13,a14,a15],[]⟩) (([b],[])::acc) K)(hd:aA (some d) C.nt=true:=by rfl)(hx:st.ev x=some (.ptr b off):=by rfl)(hb:st.hp b= .ent (.box T cells):=by rfl)(hr:(cells.drop off).take 15=[a1,a2,a3,a4,a5,a6,a7,a8,a9,a10,a11,a12,a13,a14,a15]:=by rfl):Go1 P C ops (some d) (.load t x) ty rest st acc K:=
 Go1.sV hd hx hb (by have:=congrArg List.length hr;simp at this;rw[Nat.ble_eq];omega) hr next
theorem G.zY{c1 c2 c3 c4 c5 c6 c7 c8 c9 c10 c11 c12 c13 c14 c15:CA}{cells:List CA}[ht:gU P t 15](next:Reg P C ops rest (st.app dst ⟨.agg [.c c1,.c c2,.c c3,.c c4,.c c5,.c c6,.c c7,.c c8,.c c9,.c c10,.c c11,.c c12,.c c13,.c c14,.c c15],[]⟩) (([],[])::acc) K)(hd:aA dst C.nt=true:=by rfl)(hx:st.ev x=some (.r (bK cells)):=by rfl)(hl:cells=[c1,c2,c3,c4,c5,c6,c7,c8,c9,c10,c11,c12,c13,c14,c15]:=by rfl):Go1 P C ops dst (.load t x) ty rest st acc K:=by
 subst hl;exact Go1.qY hd hx rfl next
theorem G.zX{pl:List (Nat×Nat)}{zs:List Value}{parts:Array (Nat×Operand)}{ps:List (Nat×AV0)}{a1 a2 a3 a4 a5 a6 a7 a8 a9 a10 a11 a12 a13 a14 a15:Atom}[ht:dA P t pl][hz:fH P t zs](next:Reg P C ops rest (st.app (some d) ⟨.agg [a1,a2,a3,a4,a5,a6,a7,a8,a9,a10,a11,a12,a13,a14,a15],[]⟩) (([],[])::acc) K)(hd:aA (some d) C.nt=true:=by rfl)(hp:evp st parts.toList=some ps:=by rfl)(h1:(ps.all fun p=>p.2.cells.all Atom.dO)=true:=by rfl)(hf:fq pl (zs.map fun v=>Atom.c (.val v)) ps=some [a1,a2,a3,a4,a5,a6,a7,a8,a9,a10,a11,a12,a13,a14,a15]:=by rfl):Go1 P C ops (some d) (.build t parts) ty rest st acc K:=
 Go1.build hd hp h1 hf next
theorem aj.fD{t:Tmp}{T T':TypeId}{b off:Nat}{cells:List Atom}{a1 a2 a3 a4 a5 a6 a7 a8 a9 a10 a11 a12 a13 a14 a15:Atom}[ht:gU P T 15](h:st.tm t=some (.ptr b off))(hb:st.hp b= .ent (.box T' cells))(hr:(cells.drop off).take 15=[a1,a2,a3,a4,a5,a6,a7,a8,a9,a10,a11,a12,a13,a14,a15]):aj P st (.cell t T) (.agg [a1,a2,a3,a4,a5,a6,a7,a8,a9,a10,a11,a12,a13,a14,a15]):=
 aj.agg h hb (by have:=congrArg List.length hr;simp at this;rw[Nat.ble_eq];omega) hr
end
structure HeldN(q:Prop):Prop where
 out:q
theorem goN{p q:Prop}(h:q)(k:HeldN q→p:=by
  intro h
  (first
   |(refine SX.Go1.is ?_;first
     |(refine SX.Go1.isLoad ?_;first|refine SX.G.ko ?_|refine SX.G.jV ?_|refine SX.G.ig ?_|refine SX.G.iC ?_|refine SX.G.kg ?_|refine SX.G.iA ?_|refine SX.G.load5 ?_|refine SX.G.acO ?_|refine SX.G.zY ?_|refine SX.G.loadH ?_|refine SX.G.loadHI ?_|refine SX.G.loadOWA ?_|refine SX.G.jX ?_|refine SX.G.iB ?_|refine SX.G.lJ ?_|refine SX.G.iH ?_)
     |(refine SX.Go1.lU ?_;first|refine SX.G.lss ?_|refine SX.G.eql ?_|refine SX.G.neq ?_|refine SX.G.gtr ?_|refine SX.G.geq ?_|refine SX.G.leq ?_|refine SX.G.addN ?_|refine SX.G.nU ?_|refine SX.G.wH ?_|refine SX.G.subNu ?_|refine SX.G.add ?_|refine SX.G.sub ?_|refine SX.G.mulN ?_|refine SX.G.nY ?_|refine SX.G.mul ?_|refine SX.G.quoN ?_|refine SX.G.nS ?_|refine SX.G.quo ?_|refine SX.G.wF ?_|refine SX.G.nI ?_|refine SX.G.rem ?_|refine SX.G.vU ?_|refine SX.G.ahO ?_|refine SX.G.ai3 ?_|refine SX.G.ahK ?_|refine SX.G.xC ?_|refine SX.G.qQ ?_|refine SX.G.qP ?_|refine SX.G.shr ?_|refine SX.G.shl ?_|refine SX.G.and ?_|refine SX.G.wX ?_)
     |(refine SX.Go1.tF ?_;first|refine SX.G.not ?_|refine SX.G.neg ?_)
     |(refine SX.Go1.isField ?_;first|refine SX.G.fieldAddr ?_|refine SX.G.bZ ?_)
     |(refine SX.Go1.gG ?_;first|refine SX.G.sG ?_|refine SX.G.iq ?_|refine SX.G.iw ?_|refine SX.G.iy ?_|refine SX.G.build5 ?_|refine SX.G.zX ?_|refine SX.G.build ?_)
     |(refine SX.Go1.gH ?_;first|refine SX.G.store ?_|refine SX.G.lK ?_|refine SX.G.storeH ?_|refine SX.G.storeHI ?_|refine SX.G.ng ?_|refine SX.G.jc ?_)
     |(refine SX.Go1.tJ ?_;first|refine SX.G.dV ?_|refine SX.G.dS ?_|refine SX.G.dD ?_|refine SX.G.indexAddrH ?_|refine SX.G.cK ?_|refine SX.G.indexAddrA ?_|refine SX.G.indexAddrG ?_)
     |(refine SX.Go1.eT ?_;first|refine SX.G.litH ?_|refine SX.G.lM ?_|refine SX.G.nE ?_|refine SX.G.afA ?_|refine SX.G.afH ?_|refine SX.G.qM ?_)
     |(refine SX.Go1.bJ ?_;first|refine SX.G.minN ?_|refine SX.G.wo ?_|refine SX.G.qL ?_|refine SX.G.lenN ?_|refine SX.G.vo ?_|refine SX.G.su ?_|refine SX.G.qN ?_|refine SX.G.gF ?_|refine SX.G.appendNilW ?_|refine SX.G.zT ?_|refine SX.G.sliceDataN ?_|refine SX.G.pY ?_|refine SX.G.unsafeStrN ?_|refine SX.G.oU ?_|refine SX.G.lenH ?_|refine SX.G.appendH ?_|refine SX.G.acj ?_|refine SX.G.yT ?_|refine SX.G.tV ?_|refine SX.G.jg ?_|refine SX.G.call ?_)
     |refine SX.G.move ?_|refine SX.G.assign ?_|refine SX.G.extract ?_|refine SX.G.afk ?_|refine SX.G.box ?_|refine SX.G.nk ?_|refine SX.G.alloc ?_|refine SX.G.j5 ?_|refine SX.G.nilCheckR ?_|refine SX.G.ajN ?_|refine SX.G.ajg ?_|refine SX.G.yK ?_|refine SX.G.yO ?_|refine SX.G.pick ?_|refine SX.R.nX ?_|refine SX.R.nQ ?_|refine SX.G.pickB ?_|refine SX.G.pickV ?_|refine SX.G.qI ?_|refine SX.G.qx ?_|refine SX.G.conv ?_|refine SX.G.lQ ?_|refine SX.G.ad8 ?_|refine SX.G.sliceH ?_|refine SX.G.fQ ?_|refine SX.G.sliceLoW ?_|refine SX.G.fE ?_|refine SX.G.sliceLoR ?_|refine SX.G.sliceHiO ?_|refine SX.G.fT ?_|refine SX.G.fV ?_|refine SX.G.sliceLHT ?_|refine SX.G.sj ?_|refine SX.G.jI ?_|refine SX.G.eG ?_|refine SX.G.eH ?_|refine SX.G.sliceLHS ?_|refine SX.G.iK ?_)
   |(refine SX.Reg.is ?_;first|refine SX.Reg.go ?_|refine SX.R.runT ?_|refine SX.R.wS ?_|refine SX.R.nJ ?_|refine SX.R.nW ?_|refine SX.R.lS ?_|refine SX.Reg.nil ⟨by kernel_rfl,?_⟩|refine SX.Reg.nil ?_)
   |(refine SX.WP.is ?_;first|refine SX.WP.seq ?_|refine SX.WP.zB (by rfl) ?_|refine SX.WP.uW (by rfl) (by kernel_rfl) ?_|refine SX.WP.block ?_|refine SX.WP.skip ?_|refine SX.WP.exit ?_|refine SX.WP.ret ?_|refine SX.WP.label ?_|refine SX.W.lV ?_|refine SX.W.jF ?_)
   |refine SX.lF ?_|refine SX.mU ?_|refine SX.nK ?_|refine SX.jK ?_|refine SX.jL ?_|refine SX.jo ?_|refine SX.jR rfl ?_|refine SX.vg ?_|refine SX.retN ?_|refine SX.qp ?_|refine SX.qE ?_)
  repeat(first
   |(refine SX.Go1.is ?_;first
     |(refine SX.Go1.isLoad ?_;first|refine SX.G.ko ?_|refine SX.G.jV ?_|refine SX.G.ig ?_|refine SX.G.iC ?_|refine SX.G.kg ?_|refine SX.G.iA ?_|refine SX.G.load5 ?_|refine SX.G.acO ?_|refine SX.G.zY ?_|refine SX.G.loadH ?_|refine SX.G.loadHI ?_|refine SX.G.loadOWA ?_|refine SX.G.jX ?_|refine SX.G.iB ?_|refine SX.G.lJ ?_|refine SX.G.iH ?_)
     |(refine SX.Go1.lU ?_;first|refine SX.G.lss ?_|refine SX.G.eql ?_|refine SX.G.neq ?_|refine SX.G.gtr ?_|refine SX.G.geq ?_|refine SX.G.leq ?_|refine SX.G.addN ?_|refine SX.G.nU ?_|refine SX.G.wH ?_|refine SX.G.subNu ?_|refine SX.G.add ?_|refine SX.G.sub ?_|refine SX.G.mulN ?_|refine SX.G.nY ?_|refine SX.G.mul ?_|refine SX.G.quoN ?_|refine SX.G.nS ?_|refine SX.G.quo ?_|refine SX.G.wF ?_|refine SX.G.nI ?_|refine SX.G.rem ?_|refine SX.G.vU ?_|refine SX.G.ahO ?_|refine SX.G.ai3 ?_|refine SX.G.ahK ?_|refine SX.G.xC ?_|refine SX.G.qQ ?_|refine SX.G.qP ?_|refine SX.G.shr ?_|refine SX.G.shl ?_|refine SX.G.and ?_|refine SX.G.wX ?_)
     |(refine SX.Go1.tF ?_;first|refine SX.G.not ?_|refine SX.G.neg ?_)
     |(refine SX.Go1.isField ?_;first|refine SX.G.fieldAddr ?_|refine SX.G.bZ ?_)
     |(refine SX.Go1.gG ?_;first|refine SX.G.sG ?_|refine SX.G.iq ?_|refine SX.G.iw ?_|refine SX.G.iy ?_|refine SX.G.build5 ?_|refine SX.G.zX ?_|refine SX.G.build ?_)
     |(refine SX.Go1.gH ?_;first|refine SX.G.store ?_|refine SX.G.lK ?_|refine SX.G.storeH ?_|refine SX.G.storeHI ?_|refine SX.G.ng ?_|refine SX.G.jc ?_)
     |(refine SX.Go1.tJ ?_;first|refine SX.G.dV ?_|refine SX.G.dS ?_|refine SX.G.dD ?_|refine SX.G.indexAddrH ?_|refine SX.G.cK ?_|refine SX.G.indexAddrA ?_|refine SX.G.indexAddrG ?_)
     |(refine SX.Go1.eT ?_;first|refine SX.G.litH ?_|refine SX.G.lM ?_|refine SX.G.nE ?_|refine SX.G.afA ?_|refine SX.G.afH ?_|refine SX.G.qM ?_)
     |(refine SX.Go1.bJ ?_;first|refine SX.G.minN ?_|refine SX.G.wo ?_|refine SX.G.qL ?_|refine SX.G.lenN ?_|refine SX.G.vo ?_|refine SX.G.su ?_|refine SX.G.qN ?_|refine SX.G.gF ?_|refine SX.G.appendNilW ?_|refine SX.G.zT ?_|refine SX.G.sliceDataN ?_|refine SX.G.pY ?_|refine SX.G.unsafeStrN ?_|refine SX.G.oU ?_|refine SX.G.lenH ?_|refine SX.G.appendH ?_|refine SX.G.acj ?_|refine SX.G.yT ?_|refine SX.G.tV ?_|refine SX.G.jg ?_|refine SX.G.call ?_)
     |refine SX.G.move ?_|refine SX.G.assign ?_|refine SX.G.extract ?_|refine SX.G.afk ?_|refine SX.G.box ?_|refine SX.G.nk ?_|refine SX.G.alloc ?_|refine SX.G.j5 ?_|refine SX.G.nilCheckR ?_|refine SX.G.ajN ?_|refine SX.G.ajg ?_|refine SX.G.yK ?_|refine SX.G.yO ?_|refine SX.G.pick ?_|refine SX.R.nX ?_|refine SX.R.nQ ?_|refine SX.G.pickB ?_|refine SX.G.pickV ?_|refine SX.G.qI ?_|refine SX.G.qx ?_|refine SX.G.conv ?_|refine SX.G.lQ ?_|refine SX.G.ad8 ?_|refine SX.G.sliceH ?_|refine SX.G.fQ ?_|refine SX.G.sliceLoW ?_|refine SX.G.fE ?_|refine SX.G.sliceLoR ?_|refine SX.G.sliceHiO ?_|refine SX.G.fT ?_|refine SX.G.fV ?_|refine SX.G.sliceLHT ?_|refine SX.G.sj ?_|refine SX.G.jI ?_|refine SX.G.eG ?_|refine SX.G.eH ?_|refine SX.G.sliceLHS ?_|refine SX.G.iK ?_)
   |(refine SX.Reg.is ?_;first|refine SX.Reg.go ?_|refine SX.R.runT ?_|refine SX.R.wS ?_|refine SX.R.nJ ?_|refine SX.R.nW ?_|refine SX.R.lS ?_|refine SX.Reg.nil ⟨by kernel_rfl,?_⟩|refine SX.Reg.nil ?_)
   |(refine SX.WP.is ?_;first|refine SX.WP.seq ?_|refine SX.WP.zB (by rfl) ?_|refine SX.WP.uW (by rfl) (by kernel_rfl) ?_|refine SX.WP.block ?_|refine SX.WP.skip ?_|refine SX.WP.exit ?_|refine SX.WP.ret ?_|refine SX.WP.label ?_|refine SX.W.lV ?_|refine SX.W.jF ?_)
   |refine SX.lF ?_|refine SX.mU ?_|refine SX.nK ?_|refine SX.jK ?_|refine SX.jL ?_|refine SX.jo ?_|refine SX.jR rfl ?_|refine SX.vg ?_|refine SX.retN ?_|refine SX.qp ?_|refine SX.qE ?_)
  exact h.out):p:=k ⟨h⟩
end
section
class agr(zs:List Value)(cells:outParam (List CA)):Prop where
 h:∀S w,aJ (CA.has S w) cells zs
theorem af7{S:Nat→Prop}{w:World}{cells:List CA}{zs:List Value}(h:aJ (CA.has S w) cells zs):∀n:Nat,aJ (CA.has S w) (List.replicate n cells).flatten (List.replicate n zs).flatten
 |0=>trivial
 |n+1=>by
  rw[List.replicate_succ,List.replicate_succ,List.flatten_cons,List.flatten_cons];exact h.append (af7 h n)
theorem anO(zs:List Value)(h0:0 < zs.length)(n:Nat):(madeCells zs.toArray (n*zs.length)).toList=(List.replicate n zs).flatten:=by
 induction n with
 |zero=>simp[madeCells]
 |succ n ih=>
  rw[show List.replicate (n+1) zs=List.replicate n zs++[zs]by rw[List.replicate_succ'],List.flatten_append,←ih]
  apply List.ext_getElem?
  intro j;have hsz:∀m,(madeCells zs.toArray m).toList.length=m:=fun m=>by rw[Array.length_toList,size_madeCells]
  by_cases h1:j < n*zs.length
  ·rw[List.getElem?_append_left (by rw[hsz];exact h1)]
   have h2:j < (n+1)*zs.length:=by rw[Nat.add_mul];omega
   simp[madeCells,h1,h2]
  ·rw[List.getElem?_append_right (by rw[hsz];omega),hsz]
   by_cases h2:j < (n+1)*zs.length
   ·have h3:j - n*zs.length < zs.length:=by rw[Nat.add_mul]at h2;omega
    have h4:j % zs.length=j - n*zs.length:=by
     have:j=(j - n*zs.length)+zs.length*n:=by rw[Nat.mul_comm zs.length n];omega
     rw[this,Nat.add_mul_mod_self_left,Nat.mod_eq_of_lt h3];rw[Nat.mul_comm zs.length n];omega
    simp[madeCells,h2,h4,h3]
   ·have h3:¬j - n*zs.length < zs.length:=by rw[Nat.add_mul]at h2;omega
    simp[madeCells,h2]
    omega
section
variable{P:Program}{C:Ctx}{st:St}
variable{ops rest:List Oper}{acc:List (List Nat×List Nat)}{K:List (List Nat×List Nat)→St→Prop}{dst:Option Tmp}{d:Tmp}{op:Op}{ty t t':TypeId}{x y z:Operand}
theorem Go1.aiT{e:TypeId}{n bytes size:Nat}{k k':IntKind}{zs:List Value}{cells:List CA}[ht:bI P t e size][he:eZ P e zs bytes][hz:agr zs cells](hd:aA (some d) C.nt=true)(hx:st.ev x=some (.v (.int k (n:Int))))(hy:st.ev y=some (.v (.int k' (n:Int))))(hf:st.hp d= .free)
  (hb:n*bytes≤140737488355328) (hm:n≤9223372036854775807) (hs:zs.length=size)
  (next:Reg P C ops rest (st.app (some d) ⟨.own d,[(d,.ent (.row e size n (List.replicate n cells).flatten))]⟩) (([d],[d])::acc) K):Go1 P C ops (some d) (.makeSlice t x y) ty rest st acc K:=
 ⟨[d],⟨.own d,[(d,.ent (.row e size n (List.replicate n cells).flatten))]⟩,fun o h2 h3 h4=>aV.newRow h2 hd hf [] (fun b e hb=>by cases hb) (fun st' E S a w hev hs' _=>by
  have hxv:a.eval x= .int k (n:Int):=(hs'.ev ((hev x (by simp[h3,Op.operands])).trans hx)).1
  have hyv:a.eval y= .int k' (n:Int):=(hs'.ev ((hev y (by simp[h3,Op.operands])).trans hy)).1
  obtain⟨i,z',hi,hz',hc,hsz,hby⟩:=oP he ht.s;obtain⟨w',hrun,hown,hgr⟩:=run_make_full (P:=P) w 0 t e i z' size ht.h hi hz' hsz k k' n (by rw[hby,Nat.mul_comm];omega) (by simp[maxLen];omega) (Nat.zero_le _)
  refine⟨.slice (some ⟨w.heap.size,0,none⟩) n n,w',(List.replicate n zs).flatten,?_,?_,tC hgr (fun k hk=>by cases hk),fun k hk=>by simp[Value.ownBlock]at hk;omega,af7 (hz.h _ _) n⟩
  ·unfold execOp;rw[h3];simp[hxv,hyv,hrun]
  ·have hl:(madeCells z'.cells (n*size)).toList=(List.replicate n zs).flatten:=by rw[hc,←hs];exact anO zs (by rw[hs];exact ht.p) n
   rw[←hl];exact hown),next⟩
theorem G.aiT{e:TypeId}{n bytes size:Nat}{k k':IntKind}{zi zj:Int}{zs:List Value}{cells:List CA}[ht:bI P t e size][he:eZ P e zs bytes][hz:agr zs cells](next:Reg P C ops rest (st.app (some d) ⟨.own d,[(d,.ent (.row e size n (List.replicate n cells).flatten))]⟩) (([d],[d])::acc) K)(hd:aA (some d) C.nt=true:=by rfl)(hx:st.ev x=some (.v (.int k zi)):=by rfl)(hx0:zi=(n:Int):=by first|with_reducible rfl|exact SX.jE _|rfl)(hy:st.ev y=some (.v (.int k' zj)):=by rfl)(hy0:zj=(n:Int):=by first|with_reducible rfl|exact SX.jE _|rfl)(hf:st.hp d= .free:=by rfl)
  (hb:n*bytes≤140737488355328:=by omega) (hm:n≤9223372036854775807:=by omega) (hs:zs.length=size:=by rfl):Go1 P C ops (some d) (.makeSlice t x y) ty rest st acc K:=by
 subst hx0;subst hy0;exact Go1.aiT hd hx hy hf hb hm hs next
theorem G.amM{b off:Nat}{T:TypeId}{cells:List Atom}{a1:Atom}[ht:gU P t 1](next:Reg P C ops rest (st.app (some d) ⟨.agg [a1],[]⟩) (([b],[])::acc) K)(hd:aA (some d) C.nt=true:=by rfl)(hx:st.ev x=some (.ptr b off):=by rfl)(hb:st.hp b= .ent (.box T cells):=by rfl)(hr:(cells.drop off).take 1=[a1]:=by rfl):Go1 P C ops (some d) (.load t x) ty rest st acc K:=
 Go1.sV hd hx hb (by have:=congrArg List.length hr;simp at this;rw[Nat.ble_eq];omega) hr next
theorem G.ahX{c1:CA}{cells:List CA}[ht:gU P t 1](next:Reg P C ops rest (st.app dst ⟨.agg [.c c1],[]⟩) (([],[])::acc) K)(hd:aA dst C.nt=true:=by rfl)(hx:st.ev x=some (.r (bK cells)):=by rfl)(hl:cells=[c1]:=by rfl):Go1 P C ops dst (.load t x) ty rest st acc K:=by
 subst hl;exact Go1.qY hd hx rfl next
theorem G.ao0{pl:List (Nat×Nat)}{zs:List Value}{parts:Array (Nat×Operand)}{ps:List (Nat×AV0)}{a1:Atom}[ht:dA P t pl][hz:fH P t zs](next:Reg P C ops rest (st.app (some d) ⟨.agg [a1],[]⟩) (([],[])::acc) K)(hd:aA (some d) C.nt=true:=by rfl)(hp:evp st parts.toList=some ps:=by rfl)(h1:(ps.all fun p=>p.2.cells.all Atom.dO)=true:=by rfl)(hf:fq pl (zs.map fun v=>Atom.c (.val v)) ps=some [a1]:=by rfl):Go1 P C ops (some d) (.build t parts) ty rest st acc K:=
 Go1.build hd hp h1 hf next
theorem aj.agg1{t:Tmp}{T T':TypeId}{b off:Nat}{cells:List Atom}{a1:Atom}[ht:gU P T 1](h:st.tm t=some (.ptr b off))(hb:st.hp b= .ent (.box T' cells))(hr:(cells.drop off).take 1=[a1]):aj P st (.cell t T) (.agg [a1]):=
 aj.agg h hb (by have:=congrArg List.length hr;simp at this;rw[Nat.ble_eq];omega) hr
end
end
section
section
variable{P:Program}{C:Ctx}{st:St}
variable{ops rest:List Oper}{acc:List (List Nat×List Nat)}{K:List (List Nat×List Nat)→St→Prop}{dst:Option Tmp}{d:Tmp}{op:Op}{ty t t':TypeId}{x y z:Operand}
end
structure HeldK(q:Prop):Prop where
 out:q
end
section
section
variable{P:Program}{C:Ctx}{st:St}
variable{ops rest:List Oper}{acc:List (List Nat×List Nat)}{K:List (List Nat×List Nat)→St→Prop}{dst:Option Tmp}{d:Tmp}{op:Op}{ty t t':TypeId}{x y z:Operand}
end
end
end SX