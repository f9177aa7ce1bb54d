import Derived.Test.YtcamgbgfelmbaaaGreatDoorO18
import Derived.WalkKit
import Derived.WalkSpells
set_option linter.all false
namespace QM
open Go Go.RowKit
variable{l:List Nat}{am i n:Nat}{v:Go.Value}{w:Go.World}
def aq{p:Prop}(h:p):Hid p:=h
def WB:Nat:=18446744073709551616
def aX:0 < WB:=yb
def uq:1 < WB:=yb
def bf:WB=18446744073709551616:=rfl
def jv(h:Sm WB l)(i:Nat):gd l i < WB:=h.getD aX i
def axE(h:l.length<=i):gd l i=0:=by simp[gd,h]
def Ext(w w':World):Prop:=Below w.heap.size w w'
def Ext.refl(w:World):Ext w w:=Below.refl _ _
def Ext.trans{a b c:World}(h:Ext a b)(k:Ext b c):Ext a c:=Below.trans h (Below.mono k h.size)
def Ext.size{a b:World}(h:Ext a b):a.heap.size<=b.heap.size:=Below.size h
def Ext.alloc(w:World)(o:Obj):Ext w (w.alloc o):=(Below.refl _ _).alloc (Nat.le_refl _) o
def Ext.drew(w:World):Ext w w.drew:=(Below.refl _ _).drew
def Ext.block{w w':World}(h:Ext w w'){k:Nat}(hk:k < w.heap.size):w'.heap[k]? =w.heap[k]? :=Below.block h k hk
def Ext.cell{w w':World}(h:Ext w w'){a:Addr}{v:Value}(hc:w.cell? a=some v):w'.cell? a=some v:=
 (Below.cell h (World.block_lt_of_cell? w a hc)).trans hc
def RN(w:World)(v:Value)(l:List Nat):Prop:=
 ∃oa am,v= .slice oa l.length am/\l.length<=am/\am<=maxLen/\(oa=none->am=0)/\Sm WB l/\
  ∀i,i < l.length->∃b o,oa=some ⟨b,o,none⟩/\w.cell? ⟨b,o+i,none⟩=some (.int .u64 ((gd l i:Nat):Int))
def RN.ext{w':World}(h:RN w v l)(he:Ext w w'):RN w' v l:=by
 obtain⟨oa,am,hv,h1,h2,h3,h4,h5⟩:=h;exact⟨oa,am,hv,h1,h2,h3,h4,fun i hi=>let⟨b,o,e,c⟩:=h5 i hi;⟨b,o,e,he.cell c⟩⟩
def RN.sm(h:RN w v l):Sm WB l:=by
 obtain⟨oa,am,hv,h1,h2,h3,h4,h5⟩:=h;exact h4
def RN.nil(w:World):RN w (.slice none 0 0) []:=⟨none,0,rfl,by simp,by simp[maxLen],fun _=>rfl,Sm.nil,fun i hi=>by simp at hi⟩
def RN.shape(h:RN w v l):
  (l=[]/\∃oa am,v= .slice oa 0 am/\am<=maxLen/\(oa=none->am=0))\/
  (∃b o am,v= .slice (some ⟨b,o,none⟩) l.length am/\0 < l.length/\l.length<=am/\am<=maxLen/\
   ∀i,i < l.length->w.cell? ⟨b,o+i,none⟩=some (.int .u64 ((gd l i:Nat):Int))):=by
 obtain⟨oa,am,hv,h1,h2,h3,h4,h5⟩:=h;rcases Nat.eq_zero_or_pos l.length with h0|h0
 ·have:l=[]:=List.eq_nil_of_length_eq_zero h0;subst this;exact .inl ⟨rfl,oa,am,by simpa using hv,h2,h3⟩
 ·obtain⟨b,o,e,_⟩:=h5 0 h0;subst e;refine .inr ⟨b,o,am,hv,h0,h1,h2,fun i hi=>?_⟩
  obtain⟨b',o',e',c⟩:=h5 i hi;simp only[Option.some.injEq,Addr.mk.injEq,and_true]at e';obtain⟨rfl,rfl⟩:=e';exact c
def RN.mk{b o:Nat}(hs:Sm WB l)(h1:l.length<=am)(h2:am<=maxLen)(h:∀i,i < l.length->w.cell? ⟨b,o+i,none⟩=some (.int .u64 ((gd l i:Nat):Int))):RN w (.slice (some ⟨b,o,none⟩) l.length am) l:=
 ⟨_,am,rfl,h1,h2,(fun e=>by cases e),hs,fun i hi=>⟨b,o,rfl,h i hi⟩⟩
def sG(h:i < n):gd (l.take n) i=gd l i:=by
 simp[gd,List.getD_eq_getElem?_getD,List.getElem?_take,h]
def RN.take{w:World}{oa:Option Addr}{n am:Nat}{l:List Nat}(h:RN w (.slice oa n am) l){k:Nat}(hk:k<=n):RN w (.slice oa k am) (l.take k):=by
 obtain⟨oa',cap',hv,h1,h2,h3,h4,h5⟩:=h;simp only[Value.slice.injEq]at hv;obtain⟨rfl,rfl,rfl⟩:=hv;have hl:(l.take k).length=k:=by rw[List.length_take];omega
 refine⟨oa,am,by rw[hl],ya,h2,h3,h4.take k,fun i hi=>?_⟩
 obtain⟨b,o,e,c⟩:=h5 i ya
 exact⟨b,o,e,by rw[c,sG ya]⟩
def RN.len{oa:Option Addr}(h:RN w (.slice oa n am) l):n=l.length:=by
 obtain⟨oa',cap',hv,_⟩:=h;simp only[Value.slice.injEq]at hv;exact hv.2.1
def NN(w:World)(v:Value)(n:Nat):Prop:=∃l,RN w v l/\Nrm l/\nval WB l=n/\(l=[]->v= .slice none 0 0)
