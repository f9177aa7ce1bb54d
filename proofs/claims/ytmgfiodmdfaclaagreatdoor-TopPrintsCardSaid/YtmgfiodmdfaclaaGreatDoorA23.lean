import Derived.Test.YtmgfiodmdfaclaaGreatDoorA22
import Derived.Test.YtmgfiodmdfaclaaGreatDoorA20
set_option linter.unusedVariables false
set_option linter.unusedSimpArgs false
namespace Go.Proofs.YtmgfiodmdfaclaaGreatDoor
open Go.RowKit SX
section
attribute [local irreducible] IntKind.wrap Go1 Reg WP aQ aR bO bN aN aB aj ah aV Sat
abbrev tupQ(x:List Nd)(p e:Nat):AV:= .tup [.one (.c (.sat (ay 3 ndC x))),.one (.c (.val (.int .i64 (p:Int)))),.one (.c (.val (.int .i64 (e:Int))))]
theorem ah7{l:List Tok}{d:Int}{x:List Nd}{p e:Nat}(hl:l.length≤1000000)(ht:∀t∈l,t.text.length≤9223372036854775807)(h:uE l d=(x,p,e)):PureOK Tryz.prog 48 [.r (ay 3 abf l),.v (.int .i64 d)] (tupQ x p e):=by
 have:=aq9 l d hl ht;rw[h]at this;exact this
end
section
abbrev Wrd:=Int×List UInt8
abbrev sg(s:List UInt8):Wrd:=(3,s)
def kt(t:Tok):Wrd:=(t.kind,t.text)
def aau(s:Wrd):List (List Wrd)→List Wrd
 |[]=>[]
 |[x]=>x
 |x::y::r=>x++s::aau s (y::r)
def tx(k:Int)(t:List UInt8):Bool:=iF ⟨k,t,0⟩&&!ownB t
def manyB(o:Int)(n:Nat):Bool:=if o=13∨o=16 then true else if o=17 then decide (n=2∨n=3)else if o=3 then decide (n=1)else decide (4≤o∧o≤12)&&decide (n=2)
mutual
def okE:Nd→Bool
 | .mk o t ks=>if o=1∨o=2 then tx o t&&ks.isEmpty
   else if o=14 then decide (t=[])&&(!ks.isEmpty&&okRL ks)
   else manyB o ks.length&&(if o=13 then tx 2 t else decide (t=[]))&&okEL ks
def okEL:List Nd→Bool
 |[]=>true
 |k::ks=>okE k&&okEL ks
def okR:Nd→Bool
 | .mk o t ks=>decide (o=15)&&decide (t=[])&&!ks.isEmpty&&okEL ks
def okRL:List Nd→Bool
 |[]=>true
 |k::ks=>okR k&&okRL ks
end
def rst(l:List Tok)(a:Nat):List Wrd:=(l.map kt).drop a
def hS(r:List Wrd)(s:List UInt8):Bool:=match r with
 |[]=>false
 |w::_=>!decide (w.1=1)&&decide (w.2=s)
def hN(r:List Wrd):Bool:=match r with
 |[]=>false
 |w::_=>decide (w.1=2)&&!ownB w.2
theorem adO(l:List Tok)(a:Nat):(rst l a).head? =(l[a]?).map kt:=by
 unfold rst;rw[List.head?_drop,List.getElem?_map]
theorem bf(l:List Tok)(a:Nat)(s:List UInt8):isS l a s=hS (rst l a) s:=by
 have h:=adO l a;unfold isS hS;cases hl:l[a]? with
 |none=>rw[hl]at h;cases hr:rst l a with|nil=>rfl|cons w r=>rw[hr]at h;cases h
 |some t=>
  rw[hl]at h;cases hr:rst l a with
  |nil=>rw[hr]at h;cases h
  |cons w r=>rw[hr]at h;simp at h;rw[h];rfl
theorem aae(l:List Tok)(a:Nat):nA l a=hN (rst l a):=by
 have h:=adO l a;unfold nA hN;cases hl:l[a]? with
 |none=>rw[hl]at h;cases hr:rst l a with|nil=>rfl|cons w r=>rw[hr]at h;cases h
 |some t=>
  rw[hl]at h;cases hr:rst l a with
  |nil=>rw[hr]at h;cases h
  |cons w r=>rw[hr]at h;simp at h;rw[h];rfl
theorem af9{l:List Tok}{a:Nat}{w:Wrd}{r:List Wrd}(h:rst l a=w::r):∃t,l[a]? =some t∧t.kind=w.1∧t.text=w.2:=by
 have h1:=adO l a;rw[h]at h1;cases hl:l[a]? with
 |none=>rw[hl]at h1;cases h1
 |some t=>rw[hl]at h1;simp at h1;exact⟨t,rfl,by rw[h1];rfl,by rw[h1];rfl⟩
theorem apd{l:List Tok}{a:Nat}{w:Wrd}{r:List Wrd}(h:rst l a=w::r):txt l a=w.2:=by
 obtain⟨t,h1,_,h2⟩:=af9 h;unfold txt;rw[h1];exact h2
theorem jw{l:List Tok}{a:Nat}{w:Wrd}{r:List Wrd}(h:rst l a=w::r):rst l (a+1)=r:=by
 unfold rst at h ⊢;rw[←List.drop_drop,h];rfl
theorem jG{l:List Tok}{a:Nat}{u r:List Wrd}(h:rst l a=u++r):rst l (a+u.length)=r:=by
 unfold rst at h ⊢;rw[←List.drop_drop,h,List.drop_left' rfl]
theorem aik{l:List Tok}{a:Nat}{u:List Wrd}(h:rst l a=u)(h0:u≠[]):a+u.length=l.length:=by
 have h1:(rst l a).length=l.length - a:=by unfold rst;rw[List.length_drop,List.length_map]
 rw[h]at h1;have:u.length≠0:=by simpa using h0
 omega
def af3(r:List Wrd):Prop:=∀s∈([[91],[94],[42],[47],[43],[45],[61,61],[33,61],[60],[60,61],[40]]:List (List UInt8)),hS r s=false
theorem sS{s:List UInt8}(h:s∉([[91],[94],[42],[47],[43],[45],[61,61],[33,61],[60],[60,61],[40]]:List (List UInt8)))(r:List Wrd):af3 (sg s::r):=fun x hx=>by
 show (!decide ((3:Int)=1)&&decide (s=x))=false;have:s≠x:=fun e=>h (e▸hx)
 simp[this]
theorem aov{k:Nd}{ks:List Nd}(h:k∈ks):dep k≤kK ks:=by
 induction ks with
 |nil=>cases h
 |cons x ks ih=>
  rw[kC];rcases List.mem_cons.1 h with rfl|h
  ·omega
  ·have:=ih h;omega
section
inductive EC:Nd→Prop
 |num (t:List UInt8) (h:tx 1 t=true):EC (.mk 1 t [])
 |nam (t:List UInt8) (h:tx 2 t=true):EC (.mk 2 t [])
 |call (t:List UInt8) (ks:List Nd) (h:tx 2 t=true) (hk:∀k∈ks,okE k=true):EC (.mk 13 t ks)
 |mat (ks:List Nd) (h0:ks≠[]) (hk:∀x∈ks,okR x=true):EC (.mk 14 [] ks)
 |list (ks:List Nd) (hk:∀k∈ks,okE k=true):EC (.mk 16 [] ks)
 |item (k k1:Nd) (h:okE k=true) (h1:okE k1=true):EC (.mk 17 [] [k,k1])
 |item2 (k k1 k2:Nd) (h:okE k=true) (h1:okE k1=true) (h2:okE k2=true):EC (.mk 17 [] [k,k1,k2])
 |minus (k:Nd) (h:okE k=true):EC (.mk 3 [] [k])
 |op (o:Int) (k k2:Nd) (ho:4≤o∧o≤12) (h:okE k=true) (h2:okE k2=true):EC (.mk o [] [k,k2])
theorem wW{k:Nd}{o:Int}{t:List UInt8}{ks:List Nd}(h:k∈ks):dep k+1≤dep (.mk o t ks):=by
 have:=aov h;rw[dep];cases ks with
 |nil=>cases h
 |cons=>rw[if_neg (by simp)];omega
theorem ajH{t:List UInt8}(h:tx 2 t=true):∃c m,t=c::m∧97≤c.toNat∧c.toNat≤122:=by
 unfold tx at h;rw[Bool.and_eq_true,aeW]at h;obtain⟨_,c,m,h1,h2⟩:=acC (show nam t=true from h.1)
 exact⟨c,m,h1,(srt3 c).1 h2⟩
theorem ark{t:List UInt8}(h:tx 2 t=true){c:UInt8}{m:List UInt8}(hc:¬(97≤c.toNat∧c.toNat≤122)):t≠c::m:=by
 obtain⟨c',m',rfl,h1⟩:=ajH h;intro e;cases e;exact hc h1
theorem ao4{k:Int}{t:List UInt8}(h:tx k t=true):ownB t=false:=by
 unfold tx at h;rw[Bool.and_eq_true]at h;simpa using h.2
theorem agB{t:List UInt8}(h:tx 2 t=true)(r:List Wrd):hN ((2,t)::r)=true:=by
 show (decide ((2:Int)=2)&&!ownB t)=true;rw[ao4 h];rfl
section
variable{K:Nat}{l:List Tok}{X U:Gr}{a o a':Nat}{n:Nd}
theorem adP{k:Gr}(h:o+1≤K)(hk:k a (o+1)= .ok n a'):ins K k a o= .ok n a':=by
 unfold ins;rw[if_neg (by omega),hk]
theorem apz(h:oJ K l X a o= .ok n a')(h1:hS (rst l a') [91]=false):qw K l X a o= .ok n a':=by
 unfold qw;rw[h];show um K l X (l.length+1) n a' o=_;unfold um;rw[bf,h1];rfl
theorem asc(h:qw K l X a o= .ok n a')(h1:hS (rst l a') [94]=false):ab7 K l X U a o= .ok n a':=by
 unfold ab7;rw[h];show (if isS l a' [94]then _ else _)=_
 rw[bf,h1];rfl
theorem un_of(h:ab7 K l X U a o= .ok n a')(h1:hS (rst l a) [45]=false):unG K l X U a o= .ok n a':=by
 unfold unG;rw[bf,h1,if_neg (by decide)];exact h
theorem pJ{S:Gr}{s1 s2:List UInt8}{x y:Nat}(h:S a o= .ok n a')(h1:hS (rst l a') s1=false)(h2:hS (rst l a') s2=false):yZ l S s1 x s2 y a o= .ok n a':=by
 unfold yZ;rw[h];show gW l S s1 x s2 y (l.length+1) n a' o=_;unfold gW;rw[bf,h1,bf,h2];rfl
theorem aqK{S:Gr}{s1 s2:List UInt8}{x y:Nat}{m:Nd}{a2:Nat}(h:S a o= .ok n a')(h1:hS (rst l a') s1=true)(h2:S (a'+1) o= .ok m a2)(h3:hS (rst l a2) s1=false)(h4:hS (rst l a2) s2=false):yZ l S s1 x s2 y a o= .ok (.mk x [] [n,m]) a2:=by
 have hlt:=bC (l:=l) (a:=a') (s:=s1) (by rw[bf,h1])
 unfold yZ;rw[h];show gW l S s1 x s2 y (l.length+1) n a' o=_;unfold gW;rw[bf,h1,if_pos rfl,h2];show gW l S s1 x s2 y l.length _ a2 o=_;obtain⟨k,hk⟩:∃k,l.length=k+1:=⟨l.length - 1,by omega⟩
 rw[hk];unfold gW;rw[bf,h3,bf,h4];rfl
theorem amt{S:Gr}{s1 s2:List UInt8}{x y:Nat}{m:Nd}{a2:Nat}(h:S a o= .ok n a')(h0:hS (rst l a') s1=false)(h1:hS (rst l a') s2=true)(h2:S (a'+1) o= .ok m a2)(h3:hS (rst l a2) s1=false)(h4:hS (rst l a2) s2=false):yZ l S s1 x s2 y a o= .ok (.mk y [] [n,m]) a2:=by
 have hlt:=bC (l:=l) (a:=a') (s:=s2) (by rw[bf,h1])
 unfold yZ;rw[h];show gW l S s1 x s2 y (l.length+1) n a' o=_;unfold gW;rw[bf,h0,if_neg (by decide),bf,h1,if_pos rfl,h2]
 show gW l S s1 x s2 y l.length _ a2 o=_;obtain⟨k,hk⟩:∃k,l.length=k+1:=⟨l.length - 1,by omega⟩
 rw[hk];unfold gW;rw[bf,h3,bf,h4];rfl
theorem acT(h:kE l U a o= .ok n a')(h1:hS (rst l a') [61,61]=false)(h2:hS (rst l a') [33,61]=false)(h3:hS (rst l a') [60]=false)(h4:hS (rst l a') [60,61]=false):rG l U a o= .ok n a':=by
 unfold rG;rw[h];show (if isS l a' [61,61]then _ else if isS l a' [33,61]then _ else if isS l a' [60]then _ else if isS l a' [60,61]then _ else _)=_
 rw[bf,h1,bf,h2,bf,h3,bf,h4];rfl
theorem oo{w:Wrd}{r:List Wrd}(h:rst l a=w::r):oJ K l X a o=if w.1=1 then .ok (.mk 1 w.2 []) (a+1)
  else if hN (w::r)then(if hS r [40]then ins K (fun a o=>gM (fun n=> .mk 13 w.2 n.kids) (jv l X [41] a o)) (a+2) o else .ok (.mk 2 w.2 []) (a+1))
  else if hS (w::r) [40]then ins K (fun a o=>thenS l (X a o) o [41]) (a+1) o
  else if hS (w::r) [91]then ins K (fun a o=>rX l X (l.length+1) [] [] a o) (a+1) o
  else if hS (w::r) [123]then ins K (fun a o=>gM (fun n=> .mk 16 [] n.kids) (jv l X [125] a o)) (a+1) o
  else .bad 4 a nd0 a o:=by
 obtain⟨t,h1,h2,h3⟩:=af9 h;unfold oJ;rw[h1];show (if t.kind=1 then _ else _)=_
 rw[aae,bf,bf,bf,bf,h,jw h,h2,h3]
theorem aa7(h:oJ K l X a o= .ok n a')(h0:hS (rst l a) [45]=false)(h1:hS (rst l a') [91]=false)(h2:hS (rst l a') [94]=false):unG K l X U a o= .ok n a':=un_of (asc (apz h h1) h2) h0
end
end
end
end Go.Proofs.YtmgfiodmdfaclaaGreatDoor