import Derived.Test.YtmgfiodmdfaclaaGreatDoorA12
import Derived.Test.YtmgfiodmdfaclaaGreatDoorA8
set_option linter.unusedVariables false
set_option linter.unusedSimpArgs false
namespace Go.Proofs.YtmgfiodmdfaclaaGreatDoor
open Go.RowKit QM SX
section
attribute [local irreducible] bS bV bX dx bW
abbrev qC(v:Rat):List CA:=[.val (.bool (decide (v.num < 0))),.sat (bB v.num.natAbs),.val (.bool (decide ((v.den:Int) < 0))),.sat (bB (v.den:Int).natAbs)]
abbrev qA(v:Rat):List Atom:=[.c (.val (.bool (decide (v.num < 0)))),.c (.sat (bB v.num.natAbs)),.c (.val (.bool (decide ((v.den:Int) < 0)))),.c (.sat (bB (v.den:Int).natAbs))]
theorem uU(v:Rat):(v.den:Int)≠0:=by have:=v.den_nz;omega
theorem kW(v:Rat):qv v.num v.den=v:=by
 unfold qv;rw[←Rat.divInt_eq_div];exact Rat.num_divInt_den v
theorem aoF{p q:Int}{v:Rat}(hq:q≠0)(h:qv p q=v):v.num*q=p*v.den:=by
 have h2:=kW v;have d1:=c0 hq;have d2:=c0 (uU v);unfold qv at h h2;apply Rat.intCast_inj.1
 rw[Rat.intCast_mul,Rat.intCast_mul];generalize ((v.den:Int):Rat)=d at*;generalize ((v.num:Int):Rat)=n at*;generalize (p:Rat)=a at*;generalize (q:Rat)=b at*;subst h2
 grind
theorem aeo{p q:Int}{v:Rat}(hq:q≠0)(h:qv p q=v):∃c:Int,q=c*v.den∧p=c*v.num:=by
 have hx:=aoF hq h;have hc:Nat.Coprime v.num.natAbs v.den:=v.reduced;have hd:(v.den:Int) ∣ v.num*q:=⟨p,by rw[hx];exact Int.mul_comm _ _⟩
 have hd2:v.den ∣ q.natAbs:=by
  have h1:v.den ∣ (v.num*q).natAbs:=Int.natAbs_natCast v.den▸(Int.natAbs_dvd_natAbs.2 hd);rw[Int.natAbs_mul]at h1;exact hc.symm.dvd_of_dvd_mul_left h1
 obtain⟨c,hcq⟩:(v.den:Int) ∣ q:=Int.natAbs_dvd_natAbs.1 (by rw[Int.natAbs_natCast];exact hd2)
 refine⟨c,by rw[hcq];exact Int.mul_comm _ _,?_⟩
 rw[hcq]at hx;have h0:=uU v;have:(v.den:Int)*(v.num*c)=(v.den:Int)*p:=by grind
 have:=Int.eq_of_mul_eq_mul_left h0 this
 grind
structure RB(v:Rat)(K:Nat):Prop where
 n:v.num.natAbs < WB ^ K
 d:v.den < WB ^ K
theorem RB.of{p q:Int}{v:Rat}{K:Nat}(hq:q≠0)(h:qv p q=v)(h1:p.natAbs < WB ^ K)(h2:q.natAbs < WB ^ K):RB v K:=by
 obtain⟨c,e1,e2⟩:=aeo hq h;have hc:1≤c.natAbs:=by
  rcases Nat.eq_zero_or_pos c.natAbs with h|h
  ·have:c=0:=by omega
   subst this;rw[Int.zero_mul]at e1;exact absurd e1 hq
  ·exact h
 have a1:q.natAbs=c.natAbs*v.den:=by rw[e1,Int.natAbs_mul,Int.natAbs_natCast]
 have a2:p.natAbs=c.natAbs*v.num.natAbs:=by rw[e2,Int.natAbs_mul]
 have b1:=Nat.mul_le_mul_right v.den hc;have b2:=Nat.mul_le_mul_right v.num.natAbs hc;exact⟨by omega,by omega⟩
theorem alF(K:Nat):1≤WB ^ K:=Nat.pow_pos aY
theorem uM{a b K L:Nat}(h1:a < WB ^ K)(h2:b < WB ^ L):a*b < WB ^ (K+L):=by
 rw[Nat.pow_add];have:=Nat.mul_le_mul (show a≤WB ^ K - 1 by omega) (show b≤WB ^ L - 1 by omega)
 have p1:=alF K;have p2:=alF L;refine Nat.lt_of_le_of_lt this ?_;have h3:(WB ^ K - 1)*(WB ^ L - 1)≤(WB ^ K - 1)*WB ^ L:=Nat.mul_le_mul_left _ (Nat.sub_le _ _);have h4:(WB ^ K - 1)*WB ^ L < WB ^ K*WB ^ L:=(Nat.mul_lt_mul_right (by omega)).2 (by omega)
 omega
theorem RB.mul{u v:Rat}{K L:Nat}(h:RB u K)(k:RB v L):RB (u*v) (K+L):=by
 refine RB.of (p:=u.num*v.num) (q:=u.den*v.den) (Int.mul_ne_zero (uU u) (uU v)) ?_ ?_ ?_
 ·rw[al9,kW,kW]
 ·rw[Int.natAbs_mul];exact uM h.n k.n
 ·rw[Int.natAbs_mul,Int.natAbs_natCast,Int.natAbs_natCast];exact uM h.d k.d
theorem RB.zero{K:Nat}(hK:1≤K):RB 0 K:=by
 have h:WB ^ 1≤WB ^ K:=Nat.pow_le_pow_right aY hK;rw[Nat.pow_one]at h;have:=aX;exact⟨by show (0:Nat) < _;omega,by show (1:Nat) < _;omega⟩
theorem RB.ra{v:Rat}{K:Nat}(h:RB v K):Ra (qA v) v K:=
 ⟨_,_,_,_,v.num,(v.den:Int),K,K,rfl,(haveI:Bd v.num K:=⟨h.n⟩;inferInstance),(haveI:Bd (v.den:Int) K:=⟨by rw[Int.natAbs_natCast];exact h.d⟩;inferInstance),Nat.le_refl _,Nat.le_refl _,⟨h.n⟩,⟨by rw[Int.natAbs_natCast];exact h.d⟩,kW v⟩
theorem Rd.nf{X:Int×Int}{v:Rat}{K:Nat}(h:Rd X v K):X=(v.num,(v.den:Int)):=by
 obtain⟨p,q⟩:=X;have hq:q≠0:=by have:=h.d;dsimp only at this;omega
 obtain⟨c,e1,e2⟩:=aeo hq (show qv p q=v from h.v)
 have hg:Int.gcd p q=1:=h.g;have hc1:c.natAbs ∣ Int.gcd p q:=Nat.dvd_gcd (by rw[e2,Int.natAbs_mul];exact Nat.dvd_mul_right _ _) (by rw[e1,Int.natAbs_mul];exact Nat.dvd_mul_right _ _)
 rw[hg]at hc1;have hca:c.natAbs=1:=Nat.dvd_one.1 hc1;have hpos:0 < q:=h.d;have hden:0 < (v.den:Int):=by have:=v.den_nz;omega
 have hc:c=1:=by
  rcases Int.natAbs_eq_iff.1 hca with h|h
  ·exact h
  ·subst h;rw[e1]at hpos;simp at hpos;omega
 subst hc;rw[Int.one_mul]at e1 e2;rw[e1,e2]
section
variable{l l':List Atom}{v v':Rat}{K K':Nat}
instance con_qAdd[a:Ra l v K][b:Ra l' v' K']:Con Tryz.prog 142 [.agg l,.agg l'] (K+K'≤1000000) (.agg (qA (v+v'))):=⟨fun h=>by
 obtain⟨X,c,r⟩:=eAdd l l' h;rw[r.nf]at c;exact c⟩
instance anN[a:Ra l v K][b:Ra l' v' K']:Con Tryz.prog 358 [.agg l,.agg l'] (K+K'≤1000000) (.agg (qA (v*v'))):=⟨fun h=>by
 obtain⟨X,c,r⟩:=eMul l l' h;rw[r.nf]at c;exact c⟩
instance amJ[a:Ra l v K][b:Ra l' v' K']:Con Tryz.prog 345 [.agg l,.agg l'] (K+K'≤1000000) (.tup [.agg (qA (v / v')),.one (.c (.val (.bool (decide (v'≠0)))))]):=⟨fun h=>by
 obtain⟨X,ok,c,r,ho⟩:=eQuo l l' h;have e:ok=decide (v'≠0):=by
  cases ok with
  |true=>exact(decide_eq_true (ho.1 rfl)).symm
  |false=>exact(decide_eq_false fun hn=>by have:=ho.2 hn;cases this).symm
 rw[r.nf,e]at c;exact c⟩
end
end
section
attribute [local irreducible] IntKind.wrap Go1 Reg WP aQ aR bO bN aN aB aj ah aV Sat
attribute [local irreducible] bS bV bX dx bW qv
instance ata:Con Tryz.prog 338 [] True (.agg (qA 0)):=⟨fun _=>by
 refine PureOK.fnF Tryz.func338 Tryz.results338 Tryz.ntmps338 rfl rfl rfl (by simp[AV.ids,AV0.ids,Atom.ids]) rfl (fun w0 T B E0 hB=>?_)
 refine SX.go2 ?_;exact nC (aj.vN rfl rfl rfl) rfl⟩
def tkL(r s:List Rat)(f:Rat)(k:Nat):List Rat:=(List.zipWith (fun a b=>a - f*b) (r.take k) (s.take k))++r.drop k
def mF(c:Nat)(val:Nat→Nat→Rat)(i:Nat):List Rat:=(List.range i).flatMap fun i=>(List.range c).map (val i)
theorem ak9{c:Nat}{val:Nat→Nat→Rat}:mF c val 0=[]:=rfl
theorem xL{c i:Nat}{val:Nat→Nat→Rat}:mF c val (i+1)=mF c val i++(List.range c).map (val i):=by
 unfold mF;rw[List.range_succ,List.flatMap_append];simp
theorem mQ{c:Nat}{val:Nat→Nat→Rat}:∀i,(mF c val i).length=i*c
 |0=>by simp[ak9]
 |i+1=>by rw[xL,List.length_append,mQ i];simp[Nat.succ_mul]
def abF(val:Nat→Nat→Rat)(i k:Nat):List Rat:=(List.range k).map (val i)
theorem aj2{val:Nat→Nat→Rat}{i k:Nat}:abF val i (k+1)=abF val i k++[val i k]:=by
 unfold abF;rw[List.range_succ,List.map_append];rfl
abbrev Q4:=Bool×Rep×Bool×Rep
abbrev q4A(q:Q4):List Atom:=[.c (.val (.bool q.1)),.c (.sat q.2.1),.c (.val (.bool q.2.2.1)),.c (.sat q.2.2.2)]
abbrev ajx(r c:Nat)(l:List Rat):List Atom:=[.c (.val (.int .i64 (r:Int))),.c (.val (.int .i64 (c:Int))),.c (.sat (ay 4 qC l))]
theorem aeJ(r c:Nat)(x:CA)(L:Nat→Nat→Q4)(val:Nat→Nat→Rat)(K:Nat)(hr:r≤100)(hc:c≤100)(hK:K+1≤1000000)
  (hx:∀i k,i < r→k < c→FnV Tryz.prog x [.v (.int .i64 (i:Int)),.v (.int .i64 (k:Int))] (.agg (q4A (L i k)))) (hL:∀i k,i < r→k < c→Ra (q4A (L i k)) (val i k) K) (hx1:x.dO=true):
  PureOK Tryz.prog 356 [.v (.int .i64 (r:Int)),.v (.int .i64 (c:Int)),.it (.one (.c x))] (.agg (ajx r c (mF c val r))):=by
 have iz:Ra (qA 0) 0 1:=(RB.zero (Nat.le_refl 1)).ra;refine PureOK.fnF Tryz.func356 Tryz.results356 Tryz.ntmps356 rfl rfl rfl (by simp[AV.ids,AV0.ids,Atom.ids]) rfl (fun w0 T B E0 hB=>?_)
 refine SX.goQ ?_;refine W.loop (fun i=>i≤r) (fun i=>[(1,.v (.int .i64 (c:Int))),(2,.it (.one (.c x))),(6,.ptr 6 0),(7,.ptr 7 0),(13,.v (.int .i64 (r:Int))),(14,.v (.int .i64 (i:Int)))]) (fun i=>[(6,.box 30 [.c (.val (.int .i64 0)),.c (.val (.int .i64 0)),.c (.val (.slice none 0 0))]),(7,.box 30 [.c (.val (.int .i64 (r:Int))),.c (.val (.int .i64 (c:Int))),.own 100]),(100,.row 27 4 (i*c) ((mF c val i).flatMap qC))]) (fun i=>r - i) 0 (Nat.zero_le _) (fun i hi=>?_)
  (by
   refine SX.St.aW [(100,none)] (by intro b h;cases h) ?_ ?_ rfl
   ·repeat(first|exact trivial|refine⟨⟨_,rfl,SX.aC.same rfl⟩,?_⟩)
   ·exact⟨SX.ak.same rfl rfl,SX.ak.oK rfl rfl ⟨aO.same rfl,aO.same rfl,aO.nil rfl,trivial⟩,by rw[Nat.zero_mul];exact SX.ak.bU rfl,trivial⟩)
 by_cases h:i < r
 ·refine SX.goQ ?_;refine W.loop (fun k=>k≤c) (fun k=>[(1,.v (.int .i64 (c:Int))),(2,.it (.one (.c x))),(6,.ptr 6 0),(7,.ptr 7 0),(8,.v (.int .i64 (i:Int))),(13,.v (.int .i64 (r:Int))),(14,.v (.int .i64 (i:Int))),(17,.v (.int .i64 (c:Int))),(18,.v (.int .i64 (k:Int)))]) (fun k=>[(6,.box 30 [.c (.val (.int .i64 0)),.c (.val (.int .i64 0)),.c (.val (.slice none 0 0))]),(7,.box 30 [.c (.val (.int .i64 (r:Int))),.c (.val (.int .i64 (c:Int))),.own 100]),(100,.row 27 4 (i*c+k) ((mF c val i++abF val i k).flatMap qC))]) (fun k=>c - k) 0 (Nat.zero_le _) (fun k hk=>?_)
   (by
    have e:Ent.row 27 4 (i*c) ((mF c val i).flatMap qC)=Ent.row 27 4 (i*c+0) ((mF c val i++abF val i 0).flatMap qC):=by simp[abF]
    refine SX.St.aW [] (by intro b h;cases h) ?_ ?_ rfl
    ·repeat(first|exact trivial|refine⟨⟨_,rfl,SX.aC.same rfl⟩,?_⟩)
    ·exact⟨SX.ak.same rfl rfl,SX.ak.same rfl rfl,SX.ak.eq rfl e rfl,trivial⟩)
  by_cases h2:k < c
  ·have hf:=hx i k h h2;have ir:=hL i k h h2;have hlen:i*c+k≤20000:=by
    have:=Nat.mul_le_mul (show i≤100 by omega) hc
    omega
   refine SX.goQ ?_;refine W.next (k+1) h2 (by omega) (by
    have e2:(mF c val i++abF val i k).flatMap qC++qC (val i k+0)=(mF c val i++abF val i (k+1)).flatMap qC:=by
     rw[Rat.add_zero,aj2,←List.append_assoc,List.flatMap_append (xs:=mF c val i++abF val i k)];simp
    refine SX.St.aW [(100,some 30)] (by intro b h;cases h) ?_ ?_ rfl
    ·repeat(first|exact trivial|refine⟨⟨_,rfl,SX.aC.same rfl⟩,?_⟩)
    ·exact⟨SX.ak.same rfl rfl,SX.ak.oK rfl rfl ⟨aO.same rfl,aO.same rfl,aO.own rfl,trivial⟩,SX.ak.row rfl rfl (by omega) e2,trivial⟩)
  ·obtain rfl:k=c:=by omega
   refine SX.goQ ?_;refine W.next (i+1) h (by omega) (by
    have e2:Ent.row 27 4 (i*k+k) ((mF k val i++abF val i k).flatMap qC)=Ent.row 27 4 ((i+1)*k) ((mF k val (i+1)).flatMap qC):=by rw[Nat.succ_mul,xL];rfl
    refine SX.St.aW [] (by intro b h;cases h) ?_ ?_ rfl
    ·repeat(first|exact trivial|refine⟨⟨_,rfl,SX.aC.same rfl⟩,?_⟩)
    ·exact⟨SX.ak.same rfl rfl,SX.ak.same rfl rfl,SX.ak.eq rfl e2 rfl,trivial⟩)
 ·obtain rfl:i=r:=by omega
  refine SX.goQ ?_;have hm:ajx i c (mF c val i)=[.c (.val (.int .i64 (i:Int))),.c (.val (.int .i64 (c:Int))),.c (.sat (aI 4 (i*c) ((mF c val i).flatMap qC)))]:=by
   show [_,_,Atom.c (.sat (aI 4 (mF c val i).length _))]=_;rw[mQ]
  rw[hm];refine aN.frz 100 ?_;exact nC (aj.aT rfl rfl rfl) rfl
abbrev q4C(q:Q4):List CA:=[.val (.bool q.1),.sat q.2.1,.val (.bool q.2.2.1),.sat q.2.2.2]
instance:dU q4C 4:=⟨fun _=>rfl⟩
abbrev aam(r c:Nat)(l:List Q4):List Atom:=[.c (.val (.int .i64 (r:Int))),.c (.val (.int .i64 (c:Int))),.c (.sat (ay 4 q4C l))]
structure MV(l:List Q4)(vs:List Rat)(K:Nat):Prop where
 len:l.length=vs.length
 ra:∀(i:Nat) q v,l[i]? =some q→vs[i]? =some v→Ra (q4A q) v K
instance aaK(r c:Int){n:Nat}{cells:List CA}:Con Tryz.prog 82 [.agg [.c (.val (.int .i64 r)),.c (.val (.int .i64 c)),.c (.sat (aI 4 n cells))]] True (.v (.bool (decide (0≤r∧r≤64∧0≤c∧c≤64∧(n:Int)=r*c)))):=⟨fun _=>by
 refine PureOK.fnF Tryz.func82 Tryz.results82 Tryz.ntmps82 rfl rfl rfl (by simp[AV.ids,AV0.ids,Atom.ids]) rfl (fun w0 T B E0 hB=>?_)
 by_cases h1:r≥0
 ·by_cases h2:r≤64
  ·by_cases h3:c≥0
   ·by_cases h4:c≤64
    ·have hp:0≤r*c:=Int.mul_nonneg h1 h3;have hp2:r*c≤64*64:=Int.mul_le_mul h2 h4 h3 (by decide)
     refine SX.goQ ?_;refine aG ?_;rw[decide_eq_decide];exact⟨fun h=>⟨h1,h2,h3,h4,h⟩,fun h=>h.2.2.2.2⟩
    ·refine SX.goQ ?_;refine aG ?_;exact(decide_eq_false fun h=>h4 h.2.2.2.1).symm
   ·refine SX.goQ ?_;refine aG ?_;exact(decide_eq_false fun h=>h3 h.2.2.1).symm
  ·refine SX.goQ ?_;refine aG ?_;exact(decide_eq_false fun h=>h2 h.2.1).symm
 ·refine SX.goQ ?_;refine aG ?_;exact(decide_eq_false fun h=>h1 h.1).symm⟩
theorem apE{r c i k:Nat}{l:List Q4}{q:Q4}(hq:l[i*c+k]? =some q)(hi:i≤100)(hc:c≤100)(hk:k≤100):
  PureOK Tryz.prog 339 [.agg (aam r c l),.v (.int .i64 (i:Int)),.v (.int .i64 (k:Int))] (.agg (q4A q)):=by
 have hb:=Nat.mul_le_mul hi hc;have hlt:i*c+k < l.length:=by
  rcases Nat.lt_or_ge (i*c+k) l.length with h|h
  ·exact h
  ·rw[List.getElem?_eq_none h]at hq;cases hq
 refine PureOK.fnF Tryz.func339 Tryz.results339 Tryz.ntmps339 rfl rfl rfl (by simp[AV.ids,AV0.ids,Atom.ids]) rfl (fun w0 T B E0 hB=>?_)
 refine SX.goQ ?_;exact nC (aj.vN rfl rfl rfl) rfl
def fi{α:Type}(p:α→Bool):List α→Nat→Int
 |[],_=> -1
 |a::l,k=>if p a then(k:Int)else fi p l (k+1)
theorem wm{α:Type}{p:α→Bool}{l:List α}{k:Nat}{a:α}(h:l[k]? =some a):fi p (l.drop k) k=if p a then(k:Int)else fi p (l.drop (k+1)) (k+1):=by
 have hk:k < l.length:=by
  rcases Nat.lt_or_ge k l.length with h2|h2
  ·exact h2
  ·rw[List.getElem?_eq_none h2]at h;cases h
 rw[List.drop_eq_getElem_cons hk];rw[List.getElem?_eq_getElem hk]at h
 rw[Option.some.inj h];rfl
def nz(col:Nat)(r:List Rat):Bool:=decide (r.getD col 0≠0)
def mlL(s:List Rat)(f:Rat)(k:Nat):List Rat:=(s.take k).map (· *f)++s.drop k
def colI(M:List (List Rat))(top col:Nat):Int:=fi (nz col) (M.drop top) 0
def sw{α:Type}(l:List α)(i j:Nat):List α:=match l[i]?,l[j]? with|some a,some b=>(l.set i b).set j a|_,_=>l
def colBy(M:List (List Rat))(top i col:Nat):List Rat:=let s:=(sw M top (top+i)).getD top [];mlL s (1 / s.getD col 0) s.length
def colR(by_:List Rat)(col:Nat)(r:List Rat):List Rat:=tkL r by_ (r.getD col 0) r.length
def colM(M:List (List Rat))(top col:Nat):List (List Rat):=if colI M top col < 0 then M else
 ((sw M top (top+(colI M top col).toNat)).map (colR (colBy M top (colI M top col).toNat col) col)).set top (colBy M top (colI M top col).toNat col)
def colP(M:List (List Rat))(ps:List Nat)(col:Nat):List Nat:=if colI M ps.length col < 0 then ps else ps++[col]
theorem aie{α:Type}{p:α→Bool}:∀(l:List α) (k:Nat),¬fi p l k < 0→∃i a,fi p l k=((k+i:Nat):Int)∧l[i]? =some a∧p a=true
 |[],k,h=>absurd (show (-1:Int) < 0 by decide) h
 |a::l,k,h=>by
  unfold fi at h ⊢;cases hp:p a with
  |true=>exact⟨0,a,by simp,rfl,hp⟩
  |false=>
   rw[hp]at h;obtain⟨i,b,h1,h2,h3⟩:=aie l (k+1) h;exact⟨i+1,b,by rw[if_neg (by decide),h1];congr 1;omega,h2,h3⟩
def redS:Nat→Nat→List (List Rat)→List Nat→List (List Rat)×List Nat
 |0,_,M,ps=>(M,ps)
 |n+1,col,M,ps=>if ps.length < M.length then redS n (col+1) (colM M ps.length col) (colP M ps col)else(M,ps)
def kb(K:Nat):Nat→Nat
 |0=>K
 |n+1=>kb (4*K+2) n
structure RdS where
 col:Nat
 M:List (List Rat)
 ps:List Nat
end
section
theorem weakArgs{P:Program}{f:FuncId}{args args':List AV}{r:AV}(h:PureOK P f args' r)(hi:∀E S w vs,aJ (AV.has E S w) args vs→aJ (AV.has E S w) args' vs):PureOK P f args r:=
 ⟨h.1,fun E S w vs hl hg hv a b c=>h.2 E S w vs hl hg (hi E S w vs hv) a b c⟩
attribute [local irreducible] IntKind.wrap Go1 Reg WP aQ aR bO bN aN aB aj ah aV Sat
attribute [local irreducible] bS bV bX dx bW qv
abbrev q4v(v:Rat):Q4:=(decide (v.num < 0),bB v.num.natAbs,decide ((v.den:Int) < 0),bB (v.den:Int).natAbs)
theorem ai6{α:Type}{enc:α→List CA}{size:Nat}{S:Nat→Prop}{w:World}:(ay size enc ([]:List α)).has S w (.slice none 0 0):=
 bF.2 ⟨none,0,rfl,Nat.le_refl _,Nat.zero_le _,fun _=>rfl,by simp,fun i c h=>by simp at h⟩
end
end Go.Proofs.YtmgfiodmdfaclaaGreatDoor
namespace LA
def sm:Nat→(Nat→Rat)→Rat
 |0,_=>0
 |n+1,f=>sm n f+f n
def Sp(n W:Nat)(m:Nat→Nat→Rat)(v:Nat→Rat):Prop:=∃c:Nat→Rat,∀k,k < W→v k=sm n (fun r=>c r*m r k)
structure Eqv(n n' W:Nat)(m m':Nat→Nat→Rat):Prop where
 fwd:∀r,r < n'→Sp n W m (m' r)
 back:∀r,r < n→Sp n' W m' (m r)
structure Rref(n w:Nat)(m:Nat→Nat→Rat)(ps:List Nat):Prop where
 len:ps.length≤n
 inc:ps.Pairwise (· < ·)
 lt:∀p∈ps,p < w
 one:∀i p,ps[i]? =some p→∀r,r < n→m r p=if r=i then 1 else 0
 low:∀i p,ps[i]? =some p→∀k,k < p→m i k=0
 zero:∀r,ps.length≤r→r < n→∀k,k < w→m r k=0
end LA
namespace Go.Proofs.YtmgfiodmdfaclaaGreatDoor
section
open LA
def mf(M:List (List Rat))(r k:Nat):Rat:=(M.getD r []).getD k 0
theorem ahM{α:Type}{p:α→Bool}:∀{l:List α} {k:Nat},fi p l k < 0→∀a∈l,p a=false
 |[],k,_,a,h=>by cases h
 |b::l,k,h,a,ha=>by
  unfold fi at h;cases hp:p b with
  |true=>rw[hp]at h;simp at h;omega
  |false=>
   rw[hp]at h;rcases List.mem_cons.1 ha with rfl|ha
   ·exact hp
   ·exact ahM (k:=k+1) (by simpa using h) a ha
structure ColS(n W:Nat)(m m':Nat→Nat→Rat)(top i col:Nat):Prop where
 hi:top≤i∧i < n
 ne:m i col≠0
 at_:∀r,r < n→∀k,k < W→m' r k=if r=top then m i k / m i col else(if r=i then m top k else m r k) - (if r=i then m top col else m r col)*(m i k / m i col)
section
section
variable{r c d:Nat}{va vb:Nat→Nat→Rat}
end
end
end
section
open Go.RowKit QM SX
attribute [local irreducible] IntKind.wrap Go1 Reg WP aQ aR bO bN aN aB aj ah aV Sat
attribute [local irreducible] bS bV bX dx bW qv mf
attribute [local irreducible] redS
theorem Ra.rb{l:List Atom}{v:Rat}{K:Nat}(h:Ra l v K)(hK:1≤K):RB v K:=by
 obtain⟨x0,x1,x2,x3,p,q,k,m,_,_,_,h1,h2,h3,h4,h5⟩:=h.h;by_cases hq:q=0
 ·subst hq;have:v=0:=by rw[←h5];unfold qv;grind
  rw[this];exact RB.zero hK
 ·exact RB.of hq h5 (Nat.lt_of_lt_of_le h3.h (Nat.pow_le_pow_right aY h1)) (Nat.lt_of_lt_of_le h4.h (Nat.pow_le_pow_right aY h2))
def vat(vs:List Rat)(c i k:Nat):Rat:=vs.getD (i*c+k) 0
theorem yB{r c i k:Nat}(hi:i < r)(hk:k < c):i*c+k < r*c:=by
 have:=Nat.mul_le_mul_right c (show i+1≤r from hi)
 rw[Nat.succ_mul]at this;omega
theorem ano{vs:List Rat}{r c i k:Nat}(hl:vs.length=r*c)(hi:i < r)(hk:k < c):vs[i*c+k]? =some (vat vs c i k):=by
 have h:=yB hi hk;unfold vat;rw[List.getD_eq_getElem?_getD,List.getElem?_eq_getElem (by omega)];rfl
theorem MV.rb{l:List Q4}{vs:List Rat}{K:Nat}(h:MV l vs K)(hK:1≤K):∀v∈vs,RB v K:=by
 intro v hv;obtain⟨i,hi⟩:=List.mem_iff_getElem?.1 hv;have hlt:i < vs.length:=by
  rcases Nat.lt_or_ge i vs.length with h|h
  ·exact h
  ·rw[List.getElem?_eq_none h]at hi;cases hi
 exact Ra.rb (h.ra i _ v (List.getElem?_eq_getElem (show i < l.length by rw[h.len];exact hlt)) hi) hK
theorem adA{c:Nat}{val:Nat→Nat→Rat}{k:Nat}(hk:k < c):∀{r i:Nat},i < r→(mF c val r)[i*c+k]? =some (val i k)
 |0,i,h=>absurd h (Nat.not_lt_zero _)
 |r+1,i,h=>by
  rw[xL];by_cases hi:i < r
  ·rw[List.getElem?_append_left (by rw[mQ];exact yB hi hk)]
   exact adA hk hi
  ·obtain rfl:i=r:=by omega
   rw[List.getElem?_append_right (by rw[mQ];omega),mQ,Nat.add_sub_cancel_left,List.getElem?_map,List.getElem?_range hk];rfl
theorem MV.made{vs:List Rat}{K:Nat}(h:∀v∈vs,RB v K):MV (vs.map q4v) vs K:=by
 refine⟨List.length_map _,fun i q v hq hv=>?_⟩
 rw[List.getElem?_map,hv]at hq
 cases hq;exact(h v (List.mem_of_getElem? hv)).ra
theorem abP(r c:Nat)(l:List Rat):ajx r c l=aam r c (l.map q4v):=by
 have e:ay 4 qC l=ay 4 q4C (l.map q4v):=by
  show aI 4 l.length (l.flatMap qC)=aI 4 (l.map q4v).length ((l.map q4v).flatMap q4C);rw[List.length_map,List.flatMap_map]
 unfold ajx aam;rw[e]
theorem zW{r c:Nat}{n:Nat}{cells:List CA}(hl:n=r*c)(hr:r≤64)(hc:c≤64):PureOK Tryz.prog 82 [.agg [.c (.val (.int .i64 (r:Int))),.c (.val (.int .i64 (c:Int))),.c (.sat (aI 4 n cells))]] (.v (.bool true)):=by
 have h:=(aaK (r:Int) (c:Int) (n:=n) (cells:=cells)).h trivial;rw[decide_eq_true (show 0≤(r:Int)∧(r:Int)≤64∧0≤(c:Int)∧(c:Int)≤64∧(n:Int)=(r:Int)*(c:Int)from ⟨by omega,by omega,by omega,by omega,by rw[hl];simp⟩)]at h
 exact h
abbrev mat0:List Atom:=[.c (.val (.int .i64 0)),.c (.val (.int .i64 0)),.c (.val (.slice none 0 0))]
abbrev ah6(r c:Int)(l:List Q4):List Atom:=[.c (.val (.int .i64 r)),.c (.val (.int .i64 c)),.c (.sat (ay 4 q4C l))]
abbrev eNo(z:Int):AV0:= .one (.c (.val (.int .i64 z)))
def oW(r c:Int)(n:Nat):Prop:=0≤r∧r≤64∧0≤c∧c≤64∧(n:Int)=r*c
end
section
open Go.RowKit QM SX
attribute [local irreducible] IntKind.wrap Go1 Reg WP aQ aR bO bN aN aB aj ah aV Sat
attribute [local irreducible] bS bV bX dx bW qv redS mf
theorem amL{f:FuncId}{E:Env}{S:Nat→Prop}{w:World}{v:Value}(h:(AV.it (.one (.clo f []))).has E S w v):(AV.it (.one (.c (.sat (dM f [] []))))).has E S w v:=
 ⟨[],[],h,trivial,trivial⟩
abbrev gy:=Bool×List Nat×Bool×List Nat
abbrev rq(x:gy):Q4:=(x.1,dJ x.2.1,x.2.2.1,dJ x.2.2.2)
def rqv(x:gy):Rat:=qv (sgn x.1 (nval WB x.2.1)) (sgn x.2.2.1 (nval WB x.2.2.2))
def RSm(l:List gy):Prop:=∀x∈l,Sm WB x.2.1∧Sm WB x.2.2.2
def aoa(l:List gy)(K:Nat):Prop:=∀x∈l,x.2.1.length≤K∧x.2.2.2.length≤K
theorem MV.raw{l:List gy}{K:Nat}(hs:RSm l)(hl:aoa l K):MV (l.map rq) (l.map rqv) K:=by
 refine⟨by rw[List.length_map,List.length_map],fun i q v hq hv=>?_⟩
 rw[List.getElem?_map]at hq hv
 cases hx:l[i]? with
 |none=>rw[hx]at hq;cases hq
 |some x=>
  rw[hx]at hq hv;cases hq;cases hv;have h1:=hs x (List.mem_of_getElem? hx);have h2:=hl x (List.mem_of_getElem? hx);exact Ra.raw ⟨yE h1.1 (Nat.le_refl _)⟩ ⟨yE h1.2 (Nat.le_refl _)⟩ h2.1 h2.2
theorem afK(r c:Int){n:Nat}{cells:List CA}:PureOK Tryz.prog 43 [.agg [.c (.val (.int .i64 r)),.c (.val (.int .i64 c)),.c (.sat (aI 4 n cells))]] (.v (.bool (decide (0≤r∧r≤64∧0≤c∧c≤64∧(n:Int)=r*c)))):=by
 refine PureOK.fnF Tryz.func43 Tryz.results43 Tryz.ntmps43 rfl rfl rfl (by simp[AV.ids,AV0.ids,Atom.ids]) rfl (fun w0 T B E0 hB=>?_)
 by_cases h1:r≥0
 ·by_cases h2:r≤64
  ·by_cases h3:c≥0
   ·by_cases h4:c≤64
    ·have hp:0≤r*c:=Int.mul_nonneg h1 h3;have hp2:r*c≤64*64:=Int.mul_le_mul h2 h4 h3 (by decide)
     refine SX.goM ?_;refine aG ?_;rw[decide_eq_decide];exact⟨fun h=>⟨h1,h2,h3,h4,h⟩,fun h=>h.2.2.2.2⟩
    ·refine SX.goM ?_;refine aG ?_;exact(decide_eq_false fun h=>h4 h.2.2.2.1).symm
   ·refine SX.goM ?_;refine aG ?_;exact(decide_eq_false fun h=>h3 h.2.2.1).symm
  ·refine SX.goM ?_;refine aG ?_;exact(decide_eq_false fun h=>h2 h.2.1).symm
 ·refine SX.goM ?_;refine aG ?_;exact(decide_eq_false fun h=>h1 h.1).symm
def adS(r c:Int)(l:List gy)(s w:Int):Prop:=(∀k x,k < 100→l[k]? =some x→(x.2.1.length:Int)≤w∧(x.2.2.2.length:Int)≤w)∧r≤s∧c≤s∧l.length≤100
theorem anj(r c:Int)(l:List gy)(s w:Int):
  (adS r c l s w→PureOK Tryz.prog 16 [.agg (ah6 r c (l.map rq)),.v (.int .i64 s),.v (.int .i64 w)] (.v (.bool true)))∧
  (¬adS r c l s w→PureOK Tryz.prog 16 [.agg (ah6 r c (l.map rq)),.v (.int .i64 s),.v (.int .i64 w)] (.v (.bool false))):=by
 have hlen:(l.map rq).length=l.length:=List.length_map _;have key:∀(goal:Bool),(goal=true↔adS r c l s w)→PureOK Tryz.prog 16 [.agg (ah6 r c (l.map rq)),.v (.int .i64 s),.v (.int .i64 w)] (.v (.bool goal)):=by
  intro goal hg;refine PureOK.fnF Tryz.func16 Tryz.results16 Tryz.ntmps16 rfl rfl rfl (by simp[AV.ids,AV0.ids,Atom.ids]) rfl (fun w0 T B E0 hB=>?_)
  refine SX.goM ?_;refine W.loop (fun k=>k≤l.length∧k≤100∧∀j x,j < k→l[j]? =some x→(x.2.1.length:Int)≤w∧(x.2.2.2.length:Int)≤w) (fun k=>[(1,.v (.int .i64 s)),(2,.v (.int .i64 w)),(3,.ptr 3 0),(7,.v (.int .i64 (k:Int)))]) (fun k=>[(3,.box 30 (ah6 r c (l.map rq)))]) (fun k=>l.length - k) 0 ⟨Nat.zero_le _,Nat.zero_le _,fun j x h=>absurd h (Nat.not_lt_zero _)⟩ (fun k ⟨hk,hk2,he⟩=>?_)
  by_cases h:k < l.length
  ·have h':k < (l.map rq).length:=by omega
   by_cases h2:k < 100
   ·obtain⟨x,hx⟩:∃x,l[k]? =some x:=⟨_,List.getElem?_eq_getElem h⟩
    have hq:(l.map rq)[k]? =some (rq x):=by rw[List.getElem?_map,hx];rfl
    have cF:=(ahP x.1 x.2.1 x.2.2.1 x.2.2.2 w).h trivial;by_cases h3:(x.2.1.length:Int)≤w∧(x.2.2.2.length:Int)≤w
    ·rw[decide_eq_true h3]at cF;refine SX.goM ?_;refine W.next (k+1) ⟨h,h2,fun j b hj hb=>?_⟩ (by omega)
     by_cases hjk:j < k
     ·exact he j b hjk hb
     ·obtain rfl:j=k:=by omega
      rw[hx]at hb;rw[←Option.some.inj hb];exact h3
    ·rw[decide_eq_false h3]at cF;refine SX.goM ?_;refine aG ?_;exact(Bool.eq_false_iff.2 fun ht=>h3 ((hg.1 ht).1 k x h2 hx)).symm
   ·obtain rfl:k=100:=by omega
    have hno:¬(l.map rq).length≤100:=by omega
    by_cases h3:r≤s
    ·by_cases h4:c≤s
     ·refine SX.goM ?_;refine aG ?_;rw[Bool.eq_iff_iff,hg,decide_eq_true_iff];exact⟨fun h=>by omega,fun h=>by have:=h.2.2.2;omega⟩
     ·refine SX.goM ?_;refine aG ?_;exact(Bool.eq_false_iff.2 fun ht=>h4 (hg.1 ht).2.2.1).symm
    ·refine SX.goM ?_;refine aG ?_;exact(Bool.eq_false_iff.2 fun ht=>h3 (hg.1 ht).2.1).symm
  ·obtain rfl:k=l.length:=by omega
   have h':¬l.length < (l.map rq).length:=by omega
   have all:∀k x,k < 100→l[k]? =some x→(x.2.1.length:Int)≤w∧(x.2.2.2.length:Int)≤w:=fun j x hj hx=>by
    have hjl:j < l.length:=by
     rcases Nat.lt_or_ge j l.length with h|h
     ·exact h
     ·rw[List.getElem?_eq_none h]at hx;cases hx
    exact he j x hjl hx
   by_cases h3:r≤s
   ·by_cases h4:c≤s
    ·refine SX.goM ?_;refine aG ?_;rw[Bool.eq_iff_iff,hg,decide_eq_true_iff];exact⟨fun h=>⟨all,h3,h4,by omega⟩,fun h=>by have:=h.2.2.2;omega⟩
    ·refine SX.goM ?_;refine aG ?_;exact(Bool.eq_false_iff.2 fun ht=>h4 (hg.1 ht).2.2.1).symm
   ·refine SX.goM ?_;refine aG ?_;exact(Bool.eq_false_iff.2 fun ht=>h3 (hg.1 ht).2.1).symm
 exact⟨fun h=>key true ⟨fun _=>h,fun _=>rfl⟩,fun h=>key false ⟨fun h=>(by cases h),fun h2=>absurd h2 h⟩⟩
end
section
open Go.RowKit QM SX LA
attribute [local irreducible] IntKind.wrap Go1 Reg WP aQ aR bO bN aN aB aj ah aV Sat
attribute [local irreducible] bS bV bX dx bW qv redS mf
section
section
variable{l l':List Atom}{v:Rat}{K K':Nat}
end
theorem akc:PureOK Tryz.prog 42 [.v (.int .i64 1)] (.agg (zN 1)):=apA.h ⟨by decide,by decide⟩
theorem jZ{α:Type}{l:List α}{i:Nat}{a:α}(h:l[i]? =some a):i < l.length:=by
 rcases Nat.lt_or_ge i l.length with h2|h2
 ·exact h2
 ·rw[List.getElem?_eq_none h2]at h;cases h
end
abbrev Z2:=Bool×Rep
abbrev z2A(q:Z2):List Atom:=[.c (.val (.bool q.1)),.c (.sat q.2)]
abbrev z2C(q:Z2):List CA:=[.val (.bool q.1),.sat q.2]
instance:dU z2C 2:=⟨fun _=>rfl⟩
abbrev zC(z:Int):List CA:=[.val (.bool (decide (z < 0))),.sat (bB z.natAbs)]
abbrev z2v(z:Int):Z2:=(decide (z < 0),bB z.natAbs)
structure ZQ(q:Z2)(z:Int)(K:Nat):Prop where
 h:∃n k,z=sgn q.1 n∧NI (.sat q.2) n k∧k≤K
 b:z.natAbs < WB ^ K
theorem NI.le{a:CA}{n k K:Nat}(x:NI a n k)(hK:k≤K):NI a n K:=⟨fun S w v h=>by
 obtain⟨l,h1,h2,h3⟩:=vB.1 (x.p S w v h);exact vB.2 ⟨l,h1,Nat.le_trans h2 hK,h3⟩⟩
theorem ZQ.zi{q:Z2}{z:Int}{K:Nat}(h:ZQ q z K):ZI (z2A q) z K:=by
 obtain⟨n,k,h1,h2,h3⟩:=h.h;exact h1▸ZI.mk' (neg:=q.1) (h2.le h3)
theorem afP(z:Int):sgn (decide (z < 0)) z.natAbs=z:=by
 unfold sgn;by_cases h:z < 0
 ·rw[decide_eq_true h];simp;omega
 ·rw[decide_eq_false h];simp;omega
theorem ZQ.made{z:Int}{K:Nat}(h:z.natAbs < WB ^ K):ZQ (z2v z) z K:=
 ⟨⟨z.natAbs,K,(afP z).symm,NI.aaL h,Nat.le_refl _⟩,h⟩
theorem ZQ.raw{b:Bool}{l:List Nat}{K:Nat}(hs:Sm WB l)(hl:l.length≤K):ZQ (b,dJ l) (sgn b (nval WB l)) K:=
 ⟨⟨_,_,rfl,NI.raw l,hl⟩,by
  have h1:(sgn b (nval WB l)).natAbs=nval WB l:=by unfold sgn;split <;> omega
  rw[h1];exact Nat.lt_of_lt_of_le (yE hs (Nat.le_refl _)) (Nat.pow_le_pow_right aY hl)⟩
theorem ZQ.mono{q:Z2}{z:Int}{K L:Nat}(h:ZQ q z K)(hK:K≤L):ZQ q z L:=by
 obtain⟨n,k,h1,h2,h3⟩:=h.h;exact⟨⟨n,k,h1,h2,by omega⟩,Nat.lt_of_lt_of_le h.b (Nat.pow_le_pow_right aY hK)⟩
theorem ZQ.ra{q d:Z2}{z y:Int}{K L:Nat}(h:ZQ q z K)(k:ZQ d y L):Ra (q4A (q.1,q.2,d.1,d.2)) (qv z y) (max K L):=by
 exact⟨_,_,_,_,z,y,K,L,rfl,h.zi,k.zi,by omega,by omega,⟨h.b⟩,⟨k.b⟩,rfl⟩
structure MZ(l:List Z2)(zs:List Int)(K:Nat):Prop where
 len:l.length=zs.length
 z:∀(i:Nat) q z,l[i]? =some q→zs[i]? =some z→ZQ q z K
abbrev afL(r c:Nat)(l:List Z2):List Atom:=[.c (.val (.int .i64 (r:Int))),.c (.val (.int .i64 (c:Int))),.c (.sat (ay 2 z2C l))]
abbrev zh(r c:Nat)(l:List Int):List Atom:=[.c (.val (.int .i64 (r:Int))),.c (.val (.int .i64 (c:Int))),.c (.sat (ay 2 zC l))]
def zat(zs:List Int)(c i k:Nat):Int:=zs.getD (i*c+k) 0
theorem adb{zs:List Int}{r c i k:Nat}(hl:zs.length=r*c)(hi:i < r)(hk:k < c):zs[i*c+k]? =some (zat zs c i k):=by
 have h:=yB hi hk;unfold zat;rw[List.getD_eq_getElem?_getD,List.getElem?_eq_getElem (by omega)];rfl
theorem MZ.at{r c i k K:Nat}{l:List Z2}{zs:List Int}(hM:MZ l zs K)(hl:l.length=r*c)(hi:i < r)(hk:k < c):∃q,l[i*c+k]? =some q∧ZQ q (zat zs c i k) K:=by
 have h:=yB hi hk;obtain⟨q,hq⟩:∃q,l[i*c+k]? =some q:=⟨_,List.getElem?_eq_getElem (by omega)⟩
 exact⟨q,hq,hM.z _ _ _ hq (adb (by rw[←hM.len];exact hl) hi hk)⟩
theorem ajX(r c:Nat)(l:List Int):zh r c l=afL r c (l.map z2v):=by
 have e:ay 2 zC l=ay 2 z2C (l.map z2v):=by
  show aI 2 l.length (l.flatMap zC)=aI 2 (l.map z2v).length ((l.map z2v).flatMap z2C);rw[List.length_map,List.flatMap_map]
 unfold zh afL;rw[e]
theorem MZ.made{zs:List Int}{K:Nat}(h:∀z∈zs,z.natAbs < WB ^ K):MZ (zs.map z2v) zs K:=by
 refine⟨List.length_map _,fun i q z hq hz=>?_⟩
 rw[List.getElem?_map,hz]at hq
 cases hq;exact ZQ.made (h z (List.mem_of_getElem? hz))
instance sO(n:Int):Con Tryz.prog 365 [.v (.int .i64 n)] True (.v (.bool (decide (0≤n∧n≤64)))):=⟨fun _=>by
 refine PureOK.fnF Tryz.func365 Tryz.results365 Tryz.ntmps365 rfl rfl rfl (by simp[AV.ids,AV0.ids,Atom.ids]) rfl (fun w0 T B E0 hB=>?_)
 by_cases h1:n≥0
 ·by_cases h2:n≤64
  ·refine SX.goM ?_;refine aG ?_;rw[decide_eq_true (show 0≤n∧n≤64 from ⟨h1,h2⟩)];exact decide_eq_true h2
  ·refine SX.goM ?_;refine aG ?_;rw[decide_eq_false (show¬(0≤n∧n≤64)from fun h=>h2 h.2)];exact decide_eq_false h2
 ·refine SX.goM ?_;refine aG ?_;rw[decide_eq_false (show¬(0≤n∧n≤64)from fun h=>h1 h.1)]⟩
theorem aex(r c:Int){n:Nat}{cells:List CA}(goal:Bool)(hg:goal=true↔oW r c n):PureOK Tryz.prog 370 [.agg [.c (.val (.int .i64 r)),.c (.val (.int .i64 c)),.c (.sat (aI 2 n cells))]] (.v (.bool goal)):=by
 have s1:=(sO r).h trivial;have s2:=(sO c).h trivial;refine PureOK.fnF Tryz.func370 Tryz.results370 Tryz.ntmps370 rfl rfl rfl (by simp[AV.ids,AV0.ids,Atom.ids]) rfl (fun w0 T B E0 hB=>?_)
 by_cases h1:0≤r∧r≤64
 ·rw[decide_eq_true h1]at s1;by_cases h2:0≤c∧c≤64
  ·rw[decide_eq_true h2]at s2;have hp:0≤r*c:=Int.mul_nonneg h1.1 h2.1;have hp2:r*c≤64*64:=Int.mul_le_mul h1.2 h2.2 h2.1 (by decide)
   refine SX.goM ?_;refine aG ?_;rw[Bool.eq_iff_iff,hg,decide_eq_true_iff];exact⟨fun h=>⟨h1.1,h1.2,h2.1,h2.2,h⟩,fun h=>h.2.2.2.2⟩
  ·rw[decide_eq_false h2]at s2;refine SX.goM ?_;refine aG ?_;exact(Bool.eq_false_iff.2 fun ht=>h2 ⟨(hg.1 ht).2.2.1,(hg.1 ht).2.2.2.1⟩).symm
 ·rw[decide_eq_false h1]at s1;refine SX.goM ?_;refine aG ?_;exact(Bool.eq_false_iff.2 fun ht=>h1 ⟨(hg.1 ht).1,(hg.1 ht).2.1⟩).symm
theorem ah4{r c:Int}{n:Nat}{cells:List CA}(h:oW r c n):PureOK Tryz.prog 370 [.agg [.c (.val (.int .i64 r)),.c (.val (.int .i64 c)),.c (.sat (aI 2 n cells))]] (.v (.bool true)):=aex r c true ⟨fun _=>h,fun _=>rfl⟩
theorem oW.nat{r c n:Nat}(hr:r≤64)(hc:c≤64)(h:n=r*c):oW r c n:=⟨by omega,by omega,by omega,by omega,by rw[h];simp⟩
theorem amT{r c i k:Nat}{l:List Z2}{q:Z2}(hq:l[i*c+k]? =some q)(hi:i≤1000)(hc:c≤1000)(hk:k≤1000):
  PureOK Tryz.prog 469 [.agg (afL r c l),.v (.int .i64 (i:Int)),.v (.int .i64 (k:Int))] (.agg (z2A q)):=by
 have hb:=Nat.mul_le_mul hi hc;have hlt:=jZ hq;refine PureOK.fnF Tryz.func469 Tryz.results469 Tryz.ntmps469 rfl rfl rfl (by simp[AV.ids,AV0.ids,Atom.ids]) rfl (fun w0 T B E0 hB=>?_)
 refine SX.goM ?_;exact nC (aj.gD rfl rfl rfl) rfl
theorem aon{r c i:Nat}{l:List Z2}(h:i < r):PureOK Tryz.prog 468 [.agg (afL r c l),.v (.int .i64 (i:Int))] (.v (.bool true)):=by
 refine PureOK.fnF Tryz.func468 Tryz.results468 Tryz.ntmps468 rfl rfl rfl (by simp[AV.ids,AV0.ids,Atom.ids]) rfl (fun w0 T B E0 hB=>?_)
 refine SX.goM ?_;refine aG ?_;exact decide_eq_true (by omega)
theorem agQ{q:Z2}{z:Int}{K:Nat}(h:ZQ q z K)(hK:K≤1000000):PureOK Tryz.prog 62 [.it (.one (.c (.sat q.2))),.v (.bool q.1)] (.agg (zN z)):=by
 obtain⟨n,k,h1,h2,h3⟩:=h.h;rw[h1];exact acz (h:=h2) q.1 |>.h (by omega)
theorem aiy{r c i k:Nat}{l:List Z2}{zs:List Int}{K:Nat}(hM:MZ l zs K)(hl:l.length=r*c)(hr:r≤64)(hc:c≤64)(hi:i < r)(hk:k < c)(hK:K≤1000000):
  PureOK Tryz.prog 380 [.agg (afL r c l),.v (.int .i64 (i:Int)),.v (.int .i64 (k:Int))] (.agg (zN (zat zs c i k))):=by
 obtain⟨q,hq,hz⟩:=hM.at hl hi hk;have cg:=amT (r:=r) hq (by omega) (by omega) (by omega)
 have ch:=aon (c:=c) (l:=l) hi;have cF:=ah4 (cells:=l.flatMap z2C) (oW.nat hr hc hl);have cR:=agQ hz hK;refine PureOK.fnF Tryz.func380 Tryz.results380 Tryz.ntmps380 rfl rfl rfl (by simp[AV.ids,AV0.ids,Atom.ids]) rfl (fun w0 T B E0 hB=>?_)
 refine SX.goM ?_;exact nC (aj.gD rfl rfl rfl) rfl
def lH(c:Nat)(val:Nat→Nat→Int)(i:Nat):List Int:=(List.range i).flatMap fun i=>(List.range c).map (val i)
theorem ala{c:Nat}{val:Nat→Nat→Int}:lH c val 0=[]:=rfl
theorem abQ{c i:Nat}{val:Nat→Nat→Int}:lH c val (i+1)=lH c val i++(List.range c).map (val i):=by
 unfold lH;rw[List.range_succ,List.flatMap_append];simp
theorem vD{c:Nat}{val:Nat→Nat→Int}:∀i,(lH c val i).length=i*c
 |0=>by simp[ala]
 |i+1=>by rw[abQ,List.length_append,vD i];simp[Nat.succ_mul]
theorem aq4{c r K:Nat}{val:Nat→Nat→Int}(h:∀i k,i < r→k < c→(val i k).natAbs < WB ^ K):∀v∈lH c val r,v.natAbs < WB ^ K:=by
 intro v hv;unfold lH at hv;obtain⟨i,hi,hv⟩:=List.mem_flatMap.1 hv;obtain⟨k,hk,rfl⟩:=List.mem_map.1 hv;exact h i k (List.mem_range.1 hi) (List.mem_range.1 hk)
def abB(val:Nat→Nat→Int)(i k:Nat):List Int:=(List.range k).map (val i)
theorem ajD{val:Nat→Nat→Int}{i k:Nat}:abB val i (k+1)=abB val i k++[val i k]:=by
 unfold abB;rw[List.range_succ,List.map_append];rfl
theorem akw(r c:Nat)(x:CA)(L:Nat→Nat→Z2)(val:Nat→Nat→Int)(K:Nat)(hr:r≤100)(hc:c≤100)(hK:K≤1000000)
  (hx:∀i k,i < r→k < c→FnV Tryz.prog x [.v (.int .i64 (i:Int)),.v (.int .i64 (k:Int))] (.agg (z2A (L i k)))) (hL:∀i k,i < r→k < c→ZQ (L i k) (val i k) K) (hx1:x.dO=true):
  PureOK Tryz.prog 366 [.v (.int .i64 (r:Int)),.v (.int .i64 (c:Int)),.it (.one (.c x))] (.agg (zh r c (lH c val r))):=by
 refine PureOK.fnF Tryz.func366 Tryz.results366 Tryz.ntmps366 rfl rfl rfl (by simp[AV.ids,AV0.ids,Atom.ids]) rfl (fun w0 T B E0 hB=>?_)
 refine SX.goM ?_;refine W.loop (fun i=>i≤r) (fun i=>[(1,.v (.int .i64 (c:Int))),(2,.it (.one (.c x))),(6,.ptr 6 0),(7,.ptr 7 0),(14,.v (.int .i64 (r:Int))),(15,.v (.int .i64 (i:Int)))]) (fun i=>[(6,.box 281 [.c (.val (.int .i64 0)),.c (.val (.int .i64 0)),.c (.val (.slice none 0 0))]),(7,.box 281 [.c (.val (.int .i64 (r:Int))),.c (.val (.int .i64 (c:Int))),.own 100]),(100,.row 25 2 (i*c) ((lH c val i).flatMap zC))]) (fun i=>r - i) 0 (Nat.zero_le _) (fun i hi=>?_)
  (by
   refine SX.St.aW [(100,none)] (by intro b h;cases h) ?_ ?_ rfl
   ·repeat(first|exact trivial|refine⟨⟨_,rfl,SX.aC.same rfl⟩,?_⟩)
   ·exact⟨SX.ak.same rfl rfl,SX.ak.oK rfl rfl ⟨aO.same rfl,aO.same rfl,aO.nil rfl,trivial⟩,by rw[Nat.zero_mul];exact SX.ak.bU rfl,trivial⟩)
 by_cases h:i < r
 ·refine SX.goM ?_;refine W.loop (fun k=>k≤c) (fun k=>[(1,.v (.int .i64 (c:Int))),(2,.it (.one (.c x))),(6,.ptr 6 0),(7,.ptr 7 0),(8,.v (.int .i64 (i:Int))),(14,.v (.int .i64 (r:Int))),(15,.v (.int .i64 (i:Int))),(18,.v (.int .i64 (c:Int))),(19,.v (.int .i64 (k:Int)))]) (fun k=>[(6,.box 281 [.c (.val (.int .i64 0)),.c (.val (.int .i64 0)),.c (.val (.slice none 0 0))]),(7,.box 281 [.c (.val (.int .i64 (r:Int))),.c (.val (.int .i64 (c:Int))),.own 100]),(100,.row 25 2 (i*c+k) ((lH c val i++abB val i k).flatMap zC))]) (fun k=>c - k) 0 (Nat.zero_le _) (fun k hk=>?_)
   (by
    have e:Ent.row 25 2 (i*c) ((lH c val i).flatMap zC)=Ent.row 25 2 (i*c+0) ((lH c val i++abB val i 0).flatMap zC):=by simp[abB]
    refine SX.St.aW [] (by intro b h;cases h) ?_ ?_ rfl
    ·repeat(first|exact trivial|refine⟨⟨_,rfl,SX.aC.same rfl⟩,?_⟩)
    ·exact⟨SX.ak.same rfl rfl,SX.ak.same rfl rfl,SX.ak.eq rfl e rfl,trivial⟩)
  by_cases h2:k < c
  ·have hf:=hx i k h h2;have cR:=agQ (hL i k h h2) hK;have hlen:i*c+k≤20000:=by
    have:=Nat.mul_le_mul (show i≤100 by omega) hc
    omega
   refine SX.goM ?_;refine W.next (k+1) h2 (by omega) (by
    have e2:(lH c val i++abB val i k).flatMap zC++zC (val i k)=(lH c val i++abB val i (k+1)).flatMap zC:=by
     rw[ajD,←List.append_assoc,List.flatMap_append (xs:=lH c val i++abB val i k)];simp
    refine SX.St.aW [(100,some 34)] (by intro b h;cases h) ?_ ?_ rfl
    ·repeat(first|exact trivial|refine⟨⟨_,rfl,SX.aC.same rfl⟩,?_⟩)
    ·exact⟨SX.ak.same rfl rfl,SX.ak.oK rfl rfl ⟨aO.same rfl,aO.same rfl,aO.own rfl,trivial⟩,SX.ak.row rfl rfl (by omega) e2,trivial⟩)
  ·obtain rfl:k=c:=by omega
   refine SX.goM ?_;refine W.next (i+1) h (by omega) (by
    have e2:Ent.row 25 2 (i*k+k) ((lH k val i++abB val i k).flatMap zC)=Ent.row 25 2 ((i+1)*k) ((lH k val (i+1)).flatMap zC):=by rw[Nat.succ_mul,abQ];rfl
    refine SX.St.aW [] (by intro b h;cases h) ?_ ?_ rfl
    ·repeat(first|exact trivial|refine⟨⟨_,rfl,SX.aC.same rfl⟩,?_⟩)
    ·exact⟨SX.ak.same rfl rfl,SX.ak.same rfl rfl,SX.ak.eq rfl e2 rfl,trivial⟩)
 ·obtain rfl:i=r:=by omega
  refine SX.goM ?_;have hm:zh i c (lH c val i)=[.c (.val (.int .i64 (i:Int))),.c (.val (.int .i64 (c:Int))),.c (.sat (aI 2 (i*c) ((lH c val i).flatMap zC)))]:=by
   show [_,_,Atom.c (.sat (aI 2 (lH c val i).length _))]=_;rw[vD]
  rw[hm];refine aN.frz 100 ?_;exact nC (aj.aT rfl rfl rfl) rfl
theorem asV{z:Int}(h1: -9223372036854775808≤z)(h2:z≤9223372036854775807):z.natAbs < WB ^ 1:=by
 rw[Nat.pow_one,aX];omega
end
section
open Go.RowKit QM SX LA
section
section
attribute [local irreducible] IntKind.wrap Go1 Reg WP aQ aR bO bN aN aB aj ah aV Sat
attribute [local irreducible] bS bV bX dx bW qv redS mf
theorem ak3{r c i k:Nat}{l:List Z2}{zs:List Int}{K:Nat}{d:Z2}(hM:MZ l zs K)(hl:l.length=r*c)(hr:r≤64)(hc:c≤64)(hi:i < r)(hk:k < c)(hK:K≤1000000):
  PureOK Tryz.prog 528 [.v (.int .i64 (i:Int)),.v (.int .i64 (k:Int)),.r (bK [.val (.int .i64 (r:Int)),.val (.int .i64 (c:Int)),.sat (ay 2 z2C l)]),.r (bK [.val (.bool d.1),.sat d.2])] (.agg (q4A ((z2v (zat zs c i k)).1,(z2v (zat zs c i k)).2,d.1,d.2))):=by
 have cA:=aiy hM hl hr hc hi hk hK;refine PureOK.fnF Tryz.func528 Tryz.results528 Tryz.ntmps528 rfl rfl rfl (by simp[AV.ids,AV0.ids,Atom.ids]) rfl (fun w0 T B E0 hB=>?_)
 refine SX.goM ?_;exact nC (aj.vN rfl rfl rfl) rfl
theorem al0{r c:Nat}{l:List Z2}{zs:List Int}{K L:Nat}{d:Z2}{y:Int}(hM:MZ l zs K)(hl:l.length=r*c)(hr:r≤64)(hc:c≤64)(hd:ZQ d y L)(hy:y≠0)(hK:K≤10000)(hL:L≤10000)(hKL:K≤L):
  PureOK Tryz.prog 457 [.agg (afL r c l),.agg (z2A d)] (.tup [.agg (ajx r c (mF c (fun i k=>qv (zat zs c i k) y) r)),eNo 0]):=by
 have cF:=ah4 (cells:=l.flatMap z2C) (oW.nat hr hc hl)
 haveI:=hd.zi
 have cS:=(mI (l:=z2A d) (x:=y)).h (by omega)
 have hs:¬aU y=0:=fun e=>hy ((ad5 y).1 e)
 have cM:=aeJ r c (.sat (dM 528 [] [.sat (bK [.val (.int .i64 (r:Int)),.val (.int .i64 (c:Int)),.sat (ay 2 z2C l)]),.sat (bK [.val (.bool d.1),.sat d.2])])) (fun i k=>((z2v (zat zs c i k)).1,(z2v (zat zs c i k)).2,d.1,d.2)) (fun i k=>qv (zat zs c i k) y) (max K L) (by omega) (by omega) (by omega)
  (fun i k hi hk=>FnV.clo (ak3 hM hl hr hc hi hk (by omega)))
  (fun i k hi hk=>by
   obtain⟨q,_,hz⟩:=hM.at hl hi hk;exact(ZQ.made hz.b).ra hd) rfl
 refine PureOK.fnF Tryz.func457 Tryz.results457 Tryz.ntmps457 rfl rfl rfl (by simp[AV.ids,AV0.ids,Atom.ids]) rfl (fun w0 T B E0 hB=>?_)
 refine SX.goM ?_;refine SX.WP.eX 2 hB rfl rfl ?_;refine SX.WP.eX 3 hB rfl rfl ?_;refine SX.WP.dh ?_;refine SX.goM ?_;exact .ok (aB.mk2 (aj.aT rfl rfl rfl) (aj.tmp rfl))
theorem zq1:ZQ (z2v 1) 1 1:=ZQ.made (by rw[Nat.pow_one,aX];decide)
theorem anD{r c:Nat}{l:List Z2}{zs:List Int}{K:Nat}(hM:MZ l zs K)(hl:l.length=r*c)(hr:r≤64)(hc:c≤64)(hK:K≤10000)(hK1:1≤K):
  PureOK Tryz.prog 375 [.agg (afL r c l)] (.tup [.agg (ajx r c (mF c (fun i k=>qv (zat zs c i k) 1) r)),eNo 0]):=by
 have o1:=akc;have cO:=al0 hM hl hr hc (zq1.mono hK1) (by decide) hK hK (Nat.le_refl _)
 refine PureOK.fnF Tryz.func375 Tryz.results375 Tryz.ntmps375 rfl rfl rfl (by simp[AV.ids,AV0.ids,Atom.ids]) rfl (fun w0 T B E0 hB=>?_)
 refine SX.goM ?_;exact .ok (aB.mk2 (aj.aT rfl rfl rfl) (aj.tmp rfl))
end
end
section
def awV:List Rat:=mF 2 (fun i k=>qv (zat (lH 2 (zat [1,2,3,4] 2) 2) 2 i k) 1) 2
section
attribute [local irreducible] IntKind.wrap Go1 Reg WP aQ aR bO bN aN aB aj ah aV Sat
attribute [local irreducible] bS bV bX dx bW qv redS mf awV
end
end
end
end Go.Proofs.YtmgfiodmdfaclaaGreatDoor