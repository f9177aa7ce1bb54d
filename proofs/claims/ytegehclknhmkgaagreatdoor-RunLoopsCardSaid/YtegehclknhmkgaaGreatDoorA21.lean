import Derived.Test.YtegehclknhmkgaaGreatDoorA20
import Derived.Test.YtegehclknhmkgaaGreatDoorA18
set_option linter.unusedVariables false
set_option linter.unusedSimpArgs false
namespace Go.Proofs.YtegehclknhmkgaaGreatDoor
open Go.RowKit SX
section
section
theorem aov(n:Nd):cnt n=1+ig n.kids:=by cases n;rw[eF];rfl
theorem vw:∀L:List Nd,ig (L.flatMap Nd.kids)+L.length=ig L
 |[]=>by simp[bD]
 |k::ks=>by rw[List.flatMap_cons,dR,aS,aov,List.length_cons,←vw ks];omega
theorem ahL(L:List Nd)(j:Nat):ig ((L.take j).flatMap Nd.kids)≤ig L:=by
 have h1:=vw (L.take j);have h2:ig (L.take j++L.drop j)=ig L:=by rw[List.take_append_drop]
 rw[dR]at h2;omega
theorem acK(L:List Nd)(j:Nat):((L.take j).flatMap Nd.kids).length≤ig L:=Nat.le_trans (rR _) (ahL L j)
theorem aaX{L:List Nd}{j:Nat}{n:Nd}(h:L[j]? =some n):(L.take (j+1)).flatMap Nd.kids=(L.take j).flatMap Nd.kids++n.kids:=by
 rw[List.take_add_one,h];simp
mutual
def dep:Nd→Nat
 | .mk _ _ ks=>if ks.isEmpty then 0 else 1+jQ ks
def jQ:List Nd→Nat
 |[]=>0
 |k::ks=>max (dep k) (jQ ks)
end
theorem jZ:jQ []=0:=by rw[jQ]
theorem jE(k:Nd)(ks:List Nd):jQ (k::ks)=max (dep k) (jQ ks):=by rw[jQ]
theorem uK(n:Nd):dep n=if n.kids.isEmpty then 0 else 1+jQ n.kids:=by cases n;rw[dep];rfl
theorem vS:∀ks ms:List Nd,jQ (ks++ms)=max (jQ ks) (jQ ms)
 |[],ms=>by simp[jZ]
 |k::ks,ms=>by rw[List.cons_append,jE,jE,vS ks ms];omega
theorem aaK:∀L:List Nd,jQ L=if L.flatMap Nd.kids=[]then 0 else 1+jQ (L.flatMap Nd.kids)
 |[]=>by simp[jZ]
 |k::ks=>by
  rw[jE,uK,aaK ks,List.flatMap_cons,vS];cases hk:k.kids with
  |nil=>simp[jZ]
  |cons a b=>
   by_cases h:ks.flatMap Nd.kids=[]
   ·simp[h,jZ]
   ·simp[h,Nat.add_max_add_left]
theorem abC:∀L:List Nd,jQ L≤ig L
 |[]=>by simp[jZ]
 | .mk o t ks::ms=>by
  have h1:=abC ks;have h2:=abC ms;rw[jE,aS,eF,dep]
  split <;> omega
attribute [local irreducible] IntKind.wrap Go1 Reg WP aN aQ bM bI aL aC aj ah aT Sat
def ndE(n:Nd):List CA:=caN n
instance:eB ndE 3:=⟨fun n=>rfl⟩
theorem agB(l:List Nd):AV.r (aF 3 ndC l)=AV.r (aF 3 ndE l):=by rw[show ndC=ndE from funext aD]
structure DeS where
 n:Nat
 L:List Nd
 out:Nat
instance apZ(l:List Nd):Con Tryz.prog 86 [.r (aF 3 ndC l)] (ig l≤1000000000) (.v (.int .i64 (jQ l:Int))):=⟨fun hl=>by
 have hd:=abC l;have hrow:=agB l;refine PureOK.fnF Tryz.func86 Tryz.results86 Tryz.ntmps86 rfl rfl rfl (by simp[AV.ids,AV0.ids,Atom.ids]) rfl (fun w0 T B E0 hB=>?_)
 refine SX.goM ?_;refine W.loop (fun q:DeS=>(q.L≠[]→jQ l=q.n+jQ q.L)∧(q.L=[]→jQ l=q.out)∧ig q.L+q.n≤ig l∧q.out≤q.n) (fun q=>[(3,.r (aF 3 ndE q.L)),(4,.v (.int .i64 (q.out:Int))),(5,.v (.int .i64 (q.n:Int)))]) (fun _=>[]) (fun q=>ig q.L) ⟨0,l,0⟩ ⟨fun _=>by dsimp only;omega,fun h=>by dsimp only at*;subst h;exact jZ,by dsimp only;omega,Nat.le_refl _⟩ (fun q hq=>?_)
 obtain⟨n,L,out⟩:=q
 dsimp only at hq
 obtain⟨h1,h2,h3,h4⟩:=hq;show WP _ _ _ (eZ [(3,.r (aF 3 ndE L)),(4,.v (.int .i64 (out:Int))),(5,.v (.int .i64 (n:Int)))] []) _;have hlen:=rR L;refine SX.goM ?_;refine W.lC (fun(j:Nat) (M:List Nd)=>j≤L.length∧M=(L.take j).flatMap Nd.kids) (fun j M=>[(3,.r (aF 3 ndE L)),(4,.v (.int .i64 (out:Int))),(5,.v (.int .i64 (n:Int))),(6,.own 100),(12,.r (aF 3 ndE L)),(13,.v (.int .i64 (L.length:Int))),(14,.v (.int .i64 (j:Int)))]) (fun j M=>[(100,NR M)]) (fun j _=>L.length - j) 0 [] ⟨Nat.zero_le _,rfl⟩ (fun j M ⟨hj,hM⟩=>?_)
 have hm:=acK L j;rw[←hM]at hm;by_cases hlt:j < L.length
 ·obtain⟨k,hk⟩:∃k,L[j]? =some k:=⟨_,List.getElem?_eq_getElem hlt⟩
  have hm2:=acK L (j+1);rw[aaX hk,←hM,List.length_append]at hm2;refine SX.goM ?_;exact W.kG (j+1) (M++k.kids) ⟨by omega,by rw[hM,aaX hk]⟩ (by omega)
   (by
    refine SX.St.bG [(100,some 21)] (by intro b h;cases h) ?_ ?_ rfl
    ·repeat(first|exact trivial|refine⟨⟨_,rfl,SX.aG.same rfl⟩,?_⟩|refine⟨⟨_,rfl,SX.aG.own rfl⟩,?_⟩)
    ·exact⟨SX.ak.row rfl rfl (by simp) (by simp),trivial⟩)
 ·have hrow2:=agB M;refine WP.freeze 100 hB rfl ?_;have hj:L.take j=L:=List.take_of_length_le (by omega)
  rw[hj]at hM;have hdf:=aaK L;have hcf:=vw L;rw[←hM]at hdf hcf;by_cases h0:L.length=0
  ·have hL:=List.eq_nil_of_length_eq_zero h0;refine SX.goM ?_;exact iN (by rw[h2 hL])
  ·have hL:L≠[]:=fun e=>h0 (by rw[e];rfl)
   refine SX.goM ?_;exact W.next ⟨n+1,M,n⟩ ⟨fun h=>by dsimp only at*;rw[if_neg h]at hdf;have:=h1 hL;omega,fun h=>by dsimp only at*;rw[if_pos h]at hdf;have:=h1 hL;omega,by dsimp only;omega,by dsimp only;omega⟩ (by dsimp only;omega)
    (SX.St.bG [] (by intro b h;cases h) ⟨⟨_,rfl,SX.aG.eq hrow2 rfl⟩,⟨_,rfl,SX.aG.same rfl⟩,⟨_,rfl,SX.aG.same rfl⟩,trivial⟩ trivial rfl)⟩
structure CoS where
 L:List Nd
 c:Nat
end
section
def sW(l:List Tok)(S:Gr):Nat→List Nd→Gr
 |0,_=>fun a o=> .bad 4 a nd0 a o
 |f+1,ks=>fun a o=>if a < l.length then(match S a o with
  | .bad e p n a' o'=> .bad e p (.mk 0 [] (ks++[n])) a' o'
  | .ok n a'=>sW l S f (ks++[n]) a' o)
  else .ok (.mk 0 [] ks) a
def adC(l:List Tok):Res:=sW l (zV 600 l (l.length+1)) (l.length+1) [] 0 0
def ah8(ks:List Nd)(d:Int):List Nd×Nat×Nat:=if d < (jQ ks:Int)then([],0,8)else(ks,0,0)
def qF(l:List Tok)(d:Int):List Nd×Nat×Nat:=
 if d < 0∨200 < d then([],0,1)else
 if l.all fV then(match adC l with
  | .bad e p _ _ _=>([],p,e)
  | .ok n _=>ah8 n.kids d)
 else([],0,1)
abbrev tupP(r:List Nd×Nat×Nat):AV:= .tup [.one (.c (.sat (aF 3 ndC r.1))),.one (.c (.val (.int .i64 (r.2.1:Int)))),.one (.c (.val (.int .i64 (r.2.2:Int))))]
theorem an1{t:Tok}(h:fV t=true)(ht:t.text=[61]):t.kind≠1:=by
 intro hk;have hs:srt 61=5:=by unfold srt;decide
 have hn:num [61]=false:=by unfold num dgL;simp[hs]
 unfold fV at h;rw[if_pos hk,ht,hn]at h;cases h
theorem ht_of{l:List Tok}(h:l.all fV=true):HT l:=fun i t ht he=>an1 (List.all_eq_true.1 h t (List.mem_of_getElem? ht)) he
def prS(l:List Tok)(S:Gr)(q:LiS):Res:=match q.b with
 |none=>sW l S q.f q.ks q.a q.o
 |some (e,p)=> .bad e p (.mk 0 [] q.ks) q.a q.o
attribute [local irreducible] IntKind.wrap Go1 Reg WP aN aQ bM bI aL aC aj ah aT Sat
theorem amU(l:List Tok)(d:Int)(hl:l.length≤1000000)(ht:∀t∈l,t.text.length≤9223372036854775807):PureOK Tryz.prog 42 [.r (aF 3 ze l),.v (.int .i64 d)] (tupP (qF l d)):=by
 unfold qF;by_cases hd:d < 0∨200 < d
 ·rw[if_pos hd];by_cases h0:d < 0
  ·refine PureOK.fnF Tryz.func42 Tryz.results42 Tryz.ntmps42 rfl rfl rfl (by simp[AV.ids,AV0.ids,Atom.ids]) rfl (fun w0 T B E0 hB=>?_)
   refine SX.goM ?_;refine sP (aj.tmp rfl) (aj.tmp rfl) (aj.tmp rfl) imp_nil (AV0.imp.refl _) (AV0.imp.refl _)
  ·refine PureOK.fnF Tryz.func42 Tryz.results42 Tryz.ntmps42 rfl rfl rfl (by simp[AV.ids,AV0.ids,Atom.ids]) rfl (fun w0 T B E0 hB=>?_)
   refine SX.goM ?_;refine sP (aj.tmp rfl) (aj.tmp rfl) (aj.tmp rfl) imp_nil (AV0.imp.refl _) (AV0.imp.refl _)
 ·rw[if_neg hd];generalize hV:(if l.all fV then(match adC l with
   | .bad e p _ _ _=>(([],p,e):List Nd×Nat×Nat)
   | .ok n _=>ah8 n.kids d)else([],0,1))=V
  refine PureOK.fnF Tryz.func42 Tryz.results42 Tryz.ntmps42 rfl rfl rfl (by simp[AV.ids,AV0.ids,Atom.ids]) rfl (fun w0 T B E0 hB=>?_)
  refine SX.goM ?_;refine W.loop (fun k:Nat=>k≤l.length∧∀i t,i < k→l[i]? =some t→fV t=true) (fun k=>[(0,.r (aF 3 ze l)),(1,.v (.int .i64 d)),(17,.r (aF 3 ze l)),(18,.v (.int .i64 (l.length:Int))),(19,.v (.int .i64 (k:Int)))]) (fun _=>[]) (fun k=>l.length - k) 0 ⟨Nat.zero_le _,fun i t h=>by omega⟩ (fun k ⟨hk,hT⟩=>?_)
  by_cases hlt:k < l.length
  ·obtain⟨⟨tk,tt,tp⟩,htk⟩:∃t,l[k]? =some t:=⟨_,List.getElem?_eq_getElem hlt⟩
   have htt:tt.length≤9223372036854775807:=ht _ (List.mem_of_getElem? htk);have cI:PureOK Tryz.prog 84 [.agg (tokA ⟨tk,tt,tp⟩)] (.v (.bool (fV ⟨tk,tt,tp⟩))):=(apR ⟨tk,tt,tp⟩).h htt;cases hi:fV ⟨tk,tt,tp⟩with
   |false=>
    rw[hi]at cI;have hall:l.all fV=false:=by
     rw[List.all_eq_false];exact⟨_,List.mem_of_getElem? htk,by rw[hi];decide⟩
    rw[hall,if_neg (by decide)]at hV
    refine SX.goM ?_;subst hV;refine sP (aj.tmp rfl) (aj.tmp rfl) (aj.tmp rfl) imp_nil (AV0.imp.refl _) (AV0.imp.refl _)
   |true=>
    rw[hi]at cI;refine SX.goM ?_;refine W.next (k+1) ⟨by omega,fun i t h1 h2=>?_⟩ (by omega)
    by_cases e:i=k
    ·subst e;rw[htk]at h2;cases h2;exact hi
    ·exact hT i t (by omega) h2
  ·have hall:l.all fV=true:=by
    rw[List.all_eq_true];intro t htm;obtain⟨i,hi⟩:=List.getElem?_of_mem htm
    exact hT i t (by have:=(List.getElem?_eq_some_iff.1 hi).1;omega) hi
   rw[hall,if_pos rfl]at hV;have gs:=aiG hl (ht_of hall) (l.length+1) 0 (by omega)
   have ga:=tV 600 l (l.length+1) 0 (by omega)
   unfold adC at hV;generalize zV 600 l (l.length+1)=S at hV gs ga;generalize hR:sW l S (l.length+1) [] 0 0=R at hV;refine SX.goM ?_;refine W.loop (fun q:LiS=>prS l S q=R∧(q.b=none→q.o=0∧q.a≤l.length∧l.length < q.a+q.f∧ig q.ks≤q.a)) (fun _=>[(0,.r (aF 3 ze l)),(1,.v (.int .i64 d)),(9,.ptr 29 0),(10,.own 100)]) (fun q=>[(29,PS l q.a q.o q.b),(100,NR q.ks)]) (fun q=>match q.b with|none=>l.length+1 - q.a|some _=>0) ⟨[],0,0,none,l.length+1⟩ ⟨hR,fun _=>by dsimp only;exact⟨rfl,by omega,by omega,by rw[bD];omega⟩⟩ (fun q hq=>?_)
    (by
     refine SX.St.bG [(100,none)] (by intro b h;cases h) ?_ ?_ rfl
     ·repeat(first|exact trivial|refine⟨⟨_,rfl,SX.aG.same rfl⟩,?_⟩|refine⟨⟨_,rfl,SX.aG.nil rfl⟩,?_⟩)
     ·exact⟨SX.ak.eq rfl rfl rfl,SX.ak.dL rfl,trivial⟩)
   obtain⟨qk,qa,qo,qb,qf⟩:=q;obtain⟨hq1,hq2⟩:=hq
   dsimp only at hq1 hq2
   cases qb with
   |some b=>
    obtain⟨ee,p⟩:=b;show WP _ _ _ (eZ [(0,.r (aF 3 ze l)),(1,.v (.int .i64 d)),(9,.ptr 29 0),(10,.own 100)] [(29,PE l qa qo ee p),(100,NR qk)]) _;refine SX.goM ?_;subst hq1;subst hV;refine sP (aj.tmp rfl) (aj.tmp rfl) (aj.tmp rfl) imp_nil (AV0.imp.refl _) (AV0.imp.refl _)
   |none=>
    obtain⟨rfl,b2,b3,b4⟩:=hq2 rfl;obtain⟨qf,rfl⟩:∃k,qf=k+1:=⟨qf - 1,by omega⟩
    show WP _ _ _ (eZ [(0,.r (aF 3 ze l)),(1,.v (.int .i64 d)),(9,.ptr 29 0),(10,.own 100)] [(29,PG l qa 0),(100,NR qk)]) _;have hq1:sW l S (qf+1) qk qa 0=R:=hq1;unfold sW at hq1;have hlk:=rR qk;by_cases hlt2:qa < l.length
    ·rw[if_pos hlt2]at hq1;have h3:=gs qa 0 (by omega) (by omega) (by omega)
     have h4:=ga qa 0 (by omega) (by omega)
     cases hr2:S qa 0 with
     |bad c p k a2 o2=>
      rw[hr2]at h3 hq1;have c4:=h3.bad;refine SX.goM ?_;exact W.next ⟨qk++[k],a2,o2,some (c,p),0⟩ ⟨hq1,fun h=>by cases h⟩ (by dsimp only;omega)
       (by
        refine SX.St.bG [(100,some 48)] (by intro b h;cases h) ?_ ?_ rfl
        ·repeat(first|exact trivial|refine⟨⟨_,rfl,SX.aG.same rfl⟩,?_⟩|refine⟨⟨_,rfl,SX.aG.own rfl⟩,?_⟩)
        ·exact⟨SX.ak.eq rfl rfl rfl,SX.ak.row rfl rfl (by simp) (bq (aD _).symm),trivial⟩)
     |ok k a2=>
      rw[hr2]at h3 hq1 h4;have c4:=h3.ok;obtain⟨j1,j2,j3⟩:=h4;have j4:=kT k;refine SX.goM ?_;exact W.next ⟨qk++[k],a2,0,none,qf⟩ ⟨hq1,fun h=>by dsimp only;exact⟨rfl,by omega,by omega,by rw[dR,aS,bD];omega⟩⟩ (by dsimp only;omega)
       (by
        refine SX.St.bG [(100,some 48)] (by intro b h;cases h) ?_ ?_ rfl
        ·repeat(first|exact trivial|refine⟨⟨_,rfl,SX.aG.same rfl⟩,?_⟩|refine⟨⟨_,rfl,SX.aG.own rfl⟩,?_⟩)
        ·exact⟨SX.ak.eq rfl rfl rfl,SX.ak.row rfl rfl (by simp) (bq (aD _).symm),trivial⟩)
    ·rw[if_neg hlt2]at hq1;have cD:PureOK Tryz.prog 86 [.r (aF 3 ndC qk)] (.v (.int .i64 (jQ qk:Int))):=Con.use (by omega)
     refine WP.freeze 100 hB rfl ?_;subst hq1;have hV:ah8 qk d=V:=hV;unfold ah8 at hV;by_cases hdd:d < (jQ qk:Int)
     ·rw[if_pos hdd]at hV;refine SX.goM ?_;subst hV;refine sP (aj.tmp rfl) (aj.tmp rfl) (aj.tmp rfl) imp_nil (AV0.imp.refl _) (AV0.imp.refl _)
     ·rw[if_neg hdd]at hV;refine SX.goM ?_;subst hV;refine sP (aj.tmp rfl) (aj.tmp rfl) (aj.tmp rfl) (AV0.imp.refl _) (AV0.imp.refl _) (AV0.imp.refl _)
end
end
section
attribute [local irreducible] IntKind.wrap Go1 Reg WP aN aQ bM bI aL aC aj ah aT Sat
abbrev tupQ(x:List Nd)(p e:Nat):AV:= .tup [.one (.c (.sat (aF 3 ndC x))),.one (.c (.val (.int .i64 (p:Int)))),.one (.c (.val (.int .i64 (e:Int))))]
theorem afn{l:List Tok}{d:Int}{x:List Nd}{p e:Nat}(hl:l.length≤1000000)(ht:∀t∈l,t.text.length≤9223372036854775807)(h:qF l d=(x,p,e)):PureOK Tryz.prog 42 [.r (aF 3 ze l),.v (.int .i64 d)] (tupQ x p e):=by
 have:=amU l d hl ht;rw[h]at this;exact this
end
section
abbrev Wrd:=Int×List UInt8
abbrev sg(s:List UInt8):Wrd:=(3,s)
def kt(t:Tok):Wrd:=(t.kind,t.text)
def zh(s:Wrd):List (List Wrd)→List Wrd
 |[]=>[]
 |[x]=>x
 |x::y::r=>x++s::zh s (y::r)
def tx(k:Int)(t:List UInt8):Bool:=fV ⟨k,t,0⟩&&!ownB t
def manyB(o:Int)(n:Nat):Bool:=if o=13∨o=16 then true else if o=17 then decide (n=2∨n=3)else if o=3 then decide (n=1)else decide (4≤o∧o≤12)&&decide (n=2)
mutual
def okE:Nd→Bool
 | .mk o t ks=>if o=1∨o=2 then tx o t&&ks.isEmpty
   else if o=14 then decide (t=[])&&(!ks.isEmpty&&okRL ks)
   else manyB o ks.length&&(if o=13 then tx 2 t else decide (t=[]))&&okEL ks
def okEL:List Nd→Bool
 |[]=>true
 |k::ks=>okE k&&okEL ks
def okR:Nd→Bool
 | .mk o t ks=>decide (o=15)&&decide (t=[])&&!ks.isEmpty&&okEL ks
def okRL:List Nd→Bool
 |[]=>true
 |k::ks=>okR k&&okRL ks
end
def rst(l:List Tok)(a:Nat):List Wrd:=(l.map kt).drop a
def hS(r:List Wrd)(s:List UInt8):Bool:=match r with
 |[]=>false
 |w::_=>!decide (w.1=1)&&decide (w.2=s)
def hN(r:List Wrd):Bool:=match r with
 |[]=>false
 |w::_=>decide (w.1=2)&&!ownB w.2
theorem abv(l:List Tok)(a:Nat):(rst l a).head? =(l[a]?).map kt:=by
 unfold rst;rw[List.head?_drop,List.getElem?_map]
theorem aR(l:List Tok)(a:Nat)(s:List UInt8):isS l a s=hS (rst l a) s:=by
 have h:=abv l a;unfold isS hS;cases hl:l[a]? with
 |none=>rw[hl]at h;cases hr:rst l a with|nil=>rfl|cons w r=>rw[hr]at h;cases h
 |some t=>
  rw[hl]at h;cases hr:rst l a with
  |nil=>rw[hr]at h;cases h
  |cons w r=>rw[hr]at h;simp at h;rw[h];rfl
theorem ou(l:List Tok)(a:Nat):kX l a=hN (rst l a):=by
 have h:=abv l a;unfold kX hN;cases hl:l[a]? with
 |none=>rw[hl]at h;cases hr:rst l a with|nil=>rfl|cons w r=>rw[hr]at h;cases h
 |some t=>
  rw[hl]at h;cases hr:rst l a with
  |nil=>rw[hr]at h;cases h
  |cons w r=>rw[hr]at h;simp at h;rw[h];rfl
theorem aeb{l:List Tok}{a:Nat}{w:Wrd}{r:List Wrd}(h:rst l a=w::r):∃t,l[a]? =some t∧t.kind=w.1∧t.text=w.2:=by
 have h1:=abv l a;rw[h]at h1;cases hl:l[a]? with
 |none=>rw[hl]at h1;cases h1
 |some t=>rw[hl]at h1;simp at h1;exact⟨t,rfl,by rw[h1];rfl,by rw[h1];rfl⟩
theorem abq{l:List Tok}{a:Nat}{w:Wrd}{r:List Wrd}(h:rst l a=w::r):txt l a=w.2:=by
 obtain⟨t,h1,_,h2⟩:=aeb h;unfold txt;rw[h1];exact h2
theorem gL{l:List Tok}{a:Nat}{w:Wrd}{r:List Wrd}(h:rst l a=w::r):rst l (a+1)=r:=by
 unfold rst at h ⊢;rw[←List.drop_drop,h];rfl
theorem gy{l:List Tok}{a:Nat}{u r:List Wrd}(h:rst l a=u++r):rst l (a+u.length)=r:=by
 unfold rst at h ⊢;rw[←List.drop_drop,h,List.drop_left' rfl]
theorem aco{l:List Tok}{a:Nat}{u:List Wrd}(h:rst l a=u)(h0:u≠[]):a+u.length=l.length:=by
 have h1:(rst l a).length=l.length - a:=by unfold rst;rw[List.length_drop,List.length_map]
 rw[h]at h1;have:u.length≠0:=by simpa using h0
 omega
def acv(r:List Wrd):Prop:=∀s∈([[91],[94],[42],[47],[43],[45],[61,61],[33,61],[60],[60,61],[40]]:List (List UInt8)),hS r s=false
theorem kS{s:List UInt8}(h:s∉([[91],[94],[42],[47],[43],[45],[61,61],[33,61],[60],[60,61],[40]]:List (List UInt8)))(r:List Wrd):acv (sg s::r):=fun x hx=>by
 show (!decide ((3:Int)=1)&&decide (s=x))=false;have:s≠x:=fun e=>h (e▸hx)
 simp[this]
theorem aja{k:Nd}{ks:List Nd}(h:k∈ks):dep k≤jQ ks:=by
 induction ks with
 |nil=>cases h
 |cons x ks ih=>
  rw[jE];rcases List.mem_cons.1 h with rfl|h
  ·omega
  ·have:=ih h;omega
section
inductive EC:Nd→Prop
 |num (t:List UInt8) (h:tx 1 t=true):EC (.mk 1 t [])
 |nam (t:List UInt8) (h:tx 2 t=true):EC (.mk 2 t [])
 |call (t:List UInt8) (ks:List Nd) (h:tx 2 t=true) (hk:∀k∈ks,okE k=true):EC (.mk 13 t ks)
 |mat (ks:List Nd) (h0:ks≠[]) (hk:∀x∈ks,okR x=true):EC (.mk 14 [] ks)
 |list (ks:List Nd) (hk:∀k∈ks,okE k=true):EC (.mk 16 [] ks)
 |item (k k1:Nd) (h:okE k=true) (h1:okE k1=true):EC (.mk 17 [] [k,k1])
 |item2 (k k1 k2:Nd) (h:okE k=true) (h1:okE k1=true) (h2:okE k2=true):EC (.mk 17 [] [k,k1,k2])
 |minus (k:Nd) (h:okE k=true):EC (.mk 3 [] [k])
 |op (o:Int) (k k2:Nd) (ho:4≤o∧o≤12) (h:okE k=true) (h2:okE k2=true):EC (.mk o [] [k,k2])
theorem abr{k:Nd}{o:Int}{t:List UInt8}{ks:List Nd}(h:k∈ks):dep k+1≤dep (.mk o t ks):=by
 have:=aja h;rw[dep];cases ks with
 |nil=>cases h
 |cons=>rw[if_neg (by simp)];omega
theorem ahq{t:List UInt8}(h:tx 2 t=true):∃c m,t=c::m∧97≤c.toNat∧c.toNat≤122:=by
 unfold tx at h;rw[Bool.and_eq_true,ad9]at h;obtain⟨_,c,m,h1,h2⟩:=aa9 (show nam t=true from h.1)
 exact⟨c,m,h1,(srt3 c).1 h2⟩
theorem aiH{t:List UInt8}(h:tx 2 t=true){c:UInt8}{m:List UInt8}(hc:¬(97≤c.toNat∧c.toNat≤122)):t≠c::m:=by
 obtain⟨c',m',rfl,h1⟩:=ahq h;intro e;cases e;exact hc h1
theorem alM{k:Int}{t:List UInt8}(h:tx k t=true):ownB t=false:=by
 unfold tx at h;rw[Bool.and_eq_true]at h;simpa using h.2
theorem qJ{t:List UInt8}(h:tx 2 t=true)(r:List Wrd):hN ((2,t)::r)=true:=by
 show (decide ((2:Int)=2)&&!ownB t)=true;rw[alM h];rfl
section
variable{K:Nat}{l:List Tok}{X U:Gr}{a o a':Nat}{n:Nd}
theorem abx{k:Gr}(h:o+1≤K)(hk:k a (o+1)= .ok n a'):ins K k a o= .ok n a':=by
 unfold ins;rw[if_neg (by omega),hk]
theorem amD(h:lU K l X a o= .ok n a')(h1:hS (rst l a') [91]=false):nV K l X a o= .ok n a':=by
 unfold nV;rw[h];show qp K l X (l.length+1) n a' o=_;unfold qp;rw[aR,h1];rfl
theorem apu(h:nV K l X a o= .ok n a')(h1:hS (rst l a') [94]=false):zW K l X U a o= .ok n a':=by
 unfold zW;rw[h];show (if isS l a' [94]then _ else _)=_
 rw[aR,h1];rfl
theorem un_of(h:zW K l X U a o= .ok n a')(h1:hS (rst l a) [45]=false):unG K l X U a o= .ok n a':=by
 unfold unG;rw[aR,h1,if_neg (by decide)];exact h
theorem qO{S:Gr}{s1 s2:List UInt8}{x y:Nat}(h:S a o= .ok n a')(h1:hS (rst l a') s1=false)(h2:hS (rst l a') s2=false):wE l S s1 x s2 y a o= .ok n a':=by
 unfold wE;rw[h];show gB l S s1 x s2 y (l.length+1) n a' o=_;unfold gB;rw[aR,h1,aR,h2];rfl
theorem amV{S:Gr}{s1 s2:List UInt8}{x y:Nat}{m:Nd}{a2:Nat}(h:S a o= .ok n a')(h1:hS (rst l a') s1=true)(h2:S (a'+1) o= .ok m a2)(h3:hS (rst l a2) s1=false)(h4:hS (rst l a2) s2=false):wE l S s1 x s2 y a o= .ok (.mk x [] [n,m]) a2:=by
 have hlt:=bf (l:=l) (a:=a') (s:=s1) (by rw[aR,h1])
 unfold wE;rw[h];show gB l S s1 x s2 y (l.length+1) n a' o=_;unfold gB;rw[aR,h1,if_pos rfl,h2];show gB l S s1 x s2 y l.length _ a2 o=_;obtain⟨k,hk⟩:∃k,l.length=k+1:=⟨l.length - 1,by omega⟩
 rw[hk];unfold gB;rw[aR,h3,aR,h4];rfl
theorem ajI{S:Gr}{s1 s2:List UInt8}{x y:Nat}{m:Nd}{a2:Nat}(h:S a o= .ok n a')(h0:hS (rst l a') s1=false)(h1:hS (rst l a') s2=true)(h2:S (a'+1) o= .ok m a2)(h3:hS (rst l a2) s1=false)(h4:hS (rst l a2) s2=false):wE l S s1 x s2 y a o= .ok (.mk y [] [n,m]) a2:=by
 have hlt:=bf (l:=l) (a:=a') (s:=s2) (by rw[aR,h1])
 unfold wE;rw[h];show gB l S s1 x s2 y (l.length+1) n a' o=_;unfold gB;rw[aR,h0,if_neg (by decide),aR,h1,if_pos rfl,h2]
 show gB l S s1 x s2 y l.length _ a2 o=_;obtain⟨k,hk⟩:∃k,l.length=k+1:=⟨l.length - 1,by omega⟩
 rw[hk];unfold gB;rw[aR,h3,aR,h4];rfl
theorem abn(h:mI l U a o= .ok n a')(h1:hS (rst l a') [61,61]=false)(h2:hS (rst l a') [33,61]=false)(h3:hS (rst l a') [60]=false)(h4:hS (rst l a') [60,61]=false):wB l U a o= .ok n a':=by
 unfold wB;rw[h];show (if isS l a' [61,61]then _ else if isS l a' [33,61]then _ else if isS l a' [60]then _ else if isS l a' [60,61]then _ else _)=_
 rw[aR,h1,aR,h2,aR,h3,aR,h4];rfl
theorem lK{w:Wrd}{r:List Wrd}(h:rst l a=w::r):lU K l X a o=if w.1=1 then .ok (.mk 1 w.2 []) (a+1)
  else if hN (w::r)then(if hS r [40]then ins K (fun a o=>gV (fun n=> .mk 13 w.2 n.kids) (jh l X [41] a o)) (a+2) o else .ok (.mk 2 w.2 []) (a+1))
  else if hS (w::r) [40]then ins K (fun a o=>thenS l (X a o) o [41]) (a+1) o
  else if hS (w::r) [91]then ins K (fun a o=>oH l X (l.length+1) [] [] a o) (a+1) o
  else if hS (w::r) [123]then ins K (fun a o=>gV (fun n=> .mk 16 [] n.kids) (jh l X [125] a o)) (a+1) o
  else .bad 4 a nd0 a o:=by
 obtain⟨t,h1,h2,h3⟩:=aeb h;unfold lU;rw[h1];show (if t.kind=1 then _ else _)=_
 rw[ou,aR,aR,aR,aR,h,gL h,h2,h3]
theorem rQ(h:lU K l X a o= .ok n a')(h0:hS (rst l a) [45]=false)(h1:hS (rst l a') [91]=false)(h2:hS (rst l a') [94]=false):unG K l X U a o= .ok n a':=un_of (apu (amD h h1) h2) h0
end
end
end
end Go.Proofs.YtegehclknhmkgaaGreatDoor