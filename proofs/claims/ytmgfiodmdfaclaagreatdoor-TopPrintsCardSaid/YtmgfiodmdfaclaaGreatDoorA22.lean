import Derived.Test.YtmgfiodmdfaclaaGreatDoorA21
set_option linter.unusedVariables false
set_option linter.unusedSimpArgs false
namespace Go.Proofs.YtmgfiodmdfaclaaGreatDoor
open Go.RowKit SX
section
attribute [local irreducible] IntKind.wrap Go1 Reg WP aQ aR bO bN aN aB aj ah aV Sat
theorem apD{l:List Tok}:GE 451 l:=by
 intro a o e p;have nm1:Named 1 81:=⟨⟩;have c1:=afz l a o e p;refine ah.fnF Tryz.func451 Tryz.results451 Tryz.ntmps451 rfl rfl rfl rfl (fun w0 T B E0 hB=>?_)
 refine SX.goP ?_;exact aM (aj.aT rfl rfl rfl) (AV0.imp.refl _) ⟨rfl,trivial⟩
theorem asX{l:List Tok}{m:Nat}{X:Gr}(hl:l.length≤1000000)(hs:GOK 122 l (m+1) X)(hA:Adv 1 l (m+1) X):GOK 451 l m (oJ 600 l X):=by
 intro a o hm ha ho;have nm1:Named 1 81:=⟨⟩;have nm2:Named 3 82:=⟨⟩;unfold oJ;cases hg:l[a]? with
 |none=>
  have hge:l.length≤a:=List.getElem?_eq_none_iff.1 hg
  have c1:=vH l a o;show ah _ _ _ _ _;refine ah.fnF Tryz.func451 Tryz.results451 Tryz.ntmps451 rfl rfl rfl rfl (fun w0 T B E0 hB=>?_)
  refine SX.goP ?_;exact aM (aj.aT rfl rfl rfl) (AV0.imp.refl _) ⟨rfl,trivial⟩
 |some t=>
  have hlt:a < l.length:=(List.getElem?_eq_some_iff.1 hg).1
  obtain⟨tk,tt,tp⟩:=t
  dsimp only
  by_cases hk:tk=1
  ·rw[if_pos hk];show ah _ _ _ _ _;refine ah.fnF Tryz.func451 Tryz.results451 Tryz.ntmps451 rfl rfl rfl rfl (fun w0 T B E0 hB=>?_)
   refine SX.goP ?_;exact aM (aj.aT rfl rfl rfl) (pF rfl rfl) ⟨rfl,trivial⟩
  ·rw[if_neg hk];have c1:=rR l a o;cases hn:nA l a with
   |true=>
    rw[hn]at c1;rw[if_pos rfl];cases ht:isS l (a+1) [40]with
    |true=>
     have c2:=dQ o hl ht;have g5:=bC ht;rw[if_pos rfl];have h1:=asj (f:=523) (l:=l) (t:=⟨tk,tt,tp⟩) (a:=a+2) (o:=o) (k:=fun a o=>gM (fun n=> .mk 13 tt n.kids) (jv l X [41] a o)) ho (fun h=>⟨g_call hl hs hA (by omega) (by omega) (by omega),(iT (c':=0) (s':=0) (sU hA (by omega) (by omega)) (fun n=>by rw[uY];omega)).open.mono (by omega)⟩)
     cases hr:ins 600 (fun a o=>gM (fun n=> .mk 13 tt n.kids) (jv l X [41] a o)) (a+2) o with
     |bad e p n a' o'=>
      rw[hr]at h1;have c3:=h1.bad;show ah _ _ _ _ _;refine ah.fnF Tryz.func451 Tryz.results451 Tryz.ntmps451 rfl rfl rfl rfl (fun w0 T B E0 hB=>?_)
      refine SX.goP ?_;exact aM (aj.aT rfl rfl rfl) (AV0.imp.refl _) ⟨rfl,trivial⟩
     |ok n a'=>
      rw[hr]at h1;have c3:=h1.ok;show ah _ _ _ _ _;refine ah.fnF Tryz.func451 Tryz.results451 Tryz.ntmps451 rfl rfl rfl rfl (fun w0 T B E0 hB=>?_)
      refine SX.goP ?_;exact aM (aj.aT rfl rfl rfl) (AV0.imp.refl _) ⟨rfl,trivial⟩
    |false=>
     have c2:=dH o ht;rw[if_neg (by decide)]
     show ah _ _ _ _ _;refine ah.fnF Tryz.func451 Tryz.results451 Tryz.ntmps451 rfl rfl rfl rfl (fun w0 T B E0 hB=>?_)
     refine SX.goP ?_;exact aM (aj.aT rfl rfl rfl) (pF rfl rfl) ⟨rfl,trivial⟩
   |false=>
    rw[hn]at c1;rw[if_neg (by decide)]
    cases ht:isS l a [40]with
    |true=>
     have c2:=dQ o hl ht;rw[if_pos rfl];have h1:=acM (f:=525) (l:=l) (a:=a+1) (o:=o) (k:=fun a o=>thenS l (X a o) o [41]) ho (fun h=>⟨g_par hl hs (by omega) (by omega) (by omega),(oF (hA _ _ (by omega) (by omega))).open.mono (by omega)⟩)
     cases hr:ins 600 (fun a o=>thenS l (X a o) o [41]) (a+1) o with
     |bad e p n a' o'=>
      rw[hr]at h1;have c3:=h1.bad;show ah _ _ _ _ _;refine ah.fnF Tryz.func451 Tryz.results451 Tryz.ntmps451 rfl rfl rfl rfl (fun w0 T B E0 hB=>?_)
      refine SX.goP ?_;exact aM (aj.aT rfl rfl rfl) (AV0.imp.refl _) ⟨rfl,trivial⟩
     |ok n a'=>
      rw[hr]at h1;have c3:=h1.ok;show ah _ _ _ _ _;refine ah.fnF Tryz.func451 Tryz.results451 Tryz.ntmps451 rfl rfl rfl rfl (fun w0 T B E0 hB=>?_)
      refine SX.goP ?_;exact aM (aj.aT rfl rfl rfl) (AV0.imp.refl _) ⟨rfl,trivial⟩
    |false=>
     have c2:=dH o ht;rw[if_neg (by decide)]
     cases ht2:isS l a [91]with
     |true=>
      have c3:=dQ o hl ht2;rw[if_pos rfl];have h1:=arX (f:=526) (l:=l) (a:=a+1) (o:=o) (k:=fun a o=>rX l X (l.length+1) [] [] a o) ho (fun h=>⟨g_mat hl hs hA (by omega) (by omega) (by omega),(zV hA _ _ _ _ _ (by omega) (by omega)).open.mono (by omega)⟩)
      cases hr:ins 600 (fun a o=>rX l X (l.length+1) [] [] a o) (a+1) o with
      |bad e p n a' o'=>
       rw[hr]at h1;have c4:=h1.bad;show ah _ _ _ _ _;refine ah.fnF Tryz.func451 Tryz.results451 Tryz.ntmps451 rfl rfl rfl rfl (fun w0 T B E0 hB=>?_)
       refine SX.goP ?_;exact aM (aj.aT rfl rfl rfl) (AV0.imp.refl _) ⟨rfl,trivial⟩
      |ok n a'=>
       rw[hr]at h1;have c4:=h1.ok;show ah _ _ _ _ _;refine ah.fnF Tryz.func451 Tryz.results451 Tryz.ntmps451 rfl rfl rfl rfl (fun w0 T B E0 hB=>?_)
       refine SX.goP ?_;exact aM (aj.aT rfl rfl rfl) (AV0.imp.refl _) ⟨rfl,trivial⟩
     |false=>
      have c3:=dH o ht2;rw[if_neg (by decide)]
      cases ht3:isS l a [123]with
      |true=>
       have c4:=dQ o hl ht3;rw[if_pos rfl];have h1:=acM (f:=527) (l:=l) (a:=a+1) (o:=o) (k:=fun a o=>gM (fun n=> .mk 16 [] n.kids) (jv l X [125] a o)) ho (fun h=>⟨g_set hl hs hA (by omega) (by omega) (by omega),(iT (c':=0) (s':=0) (sU hA (by omega) (by omega)) (fun n=>by rw[uY];omega)).open.mono (by omega)⟩)
       cases hr:ins 600 (fun a o=>gM (fun n=> .mk 16 [] n.kids) (jv l X [125] a o)) (a+1) o with
       |bad e p n a' o'=>
        rw[hr]at h1;have c5:=h1.bad;show ah _ _ _ _ _;refine ah.fnF Tryz.func451 Tryz.results451 Tryz.ntmps451 rfl rfl rfl rfl (fun w0 T B E0 hB=>?_)
        refine SX.goP ?_;exact aM (aj.aT rfl rfl rfl) (AV0.imp.refl _) ⟨rfl,trivial⟩
       |ok n a'=>
        rw[hr]at h1;have c5:=h1.ok;show ah _ _ _ _ _;refine ah.fnF Tryz.func451 Tryz.results451 Tryz.ntmps451 rfl rfl rfl rfl (fun w0 T B E0 hB=>?_)
        refine SX.goP ?_;exact aM (aj.aT rfl rfl rfl) (AV0.imp.refl _) ⟨rfl,trivial⟩
      |false=>
       have c4:=dH o ht3;rw[if_neg (by decide)]
       have c5:=vH l a o;show ah _ _ _ _ _;refine ah.fnF Tryz.func451 Tryz.results451 Tryz.ntmps451 rfl rfl rfl rfl (fun w0 T B E0 hB=>?_)
       refine SX.goP ?_;exact aM (aj.aT rfl rfl rfl) (AV0.imp.refl _) ⟨rfl,trivial⟩
theorem aq0{l:List Tok}:GE 355 l:=by
 intro a o e p;have nm1:Named 1 81:=⟨⟩;have nm2:Named 3 83:=⟨⟩;have c1:=apD (l:=l) a o e p;have c2:=dB l a o e p [91];refine ah.fnF Tryz.func355 Tryz.results355 Tryz.ntmps355 rfl rfl rfl rfl (fun w0 T B E0 hB=>?_)
 refine SX.goP ?_;refine W.loop (fun _:Unit=>True) (fun _=>[(1,.ptr 81 0),(2,.ptr 2 0),(3,.ptr 83 0)]) (fun _=>[(29,PE l a o e p),(2,NZ),(81,PP),(83,NB nd0)]) (fun _=>0) () trivial (fun _ _=>?_)
 refine SX.goP ?_;exact aM (aj.aT rfl rfl rfl) (AV0.imp.refl _) ⟨rfl,trivial⟩
structure PoS where
 n:Nd
 a:Nat
 o:Nat
 b:Option (Nat×Nat)
 f:Nat
def poS(l:List Tok)(X:Gr)(q:PoS):Res:=match q.b with
 |none=>um 600 l X q.f q.n q.a q.o
 |some (e,p)=> .bad e p q.n q.a q.o
theorem asN{l:List Tok}{m:Nat}{X:Gr}(hl:l.length≤1000000)(hs:GOK 122 l (m+1) X)(hA:Adv 1 l (m+1) X):GOK 355 l m (qw 600 l X):=by
 intro a o hm ha ho;have nm1:Named 1 81:=⟨⟩;have nm2:Named 3 83:=⟨⟩;have h1:=asX hl hs hA a o hm ha ho;have h2:=aes (K:=600) hA a o hm ha;unfold qw;cases hr:oJ 600 l X a o with
 |bad e p n a' o'=>
  rw[hr]at h1;have c1:=h1.bad;have c2:=dB l a' o' e p [91];show ah _ _ _ _ _;refine ah.fnF Tryz.func355 Tryz.results355 Tryz.ntmps355 rfl rfl rfl rfl (fun w0 T B E0 hB=>?_)
  refine SX.goP ?_;refine W.loop (fun _:Unit=>True) (fun _=>[(1,.ptr 81 0),(2,.ptr 2 0),(3,.ptr 83 0)]) (fun _=>[(29,PE l a' o' e p),(2,NZ),(81,PP),(83,NB n)]) (fun _=>0) () trivial (fun _ _=>?_)
  refine SX.goP ?_;exact aM (aj.aT rfl rfl rfl) (AV0.imp.refl _) ⟨rfl,trivial⟩
 |ok n a'=>
  rw[hr]at h1 h2;have c1:=h1.ok;obtain⟨g1,g2,g3⟩:=h2;have g4:=mE n
  dsimp only
  generalize hR:um 600 l X (l.length+1) n a' o=R;refine CR.of ?_;refine ah.fnF Tryz.func355 Tryz.results355 Tryz.ntmps355 rfl rfl rfl rfl (fun w0 T B E0 hB=>?_)
  refine SX.goP ?_;refine W.loop (fun q:PoS=>poS l X q=R∧(q.b=none→q.o=o∧m≤q.a∧q.a≤l.length∧l.length < q.a+q.f)) (fun _=>[(1,.ptr 81 0),(2,.ptr 2 0),(3,.ptr 83 0)]) (fun q=>[(29,PS l q.a q.o q.b),(2,NZ),(81,PP),(83,NB q.n)]) (fun q=>match q.b with|none=>l.length+1 - q.a|some _=>0) ⟨n,a',o,none,l.length+1⟩ ⟨hR,fun _=>by dsimp only;exact⟨rfl,by omega,by omega,by omega⟩⟩ (fun q hq=>?_)
  obtain⟨qn,qa,qo,qb,qf⟩:=q;obtain⟨hq1,hq2⟩:=hq
  dsimp only at hq1 hq2
  cases qb with
  |some b=>
   obtain⟨e,p⟩:=b;have c2:=dB l qa qo e p [91];show WP _ _ _ (fK [(1,.ptr 81 0),(2,.ptr 2 0),(3,.ptr 83 0)] [(29,PE l qa qo e p),(2,NZ),(81,PP),(83,NB qn)]) _;refine SX.goP ?_;subst hq1;exact aM (aj.aT rfl rfl rfl) (AV0.imp.refl _) ⟨rfl,trivial⟩
  |none=>
   obtain⟨rfl,b1,b2,b3⟩:=hq2 rfl;obtain⟨qf,rfl⟩:∃k,qf=k+1:=⟨qf - 1,by omega⟩
   have hq1:um 600 l X (qf+1) qn qa qo=R:=hq1;unfold um at hq1;show WP _ _ _ (fK [(1,.ptr 81 0),(2,.ptr 2 0),(3,.ptr 83 0)] [(29,PG l qa qo),(2,NZ),(81,PP),(83,NB qn)]) _;cases ht:isS l qa [91]with
   |true=>
    have c2:=dQ qo hl ht;have g5:=bC ht;rw[if_pos ht]at hq1;have h5:=arG (f:=452) (l:=l) (N:=qn) (a:=qa+1) (o:=qo) (k:=tX l X qn) ho (fun h=>⟨asr hl hs hA (by omega) (by omega) (by omega),(abh hA (by omega) (by omega)).open.mono (by omega)⟩)
    have h6:=nN (K:=600) (g:=tX l X qn) (a:=qa+1) (o:=qo) (Nat.le_refl _) (abh (n:=qn) (o:=qo+1) hA (by omega) (by omega))
    cases hr2:ins 600 (tX l X qn) (qa+1) qo with
    |bad e p k a2 o2=>
     rw[hr2]at h5 hq1;have c3:=h5.bad;refine SX.goP ?_;exact W.next ⟨k,a2,o2,some (e,p),0⟩ ⟨hq1,fun h=>by cases h⟩ (by dsimp only;omega)
    |ok k a2=>
     rw[hr2]at h5 hq1 h6;have c3:=h5.ok;obtain⟨j1,j2,j3⟩:=h6;refine SX.goP ?_;exact W.next ⟨k,a2,qo,none,qf⟩ ⟨hq1,fun h=>by dsimp only;exact⟨rfl,by omega,by omega,by omega⟩⟩ (by dsimp only;omega)
   |false=>
    have c2:=dH qo ht;rw[if_neg (by rw[ht];decide)]at hq1
    refine SX.goP ?_;subst hq1;exact aM (aj.aT rfl rfl rfl) (AV0.imp.refl _) ⟨rfl,trivial⟩
theorem zZ{l:List Tok}:GE 122 l:=as8 (ar2 (apj (ge_un (asH aq0))))
theorem arb{l:List Tok}(hl:l.length≤1000000):∀(n m:Nat),l.length+1≤m+n→GOK 122 l m (lev 600 l n).1∧GOK 231 l m (lev 600 l n).2
 |0,m,h=>⟨fun a o hm ha=>by omega,fun a o hm ha=>by omega⟩
 |n+1,m,h=>by
  obtain⟨h1,h2⟩:=arb hl n (m+1) (by omega)
  obtain⟨a1,a2⟩:=zO 600 l n (m+1) (by omega)
  have u:GOK 231 l m (unG 600 l (lev 600 l n).1 (lev 600 l n).2):=g_un hl (g_pow hl (asN hl h1 a1) (ach a1) h2) h2 a2;have au:=anW (K:=600) a1 a2;exact⟨g_exp hl (g_sum hl (asD hl u au) au) au,u⟩
end
section
section
variable(K:Nat)(l:List Tok)
def qH(S:Gr):Nat→List Nd→Gr
 |0,_=>fun a o=> .bad 4 a nd0 a o
 |f+1,ks=>fun a o=>if isS l a [125]then .ok (.mk 22 [] ks) (a+1)else match S a o with
  | .bad e p n a' o'=> .bad e p (.mk 22 [] (ks++[n])) a' o'
  | .ok n a'=>qH S f (ks++[n]) a' o
def am6(S:Gr):Gr:=fun a o=>if isS l a [123]then ins K (fun a o=>qH l S (l.length+1) [] a o) (a+1) o else .bad 4 a nd0 a (o+1)
def ifG(E B:Gr):Gr:=fun a o=>match E a o with
 | .bad e p n a' o'=> .bad e p (.mk 20 [] [n,nd0]) a' (o'+1)
 | .ok n a'=>match B a' o with
  | .bad e p b a2 o2=> .bad e p (.mk 20 [] [n,b]) a2 o2
  | .ok b a2=>if isS l a2 [101,108,115,101]then gM (fun c=> .mk 20 [] [n,b,c]) (B (a2+1) o)else .ok (.mk 20 [] [n,b]) a2
def alK(E B:Gr):Gr:=fun a o=>if nA l a then
  (if isS l (a+1) [61]then(match E (a+2) o with
   | .bad e p n a' o'=> .bad e p (.mk 21 (txt l a) [n,nd0,nd0]) a' (o'+1)
   | .ok n a'=>if isS l a' [46,46]then(match E (a'+1) o with
     | .bad e p n2 a2 o2=> .bad e p (.mk 21 (txt l a) [n,n2,nd0]) a2 (o2+1)
     | .ok n2 a2=>gM (fun b=> .mk 21 (txt l a) [n,n2,b]) (B a2 o))
    else .bad 4 a' (.mk 21 (txt l a) [n,nd0,nd0]) a' (o+1))
  else .bad 4 (a+1) (.mk 21 (txt l a) [nd0,nd0,nd0]) (a+1) (o+1))
 else .bad 4 a (.mk 21 [] [nd0,nd0,nd0]) a (o+1)
def stG(E B:Gr):Gr:=fun a o=>if isS l a [105,102]then ifG l E B (a+1) o
 else if isS l a [102,111,114]then alK l E B (a+1) o
 else if nA l a&&isS l (a+1) [61]then thenS l (gM (fun n=> .mk 18 (txt l a) [n]) (E (a+2) o)) o [59]
 else thenS l (gM (fun n=> .mk 19 [] [n]) (E a o)) o [59]
def agA:Nat→Gr
 |0=>fun a o=> .bad 4 a nd0 a o
 |n+1=>stG l (lev K l (l.length+1)).1 (am6 K l (agA n))
end
theorem aat{l:List Tok}{m:Nat}{S:Gr}(h:Adv 2 l m S):∀(f:Nat) (ks:List Nd) (a o:Nat),m≤a→a≤l.length→mG (iX ks) 0 2 l a o (qH l S f ks a o)
 |0,ks,a,o,hm,ha=>lW (by omega)
 |f+1,ks,a,o,hm,ha=>by
  unfold qH
  split
  ·rename_i hs;have:=bC hs;exact⟨by rw[eO];omega,by omega,by omega⟩
  ·have h1:=h a o hm ha;cases hr:S a o with
   |bad e p n a' o'=>rw[hr]at h1;exact h1
   |ok n a'=>
    rw[hr]at h1;obtain⟨h1,h3,h2⟩:=h1;have hh:=aat h f (ks++[n]) a' o (by omega) h2
    refine hh.mono (Nat.le_refl _) (by omega) ?_
    rw[dX,aS,bG];omega
theorem aiD{K:Nat}{l:List Tok}{m:Nat}{S:Gr}(h:Adv 2 l (m+1) S):Adv 2 l m (am6 K l S):=by
 intro a o hm ha;unfold am6
 split
 ·rename_i hs;have:=bC hs;have hh:=nN (K:=K) (g:=fun a o=>qH l S (l.length+1) [] a o) (a:=a+1) (o:=o) (by omega) (aat h (l.length+1) [] (a+1) (o+1) (by omega) (by omega))
  exact hh.mono (Nat.le_refl _) (by omega) (by rw[bG];omega)
 ·exact⟨by omega,by omega⟩
theorem asF{l:List Tok}{m:Nat}{E B:Gr}(he:Adv 1 l m E)(hb:Adv 2 l m B){a o:Nat}(hm:m≤a)(ha:a≤l.length):mG 1 0 2 l a o (ifG l E B a o):=by
 have h1:=he a o hm ha;unfold ifG;cases hr:E a o with
 |bad e p n a' o'=>rw[hr]at h1;exact⟨by have:=h1.1;omega,by have:=h1.2;omega⟩
 |ok n a'=>
  rw[hr]at h1;obtain⟨h1,h3,h2⟩:=h1;have h4:=hb a' o (by omega) h2
  dsimp only
  cases hr2:B a' o with
  |bad e p n a' o'=>rw[hr2]at h4;exact h4
  |ok b a2=>
   rw[hr2]at h4;obtain⟨h4,h6,h5⟩:=h4
   dsimp only
   split
   ·rename_i hs;have:=bC hs;have hh:=iT (f:=fun c=>Nd.mk 20 [] [n,b,c]) (c':=0) (s':=1+cnt n+cnt b) (hb (a2+1) o (by omega) (by omega)) (fun k=>by rw[eO,aS,aS,aS,bG];omega)
    exact hh.mono (Nat.le_refl _) (by omega) (by omega)
   ·exact⟨by rw[eO,aS,aS,bG];omega,by omega,h5⟩
theorem aqd{l:List Tok}{m:Nat}{E B:Gr}(he:Adv 1 l m E)(hb:Adv 2 l m B){a o:Nat}(hm:m≤a)(ha:a≤l.length):mG 0 0 2 l a o (alK l E B a o):=by
 unfold alK
 split
 ·split
  ·rename_i hs;have:=bC hs;have h1:=he (a+2) o (by omega) (by omega)
   cases hr:E (a+2) o with
   |bad e p n a' o'=>rw[hr]at h1;exact⟨by have:=h1.1;omega,by have:=h1.2;omega⟩
   |ok n a'=>
    rw[hr]at h1;obtain⟨h1,h3,h2⟩:=h1
    dsimp only
    split
    ·rename_i hs2;have:=bC hs2;have h4:=he (a'+1) o (by omega) (by omega)
     cases hr2:E (a'+1) o with
     |bad e p n a' o'=>rw[hr2]at h4;exact⟨by have:=h4.1;omega,by have:=h4.2;omega⟩
     |ok n2 a2=>
      rw[hr2]at h4;obtain⟨h4,h6,h5⟩:=h4;have hh:=iT (f:=fun b=>Nd.mk 21 (txt l a) [n,n2,b]) (c':=0) (s':=1+cnt n+cnt n2) (hb a2 o (by omega) h5) (fun k=>by rw[eO,aS,aS,aS,bG];omega)
      exact hh.mono (Nat.le_refl _) (by omega) (by omega)
    ·exact⟨by omega,by omega⟩
  ·exact⟨by omega,by omega⟩
 ·exact⟨by omega,by omega⟩
theorem asU{l:List Tok}{m:Nat}{E B:Gr}(he:Adv 1 l m E)(hb:Adv 2 l (m+1) B):Adv 2 l m (stG l E B):=by
 have he':Adv 1 l (m+1) E:=fun a o hm ha=>he a o (by omega) ha
 intro a o hm ha;unfold stG
 split
 ·rename_i hs;have:=bC hs;exact(asF he' hb (o:=o) (by omega) (by omega)).mono (Nat.le_refl _) (by omega) (by omega)
 ·split
  ·rename_i hs;have:=bC hs;exact(aqd he' hb (o:=o) (by omega) (by omega)).mono (Nat.le_refl _) (by omega) (by omega)
  ·split
   ·rename_i hs;rw[Bool.and_eq_true]at hs;have:=bC hs.2;have hh:=oF (t:=[59]) (iT (f:=fun n=>Nd.mk 18 (txt l a) [n]) (c':=0) (s':=1) (he (a+2) o (by omega) (by omega)) (fun k=>by rw[eO,aS,bG];omega))
    exact hh.mono (by omega) (by omega) (by omega)
   ·have hh:=oF (t:=[59]) (iT (f:=fun n=>Nd.mk 19 [] [n]) (c':=0) (s':=1) (he a o hm ha) (fun k=>by rw[eO,aS,bG];omega))
    exact hh.mono (by omega) (by omega) (by omega)
theorem vV(K:Nat)(l:List Tok):∀(n m:Nat),l.length+1≤m+n→Adv 2 l m (agA K l n)
 |0,m,h=>fun a o hm ha=>by omega
 |n+1,m,h=>asU (fun a o hm ha=>(zO K l (l.length+1) m (by omega)).1 a o hm ha) (aiD fun a o hm ha=>vV K l n (m+1) (by omega) a o (by omega) ha)
attribute [local irreducible] IntKind.wrap Go1 Reg WP aQ aR bO bN aN aB aj ah aV Sat
def boS(l:List Tok)(S:Gr)(q:LiS):Res:=match q.b with
 |none=>qH l S q.f q.ks q.a q.o
 |some (e,p)=> .bad e p (.mk 22 [] q.ks) q.a q.o
theorem asb{l:List Tok}{m:Nat}{S:Gr}(hl:l.length≤1000000)(hs:GOK 77 l m S)(hA:Adv 2 l m S){a o:Nat}(hm:m≤a)(ha:a≤l.length)(ho:o≤600):
  CR rNd 168 [.ptr 81 0] [(81,PP)] l a o (qH l S (l.length+1) [] a o):=by
 generalize hR:qH l S (l.length+1) [] a o=R;refine CR.of ?_;refine ah.fnF Tryz.func168 Tryz.results168 Tryz.ntmps168 rfl rfl rfl rfl (fun w0 T B E0 hB=>?_)
 refine SX.goP ?_;refine W.loop (fun q:LiS=>boS l S q=R∧(q.b=none→q.o=o∧m≤q.a∧q.a≤l.length∧l.length < q.a+q.f∧q.ks.length≤q.a)) (fun _=>[(0,.ptr 81 0),(1,.ptr 1 0),(2,.ptr 2 0)]) (fun q=>[(29,PS l q.a q.o q.b),(81,PP),(1,NZ),(2,NG 22 100),(100,NR q.ks)]) (fun q=>match q.b with|none=>l.length+1 - q.a|some _=>0) ⟨[],a,o,none,l.length+1⟩ ⟨hR,fun _=>by dsimp only;exact⟨rfl,by omega,by omega,by omega,Nat.zero_le _⟩⟩ (fun q hq=>?_)
  (by
   refine SX.St.aW [(100,none)] (by intro b h;exact SX.dY h rfl) ?_ ?_ rfl
   ·repeat(first|exact trivial|refine⟨⟨_,rfl,SX.aC.same rfl⟩,?_⟩)
   ·exact⟨SX.ak.same rfl rfl,SX.ak.same rfl rfl,SX.ak.same rfl rfl,ak.node rfl rfl (aO.nil rfl),SX.ak.bU rfl,trivial⟩)
 obtain⟨qk,qa,qo,qb,qf⟩:=q;obtain⟨hq1,hq2⟩:=hq
 dsimp only at hq1 hq2
 cases qb with
 |some b=>
  obtain⟨ee,p⟩:=b;show WP _ _ _ (fK [(0,.ptr 81 0),(1,.ptr 1 0),(2,.ptr 2 0)] [(29,PE l qa qo ee p),(81,PP),(1,NZ),(2,NG 22 100),(100,NR qk)]) _;refine SX.goP ?_;subst hq1;refine aN.qK 100 (ps:=[29,81]) ?_;exact aM (aj.aT rfl rfl rfl) (bg rfl rfl rfl rfl) ⟨rfl,rfl,trivial⟩
 |none=>
  obtain⟨rfl,b1,b2,b3,b4⟩:=hq2 rfl;obtain⟨qf,rfl⟩:∃k,qf=k+1:=⟨qf - 1,by omega⟩
  show WP _ _ _ (fK [(0,.ptr 81 0),(1,.ptr 1 0),(2,.ptr 2 0)] [(29,PG l qa qo),(81,PP),(1,NZ),(2,NG 22 100),(100,NR qk)]) _;have hq1:qH l S (qf+1) qk qa qo=R:=hq1;unfold qH at hq1;cases ht:isS l qa [125]with
  |true=>
   rw[if_pos ht]at hq1;have c3:=dQ qo hl ht;refine SX.goP ?_;subst hq1;refine aN.qK 100 (ps:=[29,81]) ?_;exact aM (aj.aT rfl rfl rfl) (bg rfl rfl rfl rfl) ⟨rfl,rfl,trivial⟩
  |false=>
   rw[if_neg (by rw[ht];decide)]at hq1
   have c3:=dH qo ht;have h3:=hs qa qo (by omega) (by omega) ho
   have h4:=hA qa qo (by omega) (by omega)
   cases hr2:S qa qo with
   |bad c p k a2 o2=>
    rw[hr2]at h3 hq1;have c4:=h3.bad;refine SX.goP ?_;exact W.next ⟨qk++[k],a2,o2,some (c,p),0⟩ ⟨hq1,fun h=>by cases h⟩ (by dsimp only;omega)
     (by
      refine SX.St.aW [(100,some 19)] (by intro b h;exact SX.dY h rfl) ?_ ?_ rfl
      ·repeat(first|exact trivial|refine⟨⟨_,rfl,SX.aC.same rfl⟩,?_⟩)
      ·exact⟨SX.ak.eq rfl rfl rfl,SX.ak.same rfl rfl,SX.ak.same rfl rfl,ak.node rfl rfl (aO.own rfl),SX.ak.row rfl rfl (by simp) (bD (aF _).symm),trivial⟩)
   |ok k a2=>
    rw[hr2]at h3 hq1 h4;have c4:=h3.ok;obtain⟨j1,j2,j3⟩:=h4;have j4:=mE k;refine SX.goP ?_;exact W.next ⟨qk++[k],a2,qo,none,qf⟩ ⟨hq1,fun h=>by dsimp only;exact⟨rfl,by omega,by omega,by omega,by simp;omega⟩⟩ (by dsimp only;omega)
     (by
      refine SX.St.aW [(100,some 19)] (by intro b h;exact SX.dY h rfl) ?_ ?_ rfl
      ·repeat(first|exact trivial|refine⟨⟨_,rfl,SX.aC.same rfl⟩,?_⟩)
      ·exact⟨SX.ak.eq rfl rfl rfl,SX.ak.same rfl rfl,SX.ak.same rfl rfl,ak.node rfl rfl (aO.own rfl),SX.ak.row rfl rfl (by simp) (bD (aF _).symm),trivial⟩)
theorem g_blk{l:List Tok}{m:Nat}{S:Gr}(hl:l.length≤1000000)(hs:GOK 77 l (m+1) S)(hA:Adv 2 l (m+1) S):GOK 123 l m (am6 600 l S):=by
 intro a o hm ha ho;have nm1:Named 1 81:=⟨⟩;unfold am6;cases ht:isS l a [123]with
 |true=>
  rw[if_pos rfl];have c1:=jQ o hl ht;have g5:=bC ht;have h1:=acM (f:=168) (l:=l) (a:=a+1) (o:=o) (k:=fun a o=>qH l S (l.length+1) [] a o) ho (fun h=>⟨asb hl hs hA (by omega) (by omega) (by omega),(aat hA _ _ _ _ (by omega) (by omega)).open.mono (by omega)⟩)
  cases hr:ins 600 (fun a o=>qH l S (l.length+1) [] a o) (a+1) o with
  |bad e p n a' o'=>
   rw[hr]at h1;have c3:=h1.bad;show ah _ _ _ _ _;refine ah.fnF Tryz.func123 Tryz.results123 Tryz.ntmps123 rfl rfl rfl rfl (fun w0 T B E0 hB=>?_)
   refine SX.goP ?_;exact aM (aj.aT rfl rfl rfl) (AV0.imp.refl _) ⟨rfl,trivial⟩
  |ok n a'=>
   rw[hr]at h1;have c3:=h1.ok;show ah _ _ _ _ _;refine ah.fnF Tryz.func123 Tryz.results123 Tryz.ntmps123 rfl rfl rfl rfl (fun w0 T B E0 hB=>?_)
   refine SX.goP ?_;exact aM (aj.aT rfl rfl rfl) (AV0.imp.refl _) ⟨rfl,trivial⟩
 |false=>
  rw[if_neg (by decide)]
  have c1:=kZ o ht;have c2:=alk (f:=168) (l:=l) (a:=a) (o:=o) (e:=4) (p:=a) (by omega)
  show ah _ _ _ _ _;refine ah.fnF Tryz.func123 Tryz.results123 Tryz.ntmps123 rfl rfl rfl rfl (fun w0 T B E0 hB=>?_)
  refine SX.goP ?_;exact aM (aj.aT rfl rfl rfl) (AV0.imp.refl _) ⟨rfl,trivial⟩
theorem yw(l:List Tok)(a:Nat){o:Nat}(e p:Nat)(ho:o≤1000000):ah Tryz.prog 123 [.ptr 29 0] [(29,PE l a o e p)] ⟨rNd nd0,[(29,.ent (PE l a (o+1) e p))]⟩:=by
 have nm1:Named 1 81:=⟨⟩;have c1:=jf l a o e p [123];have c2:=alk (f:=168) (l:=l) (a:=a) (o:=o) (e:=e) (p:=p) ho;refine ah.fnF Tryz.func123 Tryz.results123 Tryz.ntmps123 rfl rfl rfl rfl (fun w0 T B E0 hB=>?_)
 refine SX.goP ?_;exact aM (aj.aT rfl rfl rfl) (AV0.imp.refl _) ⟨rfl,trivial⟩
end
section
attribute [local irreducible] IntKind.wrap Go1 Reg WP aQ aR bO bN aN aB aj ah aV Sat
theorem g_if{l:List Tok}{m:Nat}{X S:Gr}(hl:l.length≤1000000)(hs:GOK 122 l m X)(hA:Adv 1 l m X)(hb:GOK 123 l m S)(bA:Adv 2 l m S){a o:Nat}(hm:m≤a+1)(ha:a≤l.length)(ho:o≤600)(hi:isS l a [105,102]=true):
  CR rNd 77 [.ptr 29 0] [] l a o (ifG l X S (a+1) o):=by
 have mark:aa6 14:=⟨⟩;have g5:=bC hi;have k1:=dQ o hl hi;have h1:=hs (a+1) o hm (by omega) ho
 have h2:=hA (a+1) o hm (by omega)
 unfold ifG;cases hr:X (a+1) o with
 |bad e p n a' o'=>
  rw[hr]at h1 h2;have k2:=h1.bad;obtain⟨j1,j2⟩:=h2;have k3:=yw l a' (o:=o') e p (by omega)
  have k4:=dB l a' (o'+1) e p [101,108,115,101];show ah _ _ _ _ _;refine ah.fnF Tryz.func77 Tryz.results77 Tryz.ntmps77 rfl rfl rfl rfl (fun w0 T B E0 hB=>?_)
  refine SX.goP ?_;refine aN.qK 21 (ps:=[29]) ?_;exact aM (aj.aT rfl rfl rfl) (bg rfl rfl rfl (by first|(simp only[List.flatMap_cons,List.flatMap_nil,aF,List.append_nil,List.append_assoc];done)|(simp only[List.flatMap_cons,List.flatMap_nil,aF,List.append_nil,List.append_assoc];rfl))) ⟨rfl,trivial⟩
 |ok n a'=>
  rw[hr]at h1 h2;have k2:=h1.ok;obtain⟨j1,j2,j3⟩:=h2;have h3:=hb a' o (by omega) j3 ho
  have h4:=bA a' o (by omega) j3
  dsimp only
  cases hr2:S a' o with
  |bad e p b a2 o2=>
   rw[hr2]at h3;have k3:=h3.bad;have k4:=dB l a2 o2 e p [101,108,115,101];show ah _ _ _ _ _;refine ah.fnF Tryz.func77 Tryz.results77 Tryz.ntmps77 rfl rfl rfl rfl (fun w0 T B E0 hB=>?_)
   refine SX.goP ?_;refine aN.qK 21 (ps:=[29]) ?_;exact aM (aj.aT rfl rfl rfl) (bg rfl rfl rfl (by first|(simp only[List.flatMap_cons,List.flatMap_nil,aF,List.append_nil,List.append_assoc];done)|(simp only[List.flatMap_cons,List.flatMap_nil,aF,List.append_nil,List.append_assoc];rfl))) ⟨rfl,trivial⟩
  |ok b a2=>
   rw[hr2]at h3 h4;have k3:=h3.ok;obtain⟨i1,i2,i3⟩:=h4
   dsimp only
   cases ht:isS l a2 [101,108,115,101]with
   |false=>
    rw[if_neg (by decide)]
    have k4:=dH o ht;show ah _ _ _ _ _;refine ah.fnF Tryz.func77 Tryz.results77 Tryz.ntmps77 rfl rfl rfl rfl (fun w0 T B E0 hB=>?_)
    refine SX.goP ?_;refine aN.qK 21 (ps:=[29]) ?_;exact aM (aj.aT rfl rfl rfl) (bg rfl rfl rfl (by first|(simp only[List.flatMap_cons,List.flatMap_nil,aF,List.append_nil,List.append_assoc];done)|(simp only[List.flatMap_cons,List.flatMap_nil,aF,List.append_nil,List.append_assoc];rfl))) ⟨rfl,trivial⟩
   |true=>
    rw[if_pos rfl];have k4:=dQ o hl ht;have g6:=bC ht;have h5:=hb (a2+1) o (by omega) (by omega) ho
    cases hr3:S (a2+1) o with
    |bad e p c a3 o3=>
     rw[hr3]at h5;have k5:=h5.bad;show ah _ _ _ _ _;refine ah.fnF Tryz.func77 Tryz.results77 Tryz.ntmps77 rfl rfl rfl rfl (fun w0 T B E0 hB=>?_)
     refine SX.goP ?_;refine aN.qK 30 (ps:=[29]) ?_;exact aM (aj.aT rfl rfl rfl) (bg rfl rfl rfl (by first|(simp only[List.flatMap_cons,List.flatMap_nil,aF,List.append_nil,List.append_assoc];done)|(simp only[List.flatMap_cons,List.flatMap_nil,aF,List.append_nil,List.append_assoc];rfl))) ⟨rfl,trivial⟩
    |ok c a3=>
     rw[hr3]at h5;have k5:=h5.ok;show ah _ _ _ _ _;refine ah.fnF Tryz.func77 Tryz.results77 Tryz.ntmps77 rfl rfl rfl rfl (fun w0 T B E0 hB=>?_)
     refine SX.goP ?_;refine aN.qK 30 (ps:=[29]) ?_;exact aM (aj.aT rfl rfl rfl) (bg rfl rfl rfl (by first|(simp only[List.flatMap_cons,List.flatMap_nil,aF,List.append_nil,List.append_assoc];done)|(simp only[List.flatMap_cons,List.flatMap_nil,aF,List.append_nil,List.append_assoc];rfl))) ⟨rfl,trivial⟩
theorem g_for{l:List Tok}{m:Nat}{X S:Gr}(hl:l.length≤1000000)(hs:GOK 122 l m X)(hA:Adv 1 l m X)(hb:GOK 123 l m S){a o:Nat}(hm:m≤a+1)(ha:a≤l.length)(ho:o≤600)(hf:isS l a [105,102]=false)(hi:isS l a [102,111,114]=true):
  CR rNd 77 [.ptr 29 0] [] l a o (alK l X S (a+1) o):=by
 have g5:=bC hi;have k0:=dH o hf;have k1:=dQ o hl hi;unfold alK;cases hn:nA l (a+1)with
 |false=>
  rw[if_neg (by decide)]
  have k2:=apt o hn;have k3:=jf l (a+1) o 4 (a+1) [61];have k4:=zZ (l:=l) (a+1) o 4 (a+1);have k5:=jf l (a+1) o 4 (a+1) [46,46];have k6:=yw l (a+1) (o:=o) 4 (a+1) (by omega)
  show ah _ _ _ _ _;refine ah.fnF Tryz.func77 Tryz.results77 Tryz.ntmps77 rfl rfl rfl rfl (fun w0 T B E0 hB=>?_)
  refine SX.goP ?_;exact aM (aj.aT rfl rfl rfl) (bg rfl rfl rfl (by first|(simp only[List.flatMap_cons,List.flatMap_nil,aF,List.append_nil,List.append_assoc];done)|(simp only[List.flatMap_cons,List.flatMap_nil,aF,List.append_nil,List.append_assoc];rfl))) ⟨rfl,trivial⟩
 |true=>
  rw[if_pos rfl];have k2:=ajd o hl hn;have g6:=ade hn;cases ht:isS l (a+1+1) [61]with
  |false=>
   rw[if_neg (by decide)]
   have k3:=kZ o ht;have k4:=zZ (l:=l) (a+1+1) o 4 (a+1+1);have k5:=jf l (a+1+1) o 4 (a+1+1) [46,46];have k6:=yw l (a+1+1) (o:=o) 4 (a+1+1) (by omega)
   show ah _ _ _ _ _;refine ah.fnF Tryz.func77 Tryz.results77 Tryz.ntmps77 rfl rfl rfl rfl (fun w0 T B E0 hB=>?_)
   refine SX.goP ?_;exact aM (aj.aT rfl rfl rfl) (bg rfl rfl rfl (by first|(simp only[List.flatMap_cons,List.flatMap_nil,aF,List.append_nil,List.append_assoc];done)|(simp only[List.flatMap_cons,List.flatMap_nil,aF,List.append_nil,List.append_assoc];rfl))) ⟨rfl,trivial⟩
  |true=>
   rw[if_pos rfl];have k3:=jQ o hl ht;have g7:=bC ht;have h1:=hs (a+1+2) o (by omega) (by omega) ho
   have h2:=hA (a+1+2) o (by omega) (by omega)
   cases hr:X (a+1+2) o with
   |bad e p n a' o'=>
    rw[hr]at h1 h2;have k4:=h1.bad;obtain⟨j1,j2⟩:=h2;have k5:=jf l a' o' e p [46,46];have k6:=zZ (l:=l) a' o' e p;have k7:=yw l a' (o:=o') e p (by omega)
    show ah _ _ _ _ _;refine ah.fnF Tryz.func77 Tryz.results77 Tryz.ntmps77 rfl rfl rfl rfl (fun w0 T B E0 hB=>?_)
    refine SX.goP ?_;exact aM (aj.aT rfl rfl rfl) (bg rfl rfl rfl (by first|(simp only[List.flatMap_cons,List.flatMap_nil,aF,List.append_nil,List.append_assoc];done)|(simp only[List.flatMap_cons,List.flatMap_nil,aF,List.append_nil,List.append_assoc];rfl))) ⟨rfl,trivial⟩
   |ok n a'=>
    rw[hr]at h1 h2;have k4:=h1.ok;obtain⟨j1,j2,j3⟩:=h2
    dsimp only
    cases ht2:isS l a' [46,46]with
    |false=>
     rw[if_neg (by decide)]
     have k5:=kZ o ht2;have k6:=zZ (l:=l) a' o 4 a';have k7:=yw l a' (o:=o) 4 a' (by omega)
     show ah _ _ _ _ _;refine ah.fnF Tryz.func77 Tryz.results77 Tryz.ntmps77 rfl rfl rfl rfl (fun w0 T B E0 hB=>?_)
     refine SX.goP ?_;exact aM (aj.aT rfl rfl rfl) (bg rfl rfl rfl (by first|(simp only[List.flatMap_cons,List.flatMap_nil,aF,List.append_nil,List.append_assoc];done)|(simp only[List.flatMap_cons,List.flatMap_nil,aF,List.append_nil,List.append_assoc];rfl))) ⟨rfl,trivial⟩
    |true=>
     rw[if_pos rfl];have k5:=jQ o hl ht2;have g8:=bC ht2;have h3:=hs (a'+1) o (by omega) (by omega) ho
     have h4:=hA (a'+1) o (by omega) (by omega)
     cases hr2:X (a'+1) o with
     |bad e p n2 a2 o2=>
      rw[hr2]at h3 h4;have k6:=h3.bad;obtain⟨j1,j2⟩:=h4;have k7:=yw l a2 (o:=o2) e p (by omega)
      show ah _ _ _ _ _;refine ah.fnF Tryz.func77 Tryz.results77 Tryz.ntmps77 rfl rfl rfl rfl (fun w0 T B E0 hB=>?_)
      refine SX.goP ?_;exact aM (aj.aT rfl rfl rfl) (bg rfl rfl rfl (by first|(simp only[List.flatMap_cons,List.flatMap_nil,aF,List.append_nil,List.append_assoc];done)|(simp only[List.flatMap_cons,List.flatMap_nil,aF,List.append_nil,List.append_assoc];rfl))) ⟨rfl,trivial⟩
     |ok n2 a2=>
      rw[hr2]at h3 h4;have k6:=h3.ok;obtain⟨i1,i2,i3⟩:=h4
      dsimp only
      have h5:=hb a2 o (by omega) i3 ho
      cases hr3:S a2 o with
      |bad e p c a3 o3=>
       rw[hr3]at h5;have k7:=h5.bad;show ah _ _ _ _ _;refine ah.fnF Tryz.func77 Tryz.results77 Tryz.ntmps77 rfl rfl rfl rfl (fun w0 T B E0 hB=>?_)
       refine SX.goP ?_;exact aM (aj.aT rfl rfl rfl) (bg rfl rfl rfl (by first|(simp only[List.flatMap_cons,List.flatMap_nil,aF,List.append_nil,List.append_assoc];done)|(simp only[List.flatMap_cons,List.flatMap_nil,aF,List.append_nil,List.append_assoc];rfl))) ⟨rfl,trivial⟩
      |ok c a3=>
       rw[hr3]at h5;have k7:=h5.ok;show ah _ _ _ _ _;refine ah.fnF Tryz.func77 Tryz.results77 Tryz.ntmps77 rfl rfl rfl rfl (fun w0 T B E0 hB=>?_)
       refine SX.goP ?_;exact aM (aj.aT rfl rfl rfl) (bg rfl rfl rfl (by first|(simp only[List.flatMap_cons,List.flatMap_nil,aF,List.append_nil,List.append_assoc];done)|(simp only[List.flatMap_cons,List.flatMap_nil,aF,List.append_nil,List.append_assoc];rfl))) ⟨rfl,trivial⟩
def HT(l:List Tok):Prop:=∀(i:Nat) (t:Tok),l[i]? =some t→t.text=[61]→t.kind≠1
theorem aoD{l:List Tok}(hT:HT l){a:Nat}{t:Tok}(ht:l[a]? =some t):isS l a [61]=decide (t.text=[61]):=by
 unfold isS;rw[ht]
 dsimp only
 by_cases h:t.text=[61]
 ·simp[h,hT a t ht h]
 ·simp[h]
theorem g_let{l:List Tok}{m:Nat}{X:Gr}(hl:l.length≤1000000)(hT:HT l)(hs:GOK 122 l m X)(hA:Adv 1 l m X){a o:Nat}(hm:m≤a+2)(ha:a≤l.length)(ho:o≤600)(hf:isS l a [105,102]=false)(hi:isS l a [102,111,114]=false)(hn:nA l a=true)(he:isS l (a+1) [61]=true):
  CR rNd 77 [.ptr 29 0] [] l a o (thenS l (gM (fun n=> .mk 18 (txt l a) [n]) (X (a+2) o)) o [59]):=by
 have k0:=dH o hf;have k1:=dH o hi;have k2:=rR l a o;rw[hn]at k2;have k3:=ajd o hl hn;have k4:=jQ o hl he;have g5:=bC he;obtain⟨⟨tk,tt,tp⟩,ht⟩:∃t,l[a+1]? =some t:=⟨_,List.getElem?_eq_getElem g5⟩
 rw[aoD hT ht]at he
 dsimp only at he
 have h1:=hs (a+2) o (by omega) (by omega) ho
 cases hr:X (a+2) o with
 |bad e p n a' o'=>
  rw[hr]at h1;have k5:=h1.bad;have k6:=jf l a' o' e p [59];show ah _ _ _ _ _;refine ah.fnF Tryz.func77 Tryz.results77 Tryz.ntmps77 rfl rfl rfl rfl (fun w0 T B E0 hB=>?_)
  refine SX.goP ?_;exact aM (aj.aT rfl rfl rfl) (bg rfl rfl rfl (by first|(simp only[List.flatMap_cons,List.flatMap_nil,aF,List.append_nil,List.append_assoc];done)|(simp only[List.flatMap_cons,List.flatMap_nil,aF,List.append_nil,List.append_assoc];rfl))) ⟨rfl,trivial⟩
 |ok n a'=>
  rw[hr]at h1;have k5:=h1.ok;unfold thenS gM
  dsimp only
  cases ht2:isS l a' [59]with
  |true=>
   rw[if_pos rfl];have k6:=jQ o hl ht2;show ah _ _ _ _ _;refine ah.fnF Tryz.func77 Tryz.results77 Tryz.ntmps77 rfl rfl rfl rfl (fun w0 T B E0 hB=>?_)
   refine SX.goP ?_;exact aM (aj.aT rfl rfl rfl) (bg rfl rfl rfl (by first|(simp only[List.flatMap_cons,List.flatMap_nil,aF,List.append_nil,List.append_assoc];done)|(simp only[List.flatMap_cons,List.flatMap_nil,aF,List.append_nil,List.append_assoc];rfl))) ⟨rfl,trivial⟩
  |false=>
   rw[if_neg (by decide)]
   have k6:=kZ o ht2;show ah _ _ _ _ _;refine ah.fnF Tryz.func77 Tryz.results77 Tryz.ntmps77 rfl rfl rfl rfl (fun w0 T B E0 hB=>?_)
   refine SX.goP ?_;exact aM (aj.aT rfl rfl rfl) (bg rfl rfl rfl (by first|(simp only[List.flatMap_cons,List.flatMap_nil,aF,List.append_nil,List.append_assoc];done)|(simp only[List.flatMap_cons,List.flatMap_nil,aF,List.append_nil,List.append_assoc];rfl))) ⟨rfl,trivial⟩
theorem ash{l:List Tok}{m:Nat}{X:Gr}(hl:l.length≤1000000)(hT:HT l)(hs:GOK 122 l m X){a o:Nat}(hm:m≤a)(ha:a≤l.length)(ho:o≤600)(hf:isS l a [105,102]=false)(hi:isS l a [102,111,114]=false)(hn:(nA l a&&isS l (a+1) [61])=false):
  CR rNd 77 [.ptr 29 0] [] l a o (thenS l (gM (fun n=> .mk 19 [] [n]) (X a o)) o [59]):=by
 have k0:=dH o hf;have k1:=dH o hi;have k2:=rR l a o;have h1:=hs a o hm ha ho
 -- what is behind,whatever it be
 have key:∀{n a' o'} {b:Option (Nat×Nat)},ah Tryz.prog 122 [.ptr 29 0] [(29,PG l a o)] ⟨rNd n,[(29,.ent (PS l a' o' b))]⟩→∀{a2 o2 b2},ah Tryz.prog 125 [.ptr 29 0,.v (str [59])] [(29,PS l a' o' b)] ⟨.tup [],[(29,.ent (PS l a2 o2 b2))]⟩→
   ah Tryz.prog 77 [.ptr 29 0] [(29,PG l a o)] ⟨rNd (.mk 19 [] [n]),[(29,.ent (PS l a2 o2 b2))]⟩:=by
  intro n a' o' b k5 a2 o2 b2 k6;cases hn1:nA l a with
  |false=>
   rw[hn1]at k2;show ah _ _ _ _ _;refine ah.fnF Tryz.func77 Tryz.results77 Tryz.ntmps77 rfl rfl rfl rfl (fun w0 T B E0 hB=>?_)
   refine SX.goP ?_;exact aM (aj.aT rfl rfl rfl) (bg rfl rfl rfl (by first|(simp only[List.flatMap_cons,List.flatMap_nil,aF,List.append_nil,List.append_assoc];done)|(simp only[List.flatMap_cons,List.flatMap_nil,aF,List.append_nil,List.append_assoc];rfl))) ⟨rfl,trivial⟩
  |true=>
   rw[hn1]at k2 hn;have he:isS l (a+1) [61]=false:=by simpa using hn
   by_cases hlt:a+1 < l.length
   ·obtain⟨⟨tk,tt,tp⟩,ht⟩:∃t,l[a+1]? =some t:=⟨_,List.getElem?_eq_getElem hlt⟩
    rw[aoD hT ht]at he
    dsimp only at he
    show ah _ _ _ _ _;refine ah.fnF Tryz.func77 Tryz.results77 Tryz.ntmps77 rfl rfl rfl rfl (fun w0 T B E0 hB=>?_)
    refine SX.goP ?_;exact aM (aj.aT rfl rfl rfl) (bg rfl rfl rfl (by first|(simp only[List.flatMap_cons,List.flatMap_nil,aF,List.append_nil,List.append_assoc];done)|(simp only[List.flatMap_cons,List.flatMap_nil,aF,List.append_nil,List.append_assoc];rfl))) ⟨rfl,trivial⟩
   ·have g6:=ade hn1;show ah _ _ _ _ _;refine ah.fnF Tryz.func77 Tryz.results77 Tryz.ntmps77 rfl rfl rfl rfl (fun w0 T B E0 hB=>?_)
    refine SX.goP ?_;exact aM (aj.aT rfl rfl rfl) (bg rfl rfl rfl (by first|(simp only[List.flatMap_cons,List.flatMap_nil,aF,List.append_nil,List.append_assoc];done)|(simp only[List.flatMap_cons,List.flatMap_nil,aF,List.append_nil,List.append_assoc];rfl))) ⟨rfl,trivial⟩
 cases hr:X a o with
 |bad e p n a' o'=>
  rw[hr]at h1;exact key (b:=some (e,p)) h1.bad (b2:=some (e,p)) (jf l a' o' e p [59])
 |ok n a'=>
  rw[hr]at h1;unfold thenS gM
  dsimp only
  cases ht2:isS l a' [59]with
  |true=>
   rw[if_pos rfl];exact key (b:=none) h1.ok (b2:=none) (jQ o hl ht2)
  |false=>
   rw[if_neg (by decide)]
   exact key (b:=none) h1.ok (b2:=some (4,a')) (kZ o ht2)
theorem g_st{l:List Tok}{m:Nat}{X S:Gr}(hl:l.length≤1000000)(hT:HT l)(hs:GOK 122 l m X)(hA:Adv 1 l m X)(hb:GOK 123 l (m+1) S)(bA:Adv 2 l (m+1) S):GOK 77 l m (stG l X S):=by
 intro a o hm ha ho;have hs':GOK 122 l (m+1) X:=fun a o hm ha=>hs a o (by omega) ha
 have hA':Adv 1 l (m+1) X:=fun a o hm ha=>hA a o (by omega) ha
 unfold stG;cases h1:isS l a [105,102]with
 |true=>exact g_if hl hs' hA' hb bA (by omega) ha ho h1
 |false=>
  cases h2:isS l a [102,111,114]with
  |true=>exact g_for hl hs' hA' hb (by omega) ha ho h1 h2
  |false=>
   cases h3:nA l a&&isS l (a+1) [61]with
   |true=>
    have h4:=h3;rw[Bool.and_eq_true]at h4;exact g_let hl hT hs' hA' (by omega) ha ho h1 h2 h4.1 h4.2
   |false=>exact ash hl hT hs hm ha ho h1 h2 h3
theorem alg{l:List Tok}(hl:l.length≤1000000)(hT:HT l):∀(n m:Nat),l.length+1≤m+n→GOK 77 l m (agA 600 l n)
 |0,m,h=>fun a o hm ha=>by omega
 |n+1,m,h=>g_st hl hT (fun a o hm ha ho=>(arb hl (l.length+1) m (by omega)).1 a o hm ha ho) (fun a o hm ha=>(zO 600 l (l.length+1) m (by omega)).1 a o hm ha) (g_blk hl (fun a o hm ha ho=>alg hl hT n (m+1) (by omega) a o (by omega) ha ho) (fun a o hm ha=>vV 600 l n (m+1) (by omega) a o (by omega) ha)) (aiD fun a o hm ha=>vV 600 l n (m+1) (by omega) a o (by omega) ha)
end
section
section
theorem arz(n:Nd):cnt n=1+iX n.kids:=by cases n;rw[eO];rfl
theorem y9:∀L:List Nd,iX (L.flatMap Nd.kids)+L.length=iX L
 |[]=>by simp[bG]
 |k::ks=>by rw[List.flatMap_cons,dX,aS,arz,List.length_cons,←y9 ks];omega
theorem akx(L:List Nd)(j:Nat):iX ((L.take j).flatMap Nd.kids)≤iX L:=by
 have h1:=y9 (L.take j);have h2:iX (L.take j++L.drop j)=iX L:=by rw[List.take_append_drop]
 rw[dX]at h2;omega
theorem agc(L:List Nd)(j:Nat):((L.take j).flatMap Nd.kids).length≤iX L:=Nat.le_trans (vL _) (akx L j)
theorem acD{L:List Nd}{j:Nat}{n:Nd}(h:L[j]? =some n):(L.take (j+1)).flatMap Nd.kids=(L.take j).flatMap Nd.kids++n.kids:=by
 rw[List.take_add_one,h];simp
mutual
def dep:Nd→Nat
 | .mk _ _ ks=>if ks.isEmpty then 0 else 1+kK ks
def kK:List Nd→Nat
 |[]=>0
 |k::ks=>max (dep k) (kK ks)
end
theorem lG:kK []=0:=by rw[kK]
theorem kC(k:Nd)(ks:List Nd):kK (k::ks)=max (dep k) (kK ks):=by rw[kK]
theorem aa4(n:Nd):dep n=if n.kids.isEmpty then 0 else 1+kK n.kids:=by cases n;rw[dep];rfl
theorem yU:∀ks ms:List Nd,kK (ks++ms)=max (kK ks) (kK ms)
 |[],ms=>by simp[lG]
 |k::ks,ms=>by rw[List.cons_append,kC,kC,yU ks ms];omega
theorem acI:∀L:List Nd,kK L=if L.flatMap Nd.kids=[]then 0 else 1+kK (L.flatMap Nd.kids)
 |[]=>by simp[lG]
 |k::ks=>by
  rw[kC,aa4,acI ks,List.flatMap_cons,yU];cases hk:k.kids with
  |nil=>simp[lG]
  |cons a b=>
   by_cases h:ks.flatMap Nd.kids=[]
   ·simp[h,lG]
   ·simp[h,Nat.add_max_add_left]
theorem adu:∀L:List Nd,kK L≤iX L
 |[]=>by simp[lG]
 | .mk o t ks::ms=>by
  have h1:=adu ks;have h2:=adu ms;rw[kC,aS,eO,dep]
  split <;> omega
attribute [local irreducible] IntKind.wrap Go1 Reg WP aQ aR bO bN aN aB aj ah aV Sat
def ndE(n:Nd):List CA:=caN n
instance:dU ndE 3:=⟨fun n=>rfl⟩
theorem aiC(l:List Nd):AV.r (ay 3 ndC l)=AV.r (ay 3 ndE l):=by rw[show ndC=ndE from funext aF]
structure DeS where
 n:Nat
 L:List Nd
 out:Nat
instance ate(l:List Nd):Con Tryz.prog 78 [.r (ay 3 ndC l)] (iX l≤1000000000) (.v (.int .i64 (kK l:Int))):=⟨fun hl=>by
 have hd:=adu l;have hrow:=aiC l;refine PureOK.fnF Tryz.func78 Tryz.results78 Tryz.ntmps78 rfl rfl rfl (by simp[AV.ids,AV0.ids,Atom.ids]) rfl (fun w0 T B E0 hB=>?_)
 refine SX.goP ?_;refine W.loop (fun q:DeS=>(q.L≠[]→kK l=q.n+kK q.L)∧(q.L=[]→kK l=q.out)∧iX q.L+q.n≤iX l∧q.out≤q.n) (fun q=>[(3,.r (ay 3 ndE q.L)),(4,.v (.int .i64 (q.out:Int))),(5,.v (.int .i64 (q.n:Int)))]) (fun _=>[]) (fun q=>iX q.L) ⟨0,l,0⟩ ⟨fun _=>by dsimp only;omega,fun h=>by dsimp only at*;subst h;exact lG,by dsimp only;omega,Nat.le_refl _⟩ (fun q hq=>?_)
 obtain⟨n,L,out⟩:=q
 dsimp only at hq
 obtain⟨h1,h2,h3,h4⟩:=hq;show WP _ _ _ (fK [(3,.r (ay 3 ndE L)),(4,.v (.int .i64 (out:Int))),(5,.v (.int .i64 (n:Int)))] []) _;have hlen:=vL L;refine SX.goP ?_;refine W.om (fun(j:Nat) (M:List Nd)=>j≤L.length∧M=(L.take j).flatMap Nd.kids) (fun j M=>[(3,.r (ay 3 ndE L)),(4,.v (.int .i64 (out:Int))),(5,.v (.int .i64 (n:Int))),(6,.own 100),(12,.r (ay 3 ndE L)),(13,.v (.int .i64 (L.length:Int))),(14,.v (.int .i64 (j:Int)))]) (fun j M=>[(100,NR M)]) (fun j _=>L.length - j) 0 [] ⟨Nat.zero_le _,rfl⟩ (fun j M ⟨hj,hM⟩=>?_)
 have hm:=agc L j;rw[←hM]at hm;by_cases hlt:j < L.length
 ·obtain⟨k,hk⟩:∃k,L[j]? =some k:=⟨_,List.getElem?_eq_getElem hlt⟩
  have hm2:=agc L (j+1);rw[acD hk,←hM,List.length_append]at hm2;refine SX.goP ?_;exact W.oM (j+1) (M++k.kids) ⟨by omega,by rw[hM,acD hk]⟩ (by omega)
   (by
    refine SX.St.aW [(100,some 21)] (by intro b h;cases h) ?_ ?_ rfl
    ·repeat(first|exact trivial|refine⟨⟨_,rfl,SX.aC.same rfl⟩,?_⟩|refine⟨⟨_,rfl,SX.aC.own rfl⟩,?_⟩)
    ·exact⟨SX.ak.row rfl rfl (by simp) (by simp),trivial⟩)
 ·have hrow2:=aiC M;refine WP.freeze 100 hB rfl ?_;have hj:L.take j=L:=List.take_of_length_le (by omega)
  rw[hj]at hM;have hdf:=acI L;have hcf:=y9 L;rw[←hM]at hdf hcf;by_cases h0:L.length=0
  ·have hL:=List.eq_nil_of_length_eq_zero h0;refine SX.goP ?_;exact gV (by rw[h2 hL])
  ·have hL:L≠[]:=fun e=>h0 (by rw[e];rfl)
   refine SX.goP ?_;exact W.next ⟨n+1,M,n⟩ ⟨fun h=>by dsimp only at*;rw[if_neg h]at hdf;have:=h1 hL;omega,fun h=>by dsimp only at*;rw[if_pos h]at hdf;have:=h1 hL;omega,by dsimp only;omega,by dsimp only;omega⟩ (by dsimp only;omega)
    (SX.St.aW [] (by intro b h;cases h) ⟨⟨_,rfl,SX.aC.eq hrow2 rfl⟩,⟨_,rfl,SX.aC.same rfl⟩,⟨_,rfl,SX.aC.same rfl⟩,trivial⟩ trivial rfl)⟩
structure CoS where
 L:List Nd
 c:Nat
end
section
def vM(l:List Tok)(S:Gr):Nat→List Nd→Gr
 |0,_=>fun a o=> .bad 4 a nd0 a o
 |f+1,ks=>fun a o=>if a < l.length then(match S a o with
  | .bad e p n a' o'=> .bad e p (.mk 0 [] (ks++[n])) a' o'
  | .ok n a'=>vM l S f (ks++[n]) a' o)
  else .ok (.mk 0 [] ks) a
def afu(l:List Tok):Res:=vM l (agA 600 l (l.length+1)) (l.length+1) [] 0 0
def ak1(ks:List Nd)(d:Int):List Nd×Nat×Nat:=if d < (kK ks:Int)then([],0,8)else(ks,0,0)
def uE(l:List Tok)(d:Int):List Nd×Nat×Nat:=
 if d < 0∨200 < d then([],0,1)else
 if l.all iF then(match afu l with
  | .bad e p _ _ _=>([],p,e)
  | .ok n _=>ak1 n.kids d)
 else([],0,1)
abbrev tupP(r:List Nd×Nat×Nat):AV:= .tup [.one (.c (.sat (ay 3 ndC r.1))),.one (.c (.val (.int .i64 (r.2.1:Int)))),.one (.c (.val (.int .i64 (r.2.2:Int))))]
theorem aq8{t:Tok}(h:iF t=true)(ht:t.text=[61]):t.kind≠1:=by
 intro hk;have hs:srt 61=5:=by unfold srt;decide
 have hn:num [61]=false:=by unfold num dgL;simp[hs]
 unfold iF at h;rw[if_pos hk,ht,hn]at h;cases h
theorem ht_of{l:List Tok}(h:l.all iF=true):HT l:=fun i t ht he=>aq8 (List.all_eq_true.1 h t (List.mem_of_getElem? ht)) he
def prS(l:List Tok)(S:Gr)(q:LiS):Res:=match q.b with
 |none=>vM l S q.f q.ks q.a q.o
 |some (e,p)=> .bad e p (.mk 0 [] q.ks) q.a q.o
attribute [local irreducible] IntKind.wrap Go1 Reg WP aQ aR bO bN aN aB aj ah aV Sat
theorem aq9(l:List Tok)(d:Int)(hl:l.length≤1000000)(ht:∀t∈l,t.text.length≤9223372036854775807):PureOK Tryz.prog 48 [.r (ay 3 abf l),.v (.int .i64 d)] (tupP (uE l d)):=by
 unfold uE;by_cases hd:d < 0∨200 < d
 ·rw[if_pos hd];by_cases h0:d < 0
  ·refine PureOK.fnF Tryz.func48 Tryz.results48 Tryz.ntmps48 rfl rfl rfl (by simp[AV.ids,AV0.ids,Atom.ids]) rfl (fun w0 T B E0 hB=>?_)
   refine SX.goP ?_;refine wL (aj.tmp rfl) (aj.tmp rfl) (aj.tmp rfl) imp_nil (AV0.imp.refl _) (AV0.imp.refl _)
  ·refine PureOK.fnF Tryz.func48 Tryz.results48 Tryz.ntmps48 rfl rfl rfl (by simp[AV.ids,AV0.ids,Atom.ids]) rfl (fun w0 T B E0 hB=>?_)
   refine SX.goP ?_;refine wL (aj.tmp rfl) (aj.tmp rfl) (aj.tmp rfl) imp_nil (AV0.imp.refl _) (AV0.imp.refl _)
 ·rw[if_neg hd];generalize hV:(if l.all iF then(match afu l with
   | .bad e p _ _ _=>(([],p,e):List Nd×Nat×Nat)
   | .ok n _=>ak1 n.kids d)else([],0,1))=V
  refine PureOK.fnF Tryz.func48 Tryz.results48 Tryz.ntmps48 rfl rfl rfl (by simp[AV.ids,AV0.ids,Atom.ids]) rfl (fun w0 T B E0 hB=>?_)
  refine SX.goP ?_;refine W.loop (fun k:Nat=>k≤l.length∧∀i t,i < k→l[i]? =some t→iF t=true) (fun k=>[(0,.r (ay 3 abf l)),(1,.v (.int .i64 d)),(17,.r (ay 3 abf l)),(18,.v (.int .i64 (l.length:Int))),(19,.v (.int .i64 (k:Int)))]) (fun _=>[]) (fun k=>l.length - k) 0 ⟨Nat.zero_le _,fun i t h=>by omega⟩ (fun k ⟨hk,hT⟩=>?_)
  by_cases hlt:k < l.length
  ·obtain⟨⟨tk,tt,tp⟩,htk⟩:∃t,l[k]? =some t:=⟨_,List.getElem?_eq_getElem hlt⟩
   have htt:tt.length≤9223372036854775807:=ht _ (List.mem_of_getElem? htk);have cI:PureOK Tryz.prog 76 [.agg (tokA ⟨tk,tt,tp⟩)] (.v (.bool (iF ⟨tk,tt,tp⟩))):=(asM ⟨tk,tt,tp⟩).h htt;cases hi:iF ⟨tk,tt,tp⟩with
   |false=>
    rw[hi]at cI;have hall:l.all iF=false:=by
     rw[List.all_eq_false];exact⟨_,List.mem_of_getElem? htk,by rw[hi];decide⟩
    rw[hall,if_neg (by decide)]at hV
    refine SX.goP ?_;subst hV;refine wL (aj.tmp rfl) (aj.tmp rfl) (aj.tmp rfl) imp_nil (AV0.imp.refl _) (AV0.imp.refl _)
   |true=>
    rw[hi]at cI;refine SX.goP ?_;refine W.next (k+1) ⟨by omega,fun i t h1 h2=>?_⟩ (by omega)
    by_cases e:i=k
    ·subst e;rw[htk]at h2;cases h2;exact hi
    ·exact hT i t (by omega) h2
  ·have hall:l.all iF=true:=by
    rw[List.all_eq_true];intro t htm;obtain⟨i,hi⟩:=List.getElem?_of_mem htm
    exact hT i t (by have:=(List.getElem?_eq_some_iff.1 hi).1;omega) hi
   rw[hall,if_pos rfl]at hV;have gs:=alg hl (ht_of hall) (l.length+1) 0 (by omega)
   have ga:=vV 600 l (l.length+1) 0 (by omega)
   unfold afu at hV;generalize agA 600 l (l.length+1)=S at hV gs ga;generalize hR:vM l S (l.length+1) [] 0 0=R at hV;refine SX.goP ?_;refine W.loop (fun q:LiS=>prS l S q=R∧(q.b=none→q.o=0∧q.a≤l.length∧l.length < q.a+q.f∧iX q.ks≤q.a)) (fun _=>[(0,.r (ay 3 abf l)),(1,.v (.int .i64 d)),(9,.ptr 29 0),(10,.own 100)]) (fun q=>[(29,PS l q.a q.o q.b),(100,NR q.ks)]) (fun q=>match q.b with|none=>l.length+1 - q.a|some _=>0) ⟨[],0,0,none,l.length+1⟩ ⟨hR,fun _=>by dsimp only;exact⟨rfl,by omega,by omega,by rw[bG];omega⟩⟩ (fun q hq=>?_)
    (by
     refine SX.St.aW [(100,none)] (by intro b h;cases h) ?_ ?_ rfl
     ·repeat(first|exact trivial|refine⟨⟨_,rfl,SX.aC.same rfl⟩,?_⟩|refine⟨⟨_,rfl,SX.aC.nil rfl⟩,?_⟩)
     ·exact⟨SX.ak.eq rfl rfl rfl,SX.ak.bU rfl,trivial⟩)
   obtain⟨qk,qa,qo,qb,qf⟩:=q;obtain⟨hq1,hq2⟩:=hq
   dsimp only at hq1 hq2
   cases qb with
   |some b=>
    obtain⟨ee,p⟩:=b;show WP _ _ _ (fK [(0,.r (ay 3 abf l)),(1,.v (.int .i64 d)),(9,.ptr 29 0),(10,.own 100)] [(29,PE l qa qo ee p),(100,NR qk)]) _;refine SX.goP ?_;subst hq1;subst hV;refine wL (aj.tmp rfl) (aj.tmp rfl) (aj.tmp rfl) imp_nil (AV0.imp.refl _) (AV0.imp.refl _)
   |none=>
    obtain⟨rfl,b2,b3,b4⟩:=hq2 rfl;obtain⟨qf,rfl⟩:∃k,qf=k+1:=⟨qf - 1,by omega⟩
    show WP _ _ _ (fK [(0,.r (ay 3 abf l)),(1,.v (.int .i64 d)),(9,.ptr 29 0),(10,.own 100)] [(29,PG l qa 0),(100,NR qk)]) _;have hq1:vM l S (qf+1) qk qa 0=R:=hq1;unfold vM at hq1;have hlk:=vL qk;by_cases hlt2:qa < l.length
    ·rw[if_pos hlt2]at hq1;have h3:=gs qa 0 (by omega) (by omega) (by omega)
     have h4:=ga qa 0 (by omega) (by omega)
     cases hr2:S qa 0 with
     |bad c p k a2 o2=>
      rw[hr2]at h3 hq1;have c4:=h3.bad;refine SX.goP ?_;exact W.next ⟨qk++[k],a2,o2,some (c,p),0⟩ ⟨hq1,fun h=>by cases h⟩ (by dsimp only;omega)
       (by
        refine SX.St.aW [(100,some 48)] (by intro b h;cases h) ?_ ?_ rfl
        ·repeat(first|exact trivial|refine⟨⟨_,rfl,SX.aC.same rfl⟩,?_⟩|refine⟨⟨_,rfl,SX.aC.own rfl⟩,?_⟩)
        ·exact⟨SX.ak.eq rfl rfl rfl,SX.ak.row rfl rfl (by simp) (bD (aF _).symm),trivial⟩)
     |ok k a2=>
      rw[hr2]at h3 hq1 h4;have c4:=h3.ok;obtain⟨j1,j2,j3⟩:=h4;have j4:=mE k;refine SX.goP ?_;exact W.next ⟨qk++[k],a2,0,none,qf⟩ ⟨hq1,fun h=>by dsimp only;exact⟨rfl,by omega,by omega,by rw[dX,aS,bG];omega⟩⟩ (by dsimp only;omega)
       (by
        refine SX.St.aW [(100,some 48)] (by intro b h;cases h) ?_ ?_ rfl
        ·repeat(first|exact trivial|refine⟨⟨_,rfl,SX.aC.same rfl⟩,?_⟩|refine⟨⟨_,rfl,SX.aC.own rfl⟩,?_⟩)
        ·exact⟨SX.ak.eq rfl rfl rfl,SX.ak.row rfl rfl (by simp) (bD (aF _).symm),trivial⟩)
    ·rw[if_neg hlt2]at hq1;have cD:PureOK Tryz.prog 78 [.r (ay 3 ndC qk)] (.v (.int .i64 (kK qk:Int))):=Con.use (by omega)
     refine WP.freeze 100 hB rfl ?_;subst hq1;have hV:ak1 qk d=V:=hV;unfold ak1 at hV;by_cases hdd:d < (kK qk:Int)
     ·rw[if_pos hdd]at hV;refine SX.goP ?_;subst hV;refine wL (aj.tmp rfl) (aj.tmp rfl) (aj.tmp rfl) imp_nil (AV0.imp.refl _) (AV0.imp.refl _)
     ·rw[if_neg hdd]at hV;refine SX.goP ?_;subst hV;refine wL (aj.tmp rfl) (aj.tmp rfl) (aj.tmp rfl) (AV0.imp.refl _) (AV0.imp.refl _) (AV0.imp.refl _)
end
end
end Go.Proofs.YtmgfiodmdfaclaaGreatDoor