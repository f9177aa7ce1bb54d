import Derived.Test.YtegehclknhmkgaaGreatDoorA19
set_option linter.unusedVariables false
set_option linter.unusedSimpArgs false
namespace Go.Proofs.YtegehclknhmkgaaGreatDoor
open Go.RowKit SX
section
attribute [local irreducible] IntKind.wrap Go1 Reg WP aN aQ bM bI aL aC aj ah aT Sat
theorem g_par{l:List Tok}{m:Nat}{X:Gr}(hl:l.length≤1000000)(hs:GOK 134 l m X){a o:Nat}(hm:m≤a)(ha:a≤l.length)(ho:o≤600):CR rNd 520 [.ptr 81 0] [(81,PP)] l a o (thenS l (X a o) o [41]):=by
 have h3:=hs a o hm ha ho;cases hr2:X a o with
 |bad e p n2 a2 o2=>
  rw[hr2]at h3;have c3:=h3.bad;have c4:=iR l a2 o2 e p [41];show ah _ _ _ _ _;refine ah.fnF Tryz.func520 Tryz.results520 Tryz.ntmps520 rfl rfl rfl rfl (fun w0 T B E0 hB=>?_)
  refine SX.goM ?_;exact aK (aj.aX rfl rfl rfl) (AV0.imp.refl _) ⟨rfl,rfl,trivial⟩
 |ok n2 a2=>
  rw[hr2]at h3;have c3:=h3.ok;unfold thenS
  dsimp only
  cases ht:isS l a2 [41]with
  |true=>
   have c4:=jk o hl ht;rw[if_pos rfl];show ah _ _ _ _ _;refine ah.fnF Tryz.func520 Tryz.results520 Tryz.ntmps520 rfl rfl rfl rfl (fun w0 T B E0 hB=>?_)
   refine SX.goM ?_;exact aK (aj.aX rfl rfl rfl) (AV0.imp.refl _) ⟨rfl,rfl,trivial⟩
  |false=>
   have c4:=jV o ht;rw[if_neg (by decide)]
   show ah _ _ _ _ _;refine ah.fnF Tryz.func520 Tryz.results520 Tryz.ntmps520 rfl rfl rfl rfl (fun w0 T B E0 hB=>?_)
   refine SX.goM ?_;exact aK (aj.aX rfl rfl rfl) (AV0.imp.refl _) ⟨rfl,rfl,trivial⟩
theorem g_call{l:List Tok}{m:Nat}{X:Gr}{t:Tok}(hl:l.length≤1000000)(hs:GOK 134 l m X)(hA:Adv 1 l m X){a o:Nat}(hm:m≤a)(ha:a≤l.length)(ho:o≤600):CR rNd 518 [.ptr 82 0,.ptr 81 0] [(81,PP),(82,KB t)] l a o (gV (fun n=> .mk 13 t.text n.kids) (jh l X [41] a o)):=by
 have h3:=akW (e:=[41]) hl hs hA hm ha ho;cases hr2:jh l X [41] a o with
 |bad e p n2 a2 o2=>
  rw[hr2]at h3;have c3:=h3.bad;show ah _ _ _ _ _;refine ah.fnF Tryz.func518 Tryz.results518 Tryz.ntmps518 rfl rfl rfl rfl (fun w0 T B E0 hB=>?_)
  refine SX.goM ?_;exact aK (aj.aX rfl rfl rfl) (AV0.imp.refl _) ⟨rfl,rfl,rfl,trivial⟩
 |ok n2 a2=>
  rw[hr2]at h3;have c3:=h3.ok;show ah _ _ _ _ _;refine ah.fnF Tryz.func518 Tryz.results518 Tryz.ntmps518 rfl rfl rfl rfl (fun w0 T B E0 hB=>?_)
  refine SX.goM ?_;exact aK (aj.aX rfl rfl rfl) (AV0.imp.refl _) ⟨rfl,rfl,rfl,trivial⟩
theorem g_set{l:List Tok}{m:Nat}{X:Gr}(hl:l.length≤1000000)(hs:GOK 134 l m X)(hA:Adv 1 l m X){a o:Nat}(hm:m≤a)(ha:a≤l.length)(ho:o≤600):CR rNd 522 [.ptr 81 0] [(81,PP)] l a o (gV (fun n=> .mk 16 [] n.kids) (jh l X [125] a o)):=by
 have h3:=akW (e:=[125]) hl hs hA hm ha ho;cases hr2:jh l X [125] a o with
 |bad e p n2 a2 o2=>
  rw[hr2]at h3;have c3:=h3.bad;show ah _ _ _ _ _;refine ah.fnF Tryz.func522 Tryz.results522 Tryz.ntmps522 rfl rfl rfl rfl (fun w0 T B E0 hB=>?_)
  refine SX.goM ?_;exact aK (aj.aX rfl rfl rfl) (AV0.imp.refl _) ⟨rfl,rfl,trivial⟩
 |ok n2 a2=>
  rw[hr2]at h3;have c3:=h3.ok;show ah _ _ _ _ _;refine ah.fnF Tryz.func522 Tryz.results522 Tryz.ntmps522 rfl rfl rfl rfl (fun w0 T B E0 hB=>?_)
  refine SX.goM ?_;exact aK (aj.aX rfl rfl rfl) (AV0.imp.refl _) ⟨rfl,rfl,trivial⟩
theorem apE{l:List Tok}{m:Nat}{X:Gr}{N:Nd}(hl:l.length≤1000000)(hs:GOK 134 l m X)(hA:Adv 1 l m X){a o:Nat}(hm:m≤a)(ha:a≤l.length)(ho:o≤600):CR rNd 447 [.ptr 83 0,.ptr 81 0] [(81,PP),(83,NB N)] l a o (qw l X N a o):=by
 have mark:xJ 7:=⟨⟩;have h3:=hs a o hm ha ho;have h4:=hA a o hm ha;unfold qw;cases hr2:X a o with
 |bad e p n2 a2 o2=>
  rw[hr2]at h3;have c3:=h3.bad;have c4:=dx l a2 o2 e p [44];have c5:=iR l a2 o2 e p [93];show ah _ _ _ _ _;refine ah.fnF Tryz.func447 Tryz.results447 Tryz.ntmps447 rfl rfl rfl rfl (fun w0 T B E0 hB=>?_)
  refine SX.goM ?_;refine aL.nY 7 (ps:=[29,81,83]) ?_;exact aK (aj.aX rfl rfl rfl) (aY rfl rfl rfl (by first|(simp only[List.flatMap_cons,List.flatMap_nil,aD,List.append_nil];done)|(simp only[List.flatMap_cons,List.flatMap_nil,aD,List.append_nil];rfl))) ⟨rfl,rfl,rfl,trivial⟩
 |ok n2 a2=>
  rw[hr2]at h3 h4;have c3:=h3.ok;obtain⟨j1,j2,j3⟩:=h4
  dsimp only
  cases ht:isS l a2 [44]with
  |false=>
   have c4:=dG o ht;rw[if_neg (by decide)]
   unfold thenS
   dsimp only
   cases ht2:isS l a2 [93]with
   |true=>
    have c5:=jk o hl ht2;rw[if_pos rfl];show ah _ _ _ _ _;refine ah.fnF Tryz.func447 Tryz.results447 Tryz.ntmps447 rfl rfl rfl rfl (fun w0 T B E0 hB=>?_)
    refine SX.goM ?_;refine aL.nY 7 (ps:=[29,81,83]) ?_;exact aK (aj.aX rfl rfl rfl) (aY rfl rfl rfl (by first|(simp only[List.flatMap_cons,List.flatMap_nil,aD,List.append_nil];done)|(simp only[List.flatMap_cons,List.flatMap_nil,aD,List.append_nil];rfl))) ⟨rfl,rfl,rfl,trivial⟩
   |false=>
    have c5:=jV o ht2;rw[if_neg (by decide)]
    show ah _ _ _ _ _;refine ah.fnF Tryz.func447 Tryz.results447 Tryz.ntmps447 rfl rfl rfl rfl (fun w0 T B E0 hB=>?_)
    refine SX.goM ?_;refine aL.nY 7 (ps:=[29,81,83]) ?_;exact aK (aj.aX rfl rfl rfl) (aY rfl rfl rfl (by first|(simp only[List.flatMap_cons,List.flatMap_nil,aD,List.append_nil];done)|(simp only[List.flatMap_cons,List.flatMap_nil,aD,List.append_nil];rfl))) ⟨rfl,rfl,rfl,trivial⟩
  |true=>
   have c4:=dP o hl ht;have g5:=bf ht;rw[if_pos rfl];have h5:=hs (a2+1) o (by omega) (by omega) ho
   cases hr3:X (a2+1) o with
   |bad e p n3 a3 o3=>
    rw[hr3]at h5;have c6:=h5.bad;have c5:=iR l a3 o3 e p [93];show ah _ _ _ _ _;refine ah.fnF Tryz.func447 Tryz.results447 Tryz.ntmps447 rfl rfl rfl rfl (fun w0 T B E0 hB=>?_)
    refine SX.goM ?_;refine aL.nY 16 (ps:=[29,81,83]) ?_;exact aK (aj.aX rfl rfl rfl) (aY rfl rfl rfl (by first|(simp only[List.flatMap_cons,List.flatMap_nil,aD,List.append_nil,List.append_assoc];done)|(simp only[List.flatMap_cons,List.flatMap_nil,aD,List.append_nil,List.append_assoc];rfl))) ⟨rfl,rfl,rfl,trivial⟩
   |ok n3 a3=>
    rw[hr3]at h5;have c6:=h5.ok;unfold thenS gV
    dsimp only
    cases ht2:isS l a3 [93]with
    |true=>
     have c5:=jk o hl ht2;rw[if_pos rfl];show ah _ _ _ _ _;refine ah.fnF Tryz.func447 Tryz.results447 Tryz.ntmps447 rfl rfl rfl rfl (fun w0 T B E0 hB=>?_)
     refine SX.goM ?_;refine aL.nY 16 (ps:=[29,81,83]) ?_;exact aK (aj.aX rfl rfl rfl) (aY rfl rfl rfl (by first|(simp only[List.flatMap_cons,List.flatMap_nil,aD,List.append_nil,List.append_assoc];done)|(simp only[List.flatMap_cons,List.flatMap_nil,aD,List.append_nil,List.append_assoc];rfl))) ⟨rfl,rfl,rfl,trivial⟩
    |false=>
     have c5:=jV o ht2;rw[if_neg (by decide)]
     show ah _ _ _ _ _;refine ah.fnF Tryz.func447 Tryz.results447 Tryz.ntmps447 rfl rfl rfl rfl (fun w0 T B E0 hB=>?_)
     refine SX.goM ?_;refine aL.nY 16 (ps:=[29,81,83]) ?_;exact aK (aj.aX rfl rfl rfl) (aY rfl rfl rfl (by first|(simp only[List.flatMap_cons,List.flatMap_nil,aD,List.append_nil,List.append_assoc];done)|(simp only[List.flatMap_cons,List.flatMap_nil,aD,List.append_nil,List.append_assoc];rfl))) ⟨rfl,rfl,rfl,trivial⟩
theorem ant{l:List Tok}:GE 446 l:=by
 intro a o e p;have nm1:Named 1 81:=⟨⟩;have c1:=adi l a o e p;refine ah.fnF Tryz.func446 Tryz.results446 Tryz.ntmps446 rfl rfl rfl rfl (fun w0 T B E0 hB=>?_)
 refine SX.goM ?_
 try(refine SX.WP.aB ?_;refine SX.goM ?_)
 exact aK (aj.aX rfl rfl rfl) (AV0.imp.refl _) ⟨rfl,trivial⟩
theorem apl{l:List Tok}{m:Nat}{X:Gr}(hl:l.length≤1000000)(hs:GOK 134 l (m+1) X)(hA:Adv 1 l (m+1) X):GOK 446 l m (lU 600 l X):=by
 intro a o hm ha ho;have nm1:Named 1 81:=⟨⟩;have nm2:Named 3 82:=⟨⟩;unfold lU;cases hg:l[a]? with
 |none=>
  have hge:l.length≤a:=List.getElem?_eq_none_iff.1 hg
  have c1:=rC l a o;show ah _ _ _ _ _;refine ah.fnF Tryz.func446 Tryz.results446 Tryz.ntmps446 rfl rfl rfl rfl (fun w0 T B E0 hB=>?_)
  refine SX.goM ?_
  try(refine SX.WP.aB ?_;refine SX.goM ?_)
  exact aK (aj.aX rfl rfl rfl) (AV0.imp.refl _) ⟨rfl,trivial⟩
 |some t=>
  have hlt:a < l.length:=(List.getElem?_eq_some_iff.1 hg).1
  obtain⟨tk,tt,tp⟩:=t
  dsimp only
  by_cases hk:tk=1
  ·rw[if_pos hk];show ah _ _ _ _ _;refine ah.fnF Tryz.func446 Tryz.results446 Tryz.ntmps446 rfl rfl rfl rfl (fun w0 T B E0 hB=>?_)
   refine SX.goM ?_
   try(refine SX.WP.aB ?_;refine SX.goM ?_)
   exact aK (aj.aX rfl rfl rfl) (ny rfl rfl) ⟨rfl,trivial⟩
  ·rw[if_neg hk];have c1:=oK l a o;cases hn:kX l a with
   |true=>
    rw[hn]at c1;rw[if_pos rfl];cases ht:isS l (a+1) [40]with
    |true=>
     have c2:=dP o hl ht;have g5:=bf ht;rw[if_pos rfl];have h1:=ao4 (f:=518) (l:=l) (t:=⟨tk,tt,tp⟩) (a:=a+2) (o:=o) (k:=fun a o=>gV (fun n=> .mk 13 tt n.kids) (jh l X [41] a o)) ho (fun h=>⟨g_call hl hs hA (by omega) (by omega) (by omega),(iw (c':=0) (s':=0) (pO hA (by omega) (by omega)) (fun n=>by rw[rH];omega)).open.mono (by omega)⟩)
     cases hr:ins 600 (fun a o=>gV (fun n=> .mk 13 tt n.kids) (jh l X [41] a o)) (a+2) o with
     |bad e p n a' o'=>
      rw[hr]at h1;have c3:=h1.bad;show ah _ _ _ _ _;refine ah.fnF Tryz.func446 Tryz.results446 Tryz.ntmps446 rfl rfl rfl rfl (fun w0 T B E0 hB=>?_)
      refine SX.goM ?_
      try(refine SX.WP.aB ?_;refine SX.goM ?_)
      exact aK (aj.aX rfl rfl rfl) (AV0.imp.refl _) ⟨rfl,trivial⟩
     |ok n a'=>
      rw[hr]at h1;have c3:=h1.ok;show ah _ _ _ _ _;refine ah.fnF Tryz.func446 Tryz.results446 Tryz.ntmps446 rfl rfl rfl rfl (fun w0 T B E0 hB=>?_)
      refine SX.goM ?_
      try(refine SX.WP.aB ?_;refine SX.goM ?_)
      exact aK (aj.aX rfl rfl rfl) (AV0.imp.refl _) ⟨rfl,trivial⟩
    |false=>
     have c2:=dG o ht;rw[if_neg (by decide)]
     show ah _ _ _ _ _;refine ah.fnF Tryz.func446 Tryz.results446 Tryz.ntmps446 rfl rfl rfl rfl (fun w0 T B E0 hB=>?_)
     refine SX.goM ?_
     try(refine SX.WP.aB ?_;refine SX.goM ?_)
     exact aK (aj.aX rfl rfl rfl) (ny rfl rfl) ⟨rfl,trivial⟩
   |false=>
    rw[hn]at c1;rw[if_neg (by decide)]
    cases ht:isS l a [40]with
    |true=>
     have c2:=dP o hl ht;rw[if_pos rfl];have h1:=abB (f:=520) (l:=l) (a:=a+1) (o:=o) (k:=fun a o=>thenS l (X a o) o [41]) ho (fun h=>⟨g_par hl hs (by omega) (by omega) (by omega),(mO (hA _ _ (by omega) (by omega))).open.mono (by omega)⟩)
     cases hr:ins 600 (fun a o=>thenS l (X a o) o [41]) (a+1) o with
     |bad e p n a' o'=>
      rw[hr]at h1;have c3:=h1.bad;show ah _ _ _ _ _;refine ah.fnF Tryz.func446 Tryz.results446 Tryz.ntmps446 rfl rfl rfl rfl (fun w0 T B E0 hB=>?_)
      refine SX.goM ?_
      try(refine SX.WP.aB ?_;refine SX.goM ?_)
      exact aK (aj.aX rfl rfl rfl) (AV0.imp.refl _) ⟨rfl,trivial⟩
     |ok n a'=>
      rw[hr]at h1;have c3:=h1.ok;show ah _ _ _ _ _;refine ah.fnF Tryz.func446 Tryz.results446 Tryz.ntmps446 rfl rfl rfl rfl (fun w0 T B E0 hB=>?_)
      refine SX.goM ?_
      try(refine SX.WP.aB ?_;refine SX.goM ?_)
      exact aK (aj.aX rfl rfl rfl) (AV0.imp.refl _) ⟨rfl,trivial⟩
    |false=>
     have c2:=dG o ht;rw[if_neg (by decide)]
     cases ht2:isS l a [91]with
     |true=>
      have c3:=dP o hl ht2;rw[if_pos rfl];have h1:=apF (f:=521) (l:=l) (a:=a+1) (o:=o) (k:=fun a o=>oH l X (l.length+1) [] [] a o) ho (fun h=>⟨g_mat hl hs hA (by omega) (by omega) (by omega),(wT hA _ _ _ _ _ (by omega) (by omega)).open.mono (by omega)⟩)
      cases hr:ins 600 (fun a o=>oH l X (l.length+1) [] [] a o) (a+1) o with
      |bad e p n a' o'=>
       rw[hr]at h1;have c4:=h1.bad;show ah _ _ _ _ _;refine ah.fnF Tryz.func446 Tryz.results446 Tryz.ntmps446 rfl rfl rfl rfl (fun w0 T B E0 hB=>?_)
       refine SX.goM ?_
       try(refine SX.WP.aB ?_;refine SX.goM ?_)
       exact aK (aj.aX rfl rfl rfl) (AV0.imp.refl _) ⟨rfl,trivial⟩
      |ok n a'=>
       rw[hr]at h1;have c4:=h1.ok;show ah _ _ _ _ _;refine ah.fnF Tryz.func446 Tryz.results446 Tryz.ntmps446 rfl rfl rfl rfl (fun w0 T B E0 hB=>?_)
       refine SX.goM ?_
       try(refine SX.WP.aB ?_;refine SX.goM ?_)
       exact aK (aj.aX rfl rfl rfl) (AV0.imp.refl _) ⟨rfl,trivial⟩
     |false=>
      have c3:=dG o ht2;rw[if_neg (by decide)]
      cases ht3:isS l a [123]with
      |true=>
       have c4:=dP o hl ht3;rw[if_pos rfl];have h1:=abB (f:=522) (l:=l) (a:=a+1) (o:=o) (k:=fun a o=>gV (fun n=> .mk 16 [] n.kids) (jh l X [125] a o)) ho (fun h=>⟨g_set hl hs hA (by omega) (by omega) (by omega),(iw (c':=0) (s':=0) (pO hA (by omega) (by omega)) (fun n=>by rw[rH];omega)).open.mono (by omega)⟩)
       cases hr:ins 600 (fun a o=>gV (fun n=> .mk 16 [] n.kids) (jh l X [125] a o)) (a+1) o with
       |bad e p n a' o'=>
        rw[hr]at h1;have c5:=h1.bad;show ah _ _ _ _ _;refine ah.fnF Tryz.func446 Tryz.results446 Tryz.ntmps446 rfl rfl rfl rfl (fun w0 T B E0 hB=>?_)
        refine SX.goM ?_
        try(refine SX.WP.aB ?_;refine SX.goM ?_)
        exact aK (aj.aX rfl rfl rfl) (AV0.imp.refl _) ⟨rfl,trivial⟩
       |ok n a'=>
        rw[hr]at h1;have c5:=h1.ok;show ah _ _ _ _ _;refine ah.fnF Tryz.func446 Tryz.results446 Tryz.ntmps446 rfl rfl rfl rfl (fun w0 T B E0 hB=>?_)
        refine SX.goM ?_
        try(refine SX.WP.aB ?_;refine SX.goM ?_)
        exact aK (aj.aX rfl rfl rfl) (AV0.imp.refl _) ⟨rfl,trivial⟩
      |false=>
       have c4:=dG o ht3;rw[if_neg (by decide)]
       have c5:=rC l a o;show ah _ _ _ _ _;refine ah.fnF Tryz.func446 Tryz.results446 Tryz.ntmps446 rfl rfl rfl rfl (fun w0 T B E0 hB=>?_)
       refine SX.goM ?_
       try(refine SX.WP.aB ?_;refine SX.goM ?_)
       exact aK (aj.aX rfl rfl rfl) (AV0.imp.refl _) ⟨rfl,trivial⟩
theorem amr{l:List Tok}:GE 350 l:=by
 intro a o e p;have nm1:Named 1 81:=⟨⟩;have nm2:Named 3 83:=⟨⟩;have c1:=ant (l:=l) a o e p;have c2:=dx l a o e p [91];refine ah.fnF Tryz.func350 Tryz.results350 Tryz.ntmps350 rfl rfl rfl rfl (fun w0 T B E0 hB=>?_)
 refine SX.goM ?_
 try(refine SX.WP.aB ?_;refine SX.goM ?_)
 refine W.loop (fun _:Unit=>True) (fun _=>[(1,.ptr 81 0),(2,.ptr 2 0),(3,.ptr 83 0)]) (fun _=>[(29,PE l a o e p),(2,NZ),(81,PP),(83,NB nd0)]) (fun _=>0) () trivial (fun _ _=>?_)
 refine SX.goM ?_
 try(refine SX.WP.aB ?_;refine SX.goM ?_)
 exact aK (aj.aX rfl rfl rfl) (AV0.imp.refl _) ⟨rfl,trivial⟩
structure PoS where
 n:Nd
 a:Nat
 o:Nat
 b:Option (Nat×Nat)
 f:Nat
def poS(l:List Tok)(X:Gr)(q:PoS):Res:=match q.b with
 |none=>qp 600 l X q.f q.n q.a q.o
 |some (e,p)=> .bad e p q.n q.a q.o
theorem aps{l:List Tok}{m:Nat}{X:Gr}(hl:l.length≤1000000)(hs:GOK 134 l (m+1) X)(hA:Adv 1 l (m+1) X):GOK 350 l m (nV 600 l X):=by
 intro a o hm ha ho;have nm1:Named 1 81:=⟨⟩;have nm2:Named 3 83:=⟨⟩;have h1:=apl hl hs hA a o hm ha ho;have h2:=acZ (K:=600) hA a o hm ha;unfold nV;cases hr:lU 600 l X a o with
 |bad e p n a' o'=>
  rw[hr]at h1;have c1:=h1.bad;have c2:=dx l a' o' e p [91];show ah _ _ _ _ _;refine ah.fnF Tryz.func350 Tryz.results350 Tryz.ntmps350 rfl rfl rfl rfl (fun w0 T B E0 hB=>?_)
  refine SX.goM ?_
  try(refine SX.WP.aB ?_;refine SX.goM ?_)
  refine W.loop (fun _:Unit=>True) (fun _=>[(1,.ptr 81 0),(2,.ptr 2 0),(3,.ptr 83 0)]) (fun _=>[(29,PE l a' o' e p),(2,NZ),(81,PP),(83,NB n)]) (fun _=>0) () trivial (fun _ _=>?_)
  refine SX.goM ?_
  try(refine SX.WP.aB ?_;refine SX.goM ?_)
  exact aK (aj.aX rfl rfl rfl) (AV0.imp.refl _) ⟨rfl,trivial⟩
 |ok n a'=>
  rw[hr]at h1 h2;have c1:=h1.ok;obtain⟨g1,g2,g3⟩:=h2;have g4:=kT n
  dsimp only
  generalize hR:qp 600 l X (l.length+1) n a' o=R;refine CR.of ?_;refine ah.fnF Tryz.func350 Tryz.results350 Tryz.ntmps350 rfl rfl rfl rfl (fun w0 T B E0 hB=>?_)
  refine SX.goM ?_
  try(refine SX.WP.aB ?_;refine SX.goM ?_)
  refine W.loop (fun q:PoS=>poS l X q=R∧(q.b=none→q.o=o∧m≤q.a∧q.a≤l.length∧l.length < q.a+q.f)) (fun _=>[(1,.ptr 81 0),(2,.ptr 2 0),(3,.ptr 83 0)]) (fun q=>[(29,PS l q.a q.o q.b),(2,NZ),(81,PP),(83,NB q.n)]) (fun q=>match q.b with|none=>l.length+1 - q.a|some _=>0) ⟨n,a',o,none,l.length+1⟩ ⟨hR,fun _=>by dsimp only;exact⟨rfl,by omega,by omega,by omega⟩⟩ (fun q hq=>?_)
  obtain⟨qn,qa,qo,qb,qf⟩:=q;obtain⟨hq1,hq2⟩:=hq
  dsimp only at hq1 hq2
  cases qb with
  |some b=>
   obtain⟨e,p⟩:=b;have c2:=dx l qa qo e p [91];show WP _ _ _ (eZ [(1,.ptr 81 0),(2,.ptr 2 0),(3,.ptr 83 0)] [(29,PE l qa qo e p),(2,NZ),(81,PP),(83,NB qn)]) _;refine SX.goM ?_
   try(refine SX.WP.aB ?_;refine SX.goM ?_)
   subst hq1;exact aK (aj.aX rfl rfl rfl) (AV0.imp.refl _) ⟨rfl,trivial⟩
  |none=>
   obtain⟨rfl,b1,b2,b3⟩:=hq2 rfl;obtain⟨qf,rfl⟩:∃k,qf=k+1:=⟨qf - 1,by omega⟩
   have hq1:qp 600 l X (qf+1) qn qa qo=R:=hq1;unfold qp at hq1;show WP _ _ _ (eZ [(1,.ptr 81 0),(2,.ptr 2 0),(3,.ptr 83 0)] [(29,PG l qa qo),(2,NZ),(81,PP),(83,NB qn)]) _;cases ht:isS l qa [91]with
   |true=>
    have c2:=dP qo hl ht;have g5:=bf ht;rw[if_pos ht]at hq1;have h5:=aoy (f:=447) (l:=l) (N:=qn) (a:=qa+1) (o:=qo) (k:=qw l X qn) ho (fun h=>⟨apE hl hs hA (by omega) (by omega) (by omega),(xO hA (by omega) (by omega)).open.mono (by omega)⟩)
    have h6:=lV (K:=600) (g:=qw l X qn) (a:=qa+1) (o:=qo) (Nat.le_refl _) (xO (n:=qn) (o:=qo+1) hA (by omega) (by omega))
    cases hr2:ins 600 (qw l X qn) (qa+1) qo with
    |bad e p k a2 o2=>
     rw[hr2]at h5 hq1;have c3:=h5.bad;refine SX.goM ?_
     try(refine SX.WP.aB ?_;refine SX.goM ?_)
     exact W.next ⟨k,a2,o2,some (e,p),0⟩ ⟨hq1,fun h=>by cases h⟩ (by dsimp only;omega)
    |ok k a2=>
     rw[hr2]at h5 hq1 h6;have c3:=h5.ok;obtain⟨j1,j2,j3⟩:=h6;refine SX.goM ?_
     try(refine SX.WP.aB ?_;refine SX.goM ?_)
     exact W.next ⟨k,a2,qo,none,qf⟩ ⟨hq1,fun h=>by dsimp only;exact⟨rfl,by omega,by omega,by omega⟩⟩ (by dsimp only;omega)
   |false=>
    have c2:=dG qo ht;rw[if_neg (by rw[ht];decide)]at hq1
    refine SX.goM ?_
    try(refine SX.WP.aB ?_;refine SX.goM ?_)
    subst hq1;exact aK (aj.aX rfl rfl rfl) (AV0.imp.refl _) ⟨rfl,trivial⟩
theorem wV{l:List Tok}:GE 134 l:=ao9 (ap9 (amy (ge_un (ape amr))))
theorem aoj{l:List Tok}(hl:l.length≤1000000):∀(n m:Nat),l.length+1≤m+n→GOK 134 l m (lev 600 l n).1∧GOK 234 l m (lev 600 l n).2
 |0,m,h=>⟨fun a o hm ha=>by omega,fun a o hm ha=>by omega⟩
 |n+1,m,h=>by
  obtain⟨h1,h2⟩:=aoj hl n (m+1) (by omega)
  obtain⟨a1,a2⟩:=wU 600 l n (m+1) (by omega)
  have u:GOK 234 l m (unG 600 l (lev 600 l n).1 (lev 600 l n).2):=g_un hl (g_pow hl (aps hl h1 a1) (aaT a1) h2) h2 a2;have au:=ajb (K:=600) a1 a2;exact⟨g_exp hl (g_sum hl (ap8 hl u au) au) au,u⟩
end
section
section
variable(K:Nat)(l:List Tok)
def mh(S:Gr):Nat→List Nd→Gr
 |0,_=>fun a o=> .bad 4 a nd0 a o
 |f+1,ks=>fun a o=>if isS l a [125]then .ok (.mk 22 [] ks) (a+1)else match S a o with
  | .bad e p n a' o'=> .bad e p (.mk 22 [] (ks++[n])) a' o'
  | .ok n a'=>mh S f (ks++[n]) a' o
def acN(S:Gr):Gr:=fun a o=>if isS l a [123]then ins K (fun a o=>mh l S (l.length+1) [] a o) (a+1) o else .bad 4 a nd0 a (o+1)
def ifG(E B:Gr):Gr:=fun a o=>match E a o with
 | .bad e p n a' o'=> .bad e p (.mk 20 [] [n,nd0]) a' (o'+1)
 | .ok n a'=>match B a' o with
  | .bad e p b a2 o2=> .bad e p (.mk 20 [] [n,b]) a2 o2
  | .ok b a2=>if isS l a2 [101,108,115,101]then gV (fun c=> .mk 20 [] [n,b,c]) (B (a2+1) o)else .ok (.mk 20 [] [n,b]) a2
def ahF(E B:Gr):Gr:=fun a o=>if kX l a then
  (if isS l (a+1) [61]then(match E (a+2) o with
   | .bad e p n a' o'=> .bad e p (.mk 21 (txt l a) [n,nd0,nd0]) a' (o'+1)
   | .ok n a'=>if isS l a' [46,46]then(match E (a'+1) o with
     | .bad e p n2 a2 o2=> .bad e p (.mk 21 (txt l a) [n,n2,nd0]) a2 (o2+1)
     | .ok n2 a2=>gV (fun b=> .mk 21 (txt l a) [n,n2,b]) (B a2 o))
    else .bad 4 a' (.mk 21 (txt l a) [n,nd0,nd0]) a' (o+1))
  else .bad 4 (a+1) (.mk 21 (txt l a) [nd0,nd0,nd0]) (a+1) (o+1))
 else .bad 4 a (.mk 21 [] [nd0,nd0,nd0]) a (o+1)
def stG(E B:Gr):Gr:=fun a o=>if isS l a [105,102]then ifG l E B (a+1) o
 else if isS l a [102,111,114]then ahF l E B (a+1) o
 else if kX l a&&isS l (a+1) [61]then thenS l (gV (fun n=> .mk 18 (txt l a) [n]) (E (a+2) o)) o [59]
 else thenS l (gV (fun n=> .mk 19 [] [n]) (E a o)) o [59]
def zV:Nat→Gr
 |0=>fun a o=> .bad 4 a nd0 a o
 |n+1=>stG l (lev K l (l.length+1)).1 (acN K l (zV n))
end
theorem yU{l:List Tok}{m:Nat}{S:Gr}(h:Adv 2 l m S):∀(f:Nat) (ks:List Nd) (a o:Nat),m≤a→a≤l.length→kL (ig ks) 0 2 l a o (mh l S f ks a o)
 |0,ks,a,o,hm,ha=>kP (by omega)
 |f+1,ks,a,o,hm,ha=>by
  unfold mh
  split
  ·rename_i hs;have:=bf hs;exact⟨by rw[eF];omega,by omega,by omega⟩
  ·have h1:=h a o hm ha;cases hr:S a o with
   |bad e p n a' o'=>rw[hr]at h1;exact h1
   |ok n a'=>
    rw[hr]at h1;obtain⟨h1,h3,h2⟩:=h1;have hh:=yU h f (ks++[n]) a' o (by omega) h2
    refine hh.mono (Nat.le_refl _) (by omega) ?_
    rw[dR,aS,bD];omega
theorem afL{K:Nat}{l:List Tok}{m:Nat}{S:Gr}(h:Adv 2 l (m+1) S):Adv 2 l m (acN K l S):=by
 intro a o hm ha;unfold acN
 split
 ·rename_i hs;have:=bf hs;have hh:=lV (K:=K) (g:=fun a o=>mh l S (l.length+1) [] a o) (a:=a+1) (o:=o) (by omega) (yU h (l.length+1) [] (a+1) (o+1) (by omega) (by omega))
  exact hh.mono (Nat.le_refl _) (by omega) (by rw[bD];omega)
 ·exact⟨by omega,by omega⟩
theorem aoP{l:List Tok}{m:Nat}{E B:Gr}(he:Adv 1 l m E)(hb:Adv 2 l m B){a o:Nat}(hm:m≤a)(ha:a≤l.length):kL 1 0 2 l a o (ifG l E B a o):=by
 have h1:=he a o hm ha;unfold ifG;cases hr:E a o with
 |bad e p n a' o'=>rw[hr]at h1;exact⟨by have:=h1.1;omega,by have:=h1.2;omega⟩
 |ok n a'=>
  rw[hr]at h1;obtain⟨h1,h3,h2⟩:=h1;have h4:=hb a' o (by omega) h2
  dsimp only
  cases hr2:B a' o with
  |bad e p n a' o'=>rw[hr2]at h4;exact h4
  |ok b a2=>
   rw[hr2]at h4;obtain⟨h4,h6,h5⟩:=h4
   dsimp only
   split
   ·rename_i hs;have:=bf hs;have hh:=iw (f:=fun c=>Nd.mk 20 [] [n,b,c]) (c':=0) (s':=1+cnt n+cnt b) (hb (a2+1) o (by omega) (by omega)) (fun k=>by rw[eF,aS,aS,aS,bD];omega)
    exact hh.mono (Nat.le_refl _) (by omega) (by omega)
   ·exact⟨by rw[eF,aS,aS,bD];omega,by omega,h5⟩
theorem an4{l:List Tok}{m:Nat}{E B:Gr}(he:Adv 1 l m E)(hb:Adv 2 l m B){a o:Nat}(hm:m≤a)(ha:a≤l.length):kL 0 0 2 l a o (ahF l E B a o):=by
 unfold ahF
 split
 ·split
  ·rename_i hs;have:=bf hs;have h1:=he (a+2) o (by omega) (by omega)
   cases hr:E (a+2) o with
   |bad e p n a' o'=>rw[hr]at h1;exact⟨by have:=h1.1;omega,by have:=h1.2;omega⟩
   |ok n a'=>
    rw[hr]at h1;obtain⟨h1,h3,h2⟩:=h1
    dsimp only
    split
    ·rename_i hs2;have:=bf hs2;have h4:=he (a'+1) o (by omega) (by omega)
     cases hr2:E (a'+1) o with
     |bad e p n a' o'=>rw[hr2]at h4;exact⟨by have:=h4.1;omega,by have:=h4.2;omega⟩
     |ok n2 a2=>
      rw[hr2]at h4;obtain⟨h4,h6,h5⟩:=h4;have hh:=iw (f:=fun b=>Nd.mk 21 (txt l a) [n,n2,b]) (c':=0) (s':=1+cnt n+cnt n2) (hb a2 o (by omega) h5) (fun k=>by rw[eF,aS,aS,aS,bD];omega)
      exact hh.mono (Nat.le_refl _) (by omega) (by omega)
    ·exact⟨by omega,by omega⟩
  ·exact⟨by omega,by omega⟩
 ·exact⟨by omega,by omega⟩
theorem aoX{l:List Tok}{m:Nat}{E B:Gr}(he:Adv 1 l m E)(hb:Adv 2 l (m+1) B):Adv 2 l m (stG l E B):=by
 have he':Adv 1 l (m+1) E:=fun a o hm ha=>he a o (by omega) ha
 intro a o hm ha;unfold stG
 split
 ·rename_i hs;have:=bf hs;exact(aoP he' hb (o:=o) (by omega) (by omega)).mono (Nat.le_refl _) (by omega) (by omega)
 ·split
  ·rename_i hs;have:=bf hs;exact(an4 he' hb (o:=o) (by omega) (by omega)).mono (Nat.le_refl _) (by omega) (by omega)
  ·split
   ·rename_i hs;rw[Bool.and_eq_true]at hs;have:=bf hs.2;have hh:=mO (t:=[59]) (iw (f:=fun n=>Nd.mk 18 (txt l a) [n]) (c':=0) (s':=1) (he (a+2) o (by omega) (by omega)) (fun k=>by rw[eF,aS,bD];omega))
    exact hh.mono (by omega) (by omega) (by omega)
   ·have hh:=mO (t:=[59]) (iw (f:=fun n=>Nd.mk 19 [] [n]) (c':=0) (s':=1) (he a o hm ha) (fun k=>by rw[eF,aS,bD];omega))
    exact hh.mono (by omega) (by omega) (by omega)
theorem tV(K:Nat)(l:List Tok):∀(n m:Nat),l.length+1≤m+n→Adv 2 l m (zV K l n)
 |0,m,h=>fun a o hm ha=>by omega
 |n+1,m,h=>aoX (fun a o hm ha=>(wU K l (l.length+1) m (by omega)).1 a o hm ha) (afL fun a o hm ha=>tV K l n (m+1) (by omega) a o (by omega) ha)
attribute [local irreducible] IntKind.wrap Go1 Reg WP aN aQ bM bI aL aC aj ah aT Sat
def boS(l:List Tok)(S:Gr)(q:LiS):Res:=match q.b with
 |none=>mh l S q.f q.ks q.a q.o
 |some (e,p)=> .bad e p (.mk 22 [] q.ks) q.a q.o
theorem ap3{l:List Tok}{m:Nat}{S:Gr}(hl:l.length≤1000000)(hs:GOK 85 l m S)(hA:Adv 2 l m S){a o:Nat}(hm:m≤a)(ha:a≤l.length)(ho:o≤600):
  CR rNd 181 [.ptr 81 0] [(81,PP)] l a o (mh l S (l.length+1) [] a o):=by
 generalize hR:mh l S (l.length+1) [] a o=R;refine CR.of ?_;refine ah.fnF Tryz.func181 Tryz.results181 Tryz.ntmps181 rfl rfl rfl rfl (fun w0 T B E0 hB=>?_)
 refine SX.goM ?_
 try(refine SX.WP.aB ?_;refine SX.goM ?_)
 refine W.loop (fun q:LiS=>boS l S q=R∧(q.b=none→q.o=o∧m≤q.a∧q.a≤l.length∧l.length < q.a+q.f∧q.ks.length≤q.a)) (fun _=>[(0,.ptr 81 0),(1,.ptr 1 0),(2,.ptr 2 0)]) (fun q=>[(29,PS l q.a q.o q.b),(81,PP),(1,NZ),(2,NG 22 100),(100,NR q.ks)]) (fun q=>match q.b with|none=>l.length+1 - q.a|some _=>0) ⟨[],a,o,none,l.length+1⟩ ⟨hR,fun _=>by dsimp only;exact⟨rfl,by omega,by omega,by omega,Nat.zero_le _⟩⟩ (fun q hq=>?_)
  (by
   refine SX.St.bG [(100,none)] (by intro b h;exact SX.dw h rfl) ?_ ?_ rfl
   ·repeat(first|exact trivial|refine⟨⟨_,rfl,SX.aG.same rfl⟩,?_⟩)
   ·exact⟨SX.ak.same rfl rfl,SX.ak.same rfl rfl,SX.ak.same rfl rfl,ak.node rfl rfl (aA.nil rfl),SX.ak.dL rfl,trivial⟩)
 obtain⟨qk,qa,qo,qb,qf⟩:=q;obtain⟨hq1,hq2⟩:=hq
 dsimp only at hq1 hq2
 cases qb with
 |some b=>
  obtain⟨ee,p⟩:=b;show WP _ _ _ (eZ [(0,.ptr 81 0),(1,.ptr 1 0),(2,.ptr 2 0)] [(29,PE l qa qo ee p),(81,PP),(1,NZ),(2,NG 22 100),(100,NR qk)]) _;refine SX.goM ?_
  try(refine SX.WP.aB ?_;refine SX.goM ?_)
  subst hq1;refine aL.nY 100 (ps:=[29,81]) ?_;exact aK (aj.aX rfl rfl rfl) (aY rfl rfl rfl rfl) ⟨rfl,rfl,trivial⟩
 |none=>
  obtain⟨rfl,b1,b2,b3,b4⟩:=hq2 rfl;obtain⟨qf,rfl⟩:∃k,qf=k+1:=⟨qf - 1,by omega⟩
  show WP _ _ _ (eZ [(0,.ptr 81 0),(1,.ptr 1 0),(2,.ptr 2 0)] [(29,PG l qa qo),(81,PP),(1,NZ),(2,NG 22 100),(100,NR qk)]) _;have hq1:mh l S (qf+1) qk qa qo=R:=hq1;unfold mh at hq1;cases ht:isS l qa [125]with
  |true=>
   rw[if_pos ht]at hq1;have c3:=dP qo hl ht;refine SX.goM ?_
   try(refine SX.WP.aB ?_;refine SX.goM ?_)
   subst hq1;refine aL.nY 100 (ps:=[29,81]) ?_;exact aK (aj.aX rfl rfl rfl) (aY rfl rfl rfl rfl) ⟨rfl,rfl,trivial⟩
  |false=>
   rw[if_neg (by rw[ht];decide)]at hq1
   have c3:=dG qo ht;have h3:=hs qa qo (by omega) (by omega) ho
   have h4:=hA qa qo (by omega) (by omega)
   cases hr2:S qa qo with
   |bad c p k a2 o2=>
    rw[hr2]at h3 hq1;have c4:=h3.bad;refine SX.goM ?_
    try(refine SX.WP.aB ?_;refine SX.goM ?_)
    exact W.next ⟨qk++[k],a2,o2,some (c,p),0⟩ ⟨hq1,fun h=>by cases h⟩ (by dsimp only;omega)
     (by
      refine SX.St.bG [(100,some 19)] (by intro b h;exact SX.dw h rfl) ?_ ?_ rfl
      ·repeat(first|exact trivial|refine⟨⟨_,rfl,SX.aG.same rfl⟩,?_⟩)
      ·exact⟨SX.ak.eq rfl rfl rfl,SX.ak.same rfl rfl,SX.ak.same rfl rfl,ak.node rfl rfl (aA.own rfl),SX.ak.row rfl rfl (by simp) (bq (aD _).symm),trivial⟩)
   |ok k a2=>
    rw[hr2]at h3 hq1 h4;have c4:=h3.ok;obtain⟨j1,j2,j3⟩:=h4;have j4:=kT k;refine SX.goM ?_
    try(refine SX.WP.aB ?_;refine SX.goM ?_)
    exact W.next ⟨qk++[k],a2,qo,none,qf⟩ ⟨hq1,fun h=>by dsimp only;exact⟨rfl,by omega,by omega,by omega,by simp;omega⟩⟩ (by dsimp only;omega)
     (by
      refine SX.St.bG [(100,some 19)] (by intro b h;exact SX.dw h rfl) ?_ ?_ rfl
      ·repeat(first|exact trivial|refine⟨⟨_,rfl,SX.aG.same rfl⟩,?_⟩)
      ·exact⟨SX.ak.eq rfl rfl rfl,SX.ak.same rfl rfl,SX.ak.same rfl rfl,ak.node rfl rfl (aA.own rfl),SX.ak.row rfl rfl (by simp) (bq (aD _).symm),trivial⟩)
theorem g_blk{l:List Tok}{m:Nat}{S:Gr}(hl:l.length≤1000000)(hs:GOK 85 l (m+1) S)(hA:Adv 2 l (m+1) S):GOK 135 l m (acN 600 l S):=by
 intro a o hm ha ho;have nm1:Named 1 81:=⟨⟩;unfold acN;cases ht:isS l a [123]with
 |true=>
  rw[if_pos rfl];have c1:=jk o hl ht;have g5:=bf ht;have h1:=abB (f:=181) (l:=l) (a:=a+1) (o:=o) (k:=fun a o=>mh l S (l.length+1) [] a o) ho (fun h=>⟨ap3 hl hs hA (by omega) (by omega) (by omega),(yU hA _ _ _ _ (by omega) (by omega)).open.mono (by omega)⟩)
  cases hr:ins 600 (fun a o=>mh l S (l.length+1) [] a o) (a+1) o with
  |bad e p n a' o'=>
   rw[hr]at h1;have c3:=h1.bad;show ah _ _ _ _ _;refine ah.fnF Tryz.func135 Tryz.results135 Tryz.ntmps135 rfl rfl rfl rfl (fun w0 T B E0 hB=>?_)
   refine SX.goM ?_
   try(refine SX.WP.aB ?_;refine SX.goM ?_)
   exact aK (aj.aX rfl rfl rfl) (AV0.imp.refl _) ⟨rfl,trivial⟩
  |ok n a'=>
   rw[hr]at h1;have c3:=h1.ok;show ah _ _ _ _ _;refine ah.fnF Tryz.func135 Tryz.results135 Tryz.ntmps135 rfl rfl rfl rfl (fun w0 T B E0 hB=>?_)
   refine SX.goM ?_
   try(refine SX.WP.aB ?_;refine SX.goM ?_)
   exact aK (aj.aX rfl rfl rfl) (AV0.imp.refl _) ⟨rfl,trivial⟩
 |false=>
  rw[if_neg (by decide)]
  have c1:=jV o ht;have c2:=al5 (f:=181) (l:=l) (a:=a) (o:=o) (e:=4) (p:=a) (by omega)
  show ah _ _ _ _ _;refine ah.fnF Tryz.func135 Tryz.results135 Tryz.ntmps135 rfl rfl rfl rfl (fun w0 T B E0 hB=>?_)
  refine SX.goM ?_
  try(refine SX.WP.aB ?_;refine SX.goM ?_)
  exact aK (aj.aX rfl rfl rfl) (AV0.imp.refl _) ⟨rfl,trivial⟩
theorem uE(l:List Tok)(a:Nat){o:Nat}(e p:Nat)(ho:o≤1000000):ah Tryz.prog 135 [.ptr 29 0] [(29,PE l a o e p)] ⟨rNd nd0,[(29,.ent (PE l a (o+1) e p))]⟩:=by
 have nm1:Named 1 81:=⟨⟩;have c1:=iR l a o e p [123];have c2:=al5 (f:=181) (l:=l) (a:=a) (o:=o) (e:=e) (p:=p) ho;refine ah.fnF Tryz.func135 Tryz.results135 Tryz.ntmps135 rfl rfl rfl rfl (fun w0 T B E0 hB=>?_)
 refine SX.goM ?_
 try(refine SX.WP.aB ?_;refine SX.goM ?_)
 exact aK (aj.aX rfl rfl rfl) (AV0.imp.refl _) ⟨rfl,trivial⟩
end
section
attribute [local irreducible] IntKind.wrap Go1 Reg WP aN aQ bM bI aL aC aj ah aT Sat
theorem g_if{l:List Tok}{m:Nat}{X S:Gr}(hl:l.length≤1000000)(hs:GOK 134 l m X)(hA:Adv 1 l m X)(hb:GOK 135 l m S)(bA:Adv 2 l m S){a o:Nat}(hm:m≤a+1)(ha:a≤l.length)(ho:o≤600)(hi:isS l a [105,102]=true):
  CR rNd 85 [.ptr 29 0] [] l a o (ifG l X S (a+1) o):=by
 have mark:xJ 14:=⟨⟩;have g5:=bf hi;have k1:=dP o hl hi;have h1:=hs (a+1) o hm (by omega) ho
 have h2:=hA (a+1) o hm (by omega)
 unfold ifG;cases hr:X (a+1) o with
 |bad e p n a' o'=>
  rw[hr]at h1 h2;have k2:=h1.bad;obtain⟨j1,j2⟩:=h2;have k3:=uE l a' (o:=o') e p (by omega)
  have k4:=dx l a' (o'+1) e p [101,108,115,101];show ah _ _ _ _ _;refine ah.fnF Tryz.func85 Tryz.results85 Tryz.ntmps85 rfl rfl rfl rfl (fun w0 T B E0 hB=>?_)
  refine SX.goM ?_;refine aL.nY 21 (ps:=[29]) ?_;exact aK (aj.aX rfl rfl rfl) (aY rfl rfl rfl (by first|(simp only[List.flatMap_cons,List.flatMap_nil,aD,List.append_nil,List.append_assoc];done)|(simp only[List.flatMap_cons,List.flatMap_nil,aD,List.append_nil,List.append_assoc];rfl))) ⟨rfl,trivial⟩
 |ok n a'=>
  rw[hr]at h1 h2;have k2:=h1.ok;obtain⟨j1,j2,j3⟩:=h2;have h3:=hb a' o (by omega) j3 ho
  have h4:=bA a' o (by omega) j3
  dsimp only
  cases hr2:S a' o with
  |bad e p b a2 o2=>
   rw[hr2]at h3;have k3:=h3.bad;have k4:=dx l a2 o2 e p [101,108,115,101];show ah _ _ _ _ _;refine ah.fnF Tryz.func85 Tryz.results85 Tryz.ntmps85 rfl rfl rfl rfl (fun w0 T B E0 hB=>?_)
   refine SX.goM ?_;refine aL.nY 21 (ps:=[29]) ?_;exact aK (aj.aX rfl rfl rfl) (aY rfl rfl rfl (by first|(simp only[List.flatMap_cons,List.flatMap_nil,aD,List.append_nil,List.append_assoc];done)|(simp only[List.flatMap_cons,List.flatMap_nil,aD,List.append_nil,List.append_assoc];rfl))) ⟨rfl,trivial⟩
  |ok b a2=>
   rw[hr2]at h3 h4;have k3:=h3.ok;obtain⟨i1,i2,i3⟩:=h4
   dsimp only
   cases ht:isS l a2 [101,108,115,101]with
   |false=>
    rw[if_neg (by decide)]
    have k4:=dG o ht;show ah _ _ _ _ _;refine ah.fnF Tryz.func85 Tryz.results85 Tryz.ntmps85 rfl rfl rfl rfl (fun w0 T B E0 hB=>?_)
    refine SX.goM ?_;refine aL.nY 21 (ps:=[29]) ?_;exact aK (aj.aX rfl rfl rfl) (aY rfl rfl rfl (by first|(simp only[List.flatMap_cons,List.flatMap_nil,aD,List.append_nil,List.append_assoc];done)|(simp only[List.flatMap_cons,List.flatMap_nil,aD,List.append_nil,List.append_assoc];rfl))) ⟨rfl,trivial⟩
   |true=>
    rw[if_pos rfl];have k4:=dP o hl ht;have g6:=bf ht;have h5:=hb (a2+1) o (by omega) (by omega) ho
    cases hr3:S (a2+1) o with
    |bad e p c a3 o3=>
     rw[hr3]at h5;have k5:=h5.bad;show ah _ _ _ _ _;refine ah.fnF Tryz.func85 Tryz.results85 Tryz.ntmps85 rfl rfl rfl rfl (fun w0 T B E0 hB=>?_)
     refine SX.goM ?_;refine aL.nY 30 (ps:=[29]) ?_;exact aK (aj.aX rfl rfl rfl) (aY rfl rfl rfl (by first|(simp only[List.flatMap_cons,List.flatMap_nil,aD,List.append_nil,List.append_assoc];done)|(simp only[List.flatMap_cons,List.flatMap_nil,aD,List.append_nil,List.append_assoc];rfl))) ⟨rfl,trivial⟩
    |ok c a3=>
     rw[hr3]at h5;have k5:=h5.ok;show ah _ _ _ _ _;refine ah.fnF Tryz.func85 Tryz.results85 Tryz.ntmps85 rfl rfl rfl rfl (fun w0 T B E0 hB=>?_)
     refine SX.goM ?_;refine aL.nY 30 (ps:=[29]) ?_;exact aK (aj.aX rfl rfl rfl) (aY rfl rfl rfl (by first|(simp only[List.flatMap_cons,List.flatMap_nil,aD,List.append_nil,List.append_assoc];done)|(simp only[List.flatMap_cons,List.flatMap_nil,aD,List.append_nil,List.append_assoc];rfl))) ⟨rfl,trivial⟩
theorem g_for{l:List Tok}{m:Nat}{X S:Gr}(hl:l.length≤1000000)(hs:GOK 134 l m X)(hA:Adv 1 l m X)(hb:GOK 135 l m S){a o:Nat}(hm:m≤a+1)(ha:a≤l.length)(ho:o≤600)(hf:isS l a [105,102]=false)(hi:isS l a [102,111,114]=true):
  CR rNd 85 [.ptr 29 0] [] l a o (ahF l X S (a+1) o):=by
 have g5:=bf hi;have k0:=dG o hf;have k1:=dP o hl hi;unfold ahF;cases hn:kX l (a+1)with
 |false=>
  rw[if_neg (by decide)]
  have k2:=anE o hn;have k3:=iR l (a+1) o 4 (a+1) [61];have k4:=wV (l:=l) (a+1) o 4 (a+1);have k5:=iR l (a+1) o 4 (a+1) [46,46];have k6:=uE l (a+1) (o:=o) 4 (a+1) (by omega)
  show ah _ _ _ _ _;refine ah.fnF Tryz.func85 Tryz.results85 Tryz.ntmps85 rfl rfl rfl rfl (fun w0 T B E0 hB=>?_)
  refine SX.goM ?_;exact aK (aj.aX rfl rfl rfl) (aY rfl rfl rfl (by first|(simp only[List.flatMap_cons,List.flatMap_nil,aD,List.append_nil,List.append_assoc];done)|(simp only[List.flatMap_cons,List.flatMap_nil,aD,List.append_nil,List.append_assoc];rfl))) ⟨rfl,trivial⟩
 |true=>
  rw[if_pos rfl];have k2:=ag1 o hl hn;have g6:=acf hn;cases ht:isS l (a+1+1) [61]with
  |false=>
   rw[if_neg (by decide)]
   have k3:=jV o ht;have k4:=wV (l:=l) (a+1+1) o 4 (a+1+1);have k5:=iR l (a+1+1) o 4 (a+1+1) [46,46];have k6:=uE l (a+1+1) (o:=o) 4 (a+1+1) (by omega)
   show ah _ _ _ _ _;refine ah.fnF Tryz.func85 Tryz.results85 Tryz.ntmps85 rfl rfl rfl rfl (fun w0 T B E0 hB=>?_)
   refine SX.goM ?_;exact aK (aj.aX rfl rfl rfl) (aY rfl rfl rfl (by first|(simp only[List.flatMap_cons,List.flatMap_nil,aD,List.append_nil,List.append_assoc];done)|(simp only[List.flatMap_cons,List.flatMap_nil,aD,List.append_nil,List.append_assoc];rfl))) ⟨rfl,trivial⟩
  |true=>
   rw[if_pos rfl];have k3:=jk o hl ht;have g7:=bf ht;have h1:=hs (a+1+2) o (by omega) (by omega) ho
   have h2:=hA (a+1+2) o (by omega) (by omega)
   cases hr:X (a+1+2) o with
   |bad e p n a' o'=>
    rw[hr]at h1 h2;have k4:=h1.bad;obtain⟨j1,j2⟩:=h2;have k5:=iR l a' o' e p [46,46];have k6:=wV (l:=l) a' o' e p;have k7:=uE l a' (o:=o') e p (by omega)
    show ah _ _ _ _ _;refine ah.fnF Tryz.func85 Tryz.results85 Tryz.ntmps85 rfl rfl rfl rfl (fun w0 T B E0 hB=>?_)
    refine SX.goM ?_;exact aK (aj.aX rfl rfl rfl) (aY rfl rfl rfl (by first|(simp only[List.flatMap_cons,List.flatMap_nil,aD,List.append_nil,List.append_assoc];done)|(simp only[List.flatMap_cons,List.flatMap_nil,aD,List.append_nil,List.append_assoc];rfl))) ⟨rfl,trivial⟩
   |ok n a'=>
    rw[hr]at h1 h2;have k4:=h1.ok;obtain⟨j1,j2,j3⟩:=h2
    dsimp only
    cases ht2:isS l a' [46,46]with
    |false=>
     rw[if_neg (by decide)]
     have k5:=jV o ht2;have k6:=wV (l:=l) a' o 4 a';have k7:=uE l a' (o:=o) 4 a' (by omega)
     show ah _ _ _ _ _;refine ah.fnF Tryz.func85 Tryz.results85 Tryz.ntmps85 rfl rfl rfl rfl (fun w0 T B E0 hB=>?_)
     refine SX.goM ?_;exact aK (aj.aX rfl rfl rfl) (aY rfl rfl rfl (by first|(simp only[List.flatMap_cons,List.flatMap_nil,aD,List.append_nil,List.append_assoc];done)|(simp only[List.flatMap_cons,List.flatMap_nil,aD,List.append_nil,List.append_assoc];rfl))) ⟨rfl,trivial⟩
    |true=>
     rw[if_pos rfl];have k5:=jk o hl ht2;have g8:=bf ht2;have h3:=hs (a'+1) o (by omega) (by omega) ho
     have h4:=hA (a'+1) o (by omega) (by omega)
     cases hr2:X (a'+1) o with
     |bad e p n2 a2 o2=>
      rw[hr2]at h3 h4;have k6:=h3.bad;obtain⟨j1,j2⟩:=h4;have k7:=uE l a2 (o:=o2) e p (by omega)
      show ah _ _ _ _ _;refine ah.fnF Tryz.func85 Tryz.results85 Tryz.ntmps85 rfl rfl rfl rfl (fun w0 T B E0 hB=>?_)
      refine SX.goM ?_;exact aK (aj.aX rfl rfl rfl) (aY rfl rfl rfl (by first|(simp only[List.flatMap_cons,List.flatMap_nil,aD,List.append_nil,List.append_assoc];done)|(simp only[List.flatMap_cons,List.flatMap_nil,aD,List.append_nil,List.append_assoc];rfl))) ⟨rfl,trivial⟩
     |ok n2 a2=>
      rw[hr2]at h3 h4;have k6:=h3.ok;obtain⟨i1,i2,i3⟩:=h4
      dsimp only
      have h5:=hb a2 o (by omega) i3 ho
      cases hr3:S a2 o with
      |bad e p c a3 o3=>
       rw[hr3]at h5;have k7:=h5.bad;show ah _ _ _ _ _;refine ah.fnF Tryz.func85 Tryz.results85 Tryz.ntmps85 rfl rfl rfl rfl (fun w0 T B E0 hB=>?_)
       refine SX.goM ?_;exact aK (aj.aX rfl rfl rfl) (aY rfl rfl rfl (by first|(simp only[List.flatMap_cons,List.flatMap_nil,aD,List.append_nil,List.append_assoc];done)|(simp only[List.flatMap_cons,List.flatMap_nil,aD,List.append_nil,List.append_assoc];rfl))) ⟨rfl,trivial⟩
      |ok c a3=>
       rw[hr3]at h5;have k7:=h5.ok;show ah _ _ _ _ _;refine ah.fnF Tryz.func85 Tryz.results85 Tryz.ntmps85 rfl rfl rfl rfl (fun w0 T B E0 hB=>?_)
       refine SX.goM ?_;exact aK (aj.aX rfl rfl rfl) (aY rfl rfl rfl (by first|(simp only[List.flatMap_cons,List.flatMap_nil,aD,List.append_nil,List.append_assoc];done)|(simp only[List.flatMap_cons,List.flatMap_nil,aD,List.append_nil,List.append_assoc];rfl))) ⟨rfl,trivial⟩
def HT(l:List Tok):Prop:=∀(i:Nat) (t:Tok),l[i]? =some t→t.text=[61]→t.kind≠1
theorem akO{l:List Tok}(hT:HT l){a:Nat}{t:Tok}(ht:l[a]? =some t):isS l a [61]=decide (t.text=[61]):=by
 unfold isS;rw[ht]
 dsimp only
 by_cases h:t.text=[61]
 ·simp[h,hT a t ht h]
 ·simp[h]
theorem g_let{l:List Tok}{m:Nat}{X:Gr}(hl:l.length≤1000000)(hT:HT l)(hs:GOK 134 l m X)(hA:Adv 1 l m X){a o:Nat}(hm:m≤a+2)(ha:a≤l.length)(ho:o≤600)(hf:isS l a [105,102]=false)(hi:isS l a [102,111,114]=false)(hn:kX l a=true)(he:isS l (a+1) [61]=true):
  CR rNd 85 [.ptr 29 0] [] l a o (thenS l (gV (fun n=> .mk 18 (txt l a) [n]) (X (a+2) o)) o [59]):=by
 have k0:=dG o hf;have k1:=dG o hi;have k2:=oK l a o;rw[hn]at k2;have k3:=ag1 o hl hn;have k4:=jk o hl he;have g5:=bf he;obtain⟨⟨tk,tt,tp⟩,ht⟩:∃t,l[a+1]? =some t:=⟨_,List.getElem?_eq_getElem g5⟩
 rw[akO hT ht]at he
 dsimp only at he
 have h1:=hs (a+2) o (by omega) (by omega) ho
 cases hr:X (a+2) o with
 |bad e p n a' o'=>
  rw[hr]at h1;have k5:=h1.bad;have k6:=iR l a' o' e p [59];show ah _ _ _ _ _;refine ah.fnF Tryz.func85 Tryz.results85 Tryz.ntmps85 rfl rfl rfl rfl (fun w0 T B E0 hB=>?_)
  refine SX.goM ?_;exact aK (aj.aX rfl rfl rfl) (aY rfl rfl rfl (by first|(simp only[List.flatMap_cons,List.flatMap_nil,aD,List.append_nil,List.append_assoc];done)|(simp only[List.flatMap_cons,List.flatMap_nil,aD,List.append_nil,List.append_assoc];rfl))) ⟨rfl,trivial⟩
 |ok n a'=>
  rw[hr]at h1;have k5:=h1.ok;unfold thenS gV
  dsimp only
  cases ht2:isS l a' [59]with
  |true=>
   rw[if_pos rfl];have k6:=jk o hl ht2;show ah _ _ _ _ _;refine ah.fnF Tryz.func85 Tryz.results85 Tryz.ntmps85 rfl rfl rfl rfl (fun w0 T B E0 hB=>?_)
   refine SX.goM ?_;exact aK (aj.aX rfl rfl rfl) (aY rfl rfl rfl (by first|(simp only[List.flatMap_cons,List.flatMap_nil,aD,List.append_nil,List.append_assoc];done)|(simp only[List.flatMap_cons,List.flatMap_nil,aD,List.append_nil,List.append_assoc];rfl))) ⟨rfl,trivial⟩
  |false=>
   rw[if_neg (by decide)]
   have k6:=jV o ht2;show ah _ _ _ _ _;refine ah.fnF Tryz.func85 Tryz.results85 Tryz.ntmps85 rfl rfl rfl rfl (fun w0 T B E0 hB=>?_)
   refine SX.goM ?_;exact aK (aj.aX rfl rfl rfl) (aY rfl rfl rfl (by first|(simp only[List.flatMap_cons,List.flatMap_nil,aD,List.append_nil,List.append_assoc];done)|(simp only[List.flatMap_cons,List.flatMap_nil,aD,List.append_nil,List.append_assoc];rfl))) ⟨rfl,trivial⟩
theorem apv{l:List Tok}{m:Nat}{X:Gr}(hl:l.length≤1000000)(hT:HT l)(hs:GOK 134 l m X){a o:Nat}(hm:m≤a)(ha:a≤l.length)(ho:o≤600)(hf:isS l a [105,102]=false)(hi:isS l a [102,111,114]=false)(hn:(kX l a&&isS l (a+1) [61])=false):
  CR rNd 85 [.ptr 29 0] [] l a o (thenS l (gV (fun n=> .mk 19 [] [n]) (X a o)) o [59]):=by
 have k0:=dG o hf;have k1:=dG o hi;have k2:=oK l a o;have h1:=hs a o hm ha ho
 -- what is behind,whatever it be
 have key:∀{n a' o'} {b:Option (Nat×Nat)},ah Tryz.prog 134 [.ptr 29 0] [(29,PG l a o)] ⟨rNd n,[(29,.ent (PS l a' o' b))]⟩→∀{a2 o2 b2},ah Tryz.prog 137 [.ptr 29 0,.v (str [59])] [(29,PS l a' o' b)] ⟨.tup [],[(29,.ent (PS l a2 o2 b2))]⟩→
   ah Tryz.prog 85 [.ptr 29 0] [(29,PG l a o)] ⟨rNd (.mk 19 [] [n]),[(29,.ent (PS l a2 o2 b2))]⟩:=by
  intro n a' o' b k5 a2 o2 b2 k6;cases hn1:kX l a with
  |false=>
   rw[hn1]at k2;show ah _ _ _ _ _;refine ah.fnF Tryz.func85 Tryz.results85 Tryz.ntmps85 rfl rfl rfl rfl (fun w0 T B E0 hB=>?_)
   refine SX.goM ?_;exact aK (aj.aX rfl rfl rfl) (aY rfl rfl rfl (by first|(simp only[List.flatMap_cons,List.flatMap_nil,aD,List.append_nil,List.append_assoc];done)|(simp only[List.flatMap_cons,List.flatMap_nil,aD,List.append_nil,List.append_assoc];rfl))) ⟨rfl,trivial⟩
  |true=>
   rw[hn1]at k2 hn;have he:isS l (a+1) [61]=false:=by simpa using hn
   by_cases hlt:a+1 < l.length
   ·obtain⟨⟨tk,tt,tp⟩,ht⟩:∃t,l[a+1]? =some t:=⟨_,List.getElem?_eq_getElem hlt⟩
    rw[akO hT ht]at he
    dsimp only at he
    show ah _ _ _ _ _;refine ah.fnF Tryz.func85 Tryz.results85 Tryz.ntmps85 rfl rfl rfl rfl (fun w0 T B E0 hB=>?_)
    refine SX.goM ?_;exact aK (aj.aX rfl rfl rfl) (aY rfl rfl rfl (by first|(simp only[List.flatMap_cons,List.flatMap_nil,aD,List.append_nil,List.append_assoc];done)|(simp only[List.flatMap_cons,List.flatMap_nil,aD,List.append_nil,List.append_assoc];rfl))) ⟨rfl,trivial⟩
   ·have g6:=acf hn1;show ah _ _ _ _ _;refine ah.fnF Tryz.func85 Tryz.results85 Tryz.ntmps85 rfl rfl rfl rfl (fun w0 T B E0 hB=>?_)
    refine SX.goM ?_;exact aK (aj.aX rfl rfl rfl) (aY rfl rfl rfl (by first|(simp only[List.flatMap_cons,List.flatMap_nil,aD,List.append_nil,List.append_assoc];done)|(simp only[List.flatMap_cons,List.flatMap_nil,aD,List.append_nil,List.append_assoc];rfl))) ⟨rfl,trivial⟩
 cases hr:X a o with
 |bad e p n a' o'=>
  rw[hr]at h1;exact key (b:=some (e,p)) h1.bad (b2:=some (e,p)) (iR l a' o' e p [59])
 |ok n a'=>
  rw[hr]at h1;unfold thenS gV
  dsimp only
  cases ht2:isS l a' [59]with
  |true=>
   rw[if_pos rfl];exact key (b:=none) h1.ok (b2:=none) (jk o hl ht2)
  |false=>
   rw[if_neg (by decide)]
   exact key (b:=none) h1.ok (b2:=some (4,a')) (jV o ht2)
theorem g_st{l:List Tok}{m:Nat}{X S:Gr}(hl:l.length≤1000000)(hT:HT l)(hs:GOK 134 l m X)(hA:Adv 1 l m X)(hb:GOK 135 l (m+1) S)(bA:Adv 2 l (m+1) S):GOK 85 l m (stG l X S):=by
 intro a o hm ha ho;have hs':GOK 134 l (m+1) X:=fun a o hm ha=>hs a o (by omega) ha
 have hA':Adv 1 l (m+1) X:=fun a o hm ha=>hA a o (by omega) ha
 unfold stG;cases h1:isS l a [105,102]with
 |true=>exact g_if hl hs' hA' hb bA (by omega) ha ho h1
 |false=>
  cases h2:isS l a [102,111,114]with
  |true=>exact g_for hl hs' hA' hb (by omega) ha ho h1 h2
  |false=>
   cases h3:kX l a&&isS l (a+1) [61]with
   |true=>
    have h4:=h3;rw[Bool.and_eq_true]at h4;exact g_let hl hT hs' hA' (by omega) ha ho h1 h2 h4.1 h4.2
   |false=>exact apv hl hT hs hm ha ho h1 h2 h3
theorem aiG{l:List Tok}(hl:l.length≤1000000)(hT:HT l):∀(n m:Nat),l.length+1≤m+n→GOK 85 l m (zV 600 l n)
 |0,m,h=>fun a o hm ha=>by omega
 |n+1,m,h=>g_st hl hT (fun a o hm ha ho=>(aoj hl (l.length+1) m (by omega)).1 a o hm ha ho) (fun a o hm ha=>(wU 600 l (l.length+1) m (by omega)).1 a o hm ha) (g_blk hl (fun a o hm ha ho=>aiG hl hT n (m+1) (by omega) a o (by omega) ha ho) (fun a o hm ha=>tV 600 l n (m+1) (by omega) a o (by omega) ha)) (afL fun a o hm ha=>tV 600 l n (m+1) (by omega) a o (by omega) ha)
end
end Go.Proofs.YtegehclknhmkgaaGreatDoor