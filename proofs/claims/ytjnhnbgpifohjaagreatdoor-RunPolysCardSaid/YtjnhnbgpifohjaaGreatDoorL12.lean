import Derived.Test.YtjnhnbgpifohjaaGreatDoorL11
set_option linter.unusedVariables false
set_option linter.unusedSimpArgs false
open Go.Proofs.Tryz
namespace Go.Proofs.YtjnhnbgpifohjaaGreatDoor
open Go.RowKit SX
attribute [local irreducible] IntKind.wrap Go1 Reg WP aO aR bM bK aN aD aj ak aX Sat
section
theorem ay.node{st:St}{ρ:List (Nat×Option Nat)}{b c:Nat}{x:Value}{s:Value}{o:Atom}(h:st.hp b= .ent (.box 341 [.c (.val x),.c (.val s),o]))(hf:fresh ρ [b]=true)(hi:aC ρ o (.own c)):ay st ρ b (.box 341 [.c (.val x),.c (.val s),.own c]):=
 ay.jZ h hf ⟨aC.same rfl,aC.same rfl,hi,trivial⟩
abbrev NG(x:Int)(c:Nat):Ent:= .box 341 [.c (.val (.int .i64 x)),.c (.val (.string ByteArray.empty)),.own c]
structure MaS where
 rs:List Nd
 r:List Nd
 a:Nat
 f:Nat
theorem abS(r:List Nd)(k:Nd):([CA.val (.int .i64 15),.val (.string ByteArray.empty),.sat (aQ 3 (r.length+1) (r.flatMap ndC++caN k))]:List CA)=ndC (.mk 15 [] (r++[k])):=by
 rw[aqf];show _=[CA.val (.int .i64 15),.val (.string ByteArray.empty),.sat (aQ 3 (r++[k]).length ((r++[k]).flatMap ndC))];rw[<-bY (aJ k).symm,zqi];rfl
theorem g_mat{l:List Tok}{m:Nat}{X:Gr}(hl:l.length<=1000000)(hs:GOK 388 l m X)(hA:Adv 1 l m X){a o:Nat}(hm:m<=a)(ha:a<=l.length)(ho:o<=600):
  CR rNd 577 [.ptr 29 0] [] l a o (uT l X (l.length+1) [] [] a o):=by
 generalize hR:uT l X (l.length+1) [] [] a o=R;refine CR.of ?_;refine ak.fq func577 results577 ntmps577 fun _ _ _ _ hB=>?_
 refine zg ?_;refine W.loop (fun q:MaS=>uT l X q.f q.rs q.r q.a o=R/\m<=q.a/\q.a<=l.length/\l.length < q.a+q.f/\q.rs.length+q.r.length<=q.a) (fun _=>[(0,.ptr 29 0),(2,.ptr 2 0),(3,.ptr 3 0),(4,.ptr 4 0)]) (fun q=>[(29,PG l q.a o),(2,NZ),(3,NG 14 100),(4,NG 15 101),(100,NR q.rs),(101,NR q.r)]) (fun q=>l.length+1 - q.a) ⟨[],[],a,l.length+1⟩ ⟨hR,by dsimp only;exact⟨zE,zE,zE,zq8 _⟩⟩ (fun q hq=>?_)
  (by
   refine St.aW [(100,none),(101,none)] (by intro b h;exact SX.dY h rfl) ?_ ?_ rfl
   ·exact ya
   ·exact⟨ay.same rfl rfl,ay.same rfl rfl,ay.node rfl rfl (aC.nil rfl),ay.node rfl rfl (aC.nil rfl),ay.dO rfl,ay.dO rfl,trivial⟩)
 obtain⟨rs,r,qa,qf⟩:=q
 dsimp only at hq
 obtain⟨hq1,b1,b2,b3,b4⟩:=hq;obtain⟨qf,rfl⟩:∃k,qf=k+1:=⟨qf - 1,zE⟩
 unfold uT at hq1;show WP _ _ _ (iq [(0,.ptr 29 0),(2,.ptr 2 0),(3,.ptr 3 0),(4,.ptr 4 0)] [(29,PG l qa o),(2,NZ),(3,NG 14 100),(4,NG 15 101),(100,NR rs),(101,NR r)]) _;have h3:=hs qa o zE zE ho
 have h4:=hA qa o zE zE
 cases hr2:X qa o with
 |bad c p k a2 o2=>
  rw[hr2]at h3 hq1;have c3:=h3.bad;have c4:=dZ l a2 o2 c p [44];have c6:=kE l a2 o2 c p [93];obtain⟨bb,hbb⟩:∃b,Hide (b=false):=⟨_,⟨rfl⟩⟩;have c5:ak prog 387 [.ptr 29 0,.v (str [59])] [(29,PE l a2 o2 c p)] ⟨.v (.bool bb),[(29,.ent (PE l a2 o2 c p))]⟩:=by rw[hbb.out];exact dZ l a2 o2 c p [59]
  refine zg ?_;refine WP.ace 17 (ps:=[29]) hB rfl rfl ?_;refine W.acT ?_ rfl hbb.out;refine zg ?_;subst hq1;refine aN.tZ 25 (ps:=[29]) ?_;exact aU aj.bG (bT rfl rfl (by simp[Res.nd]) (bY (abS r k))) ⟨rfl,trivial⟩
 |ok k a2=>
  rw[hr2]at h3 hq1 h4;have c3:=h3.ok;obtain⟨j1,j2,j3⟩:=h4;have j4:=nU k
  dsimp only at hq1
  cases ht:isS l a2 [44]with
  |true=>
   have c4:=fK o hl ht;have g5:=bZ ht;rw[if_pos ht]at hq1;refine zg ?_;exact W.next ⟨rs,r++[k],a2+1,qf⟩ ⟨hq1,by dsimp only;exact⟨zE,zE,zE,by simp;omega⟩⟩ (by dsimp only;omega)
    (by
     refine St.aW [(100,some 100),(101,some 17)] (by intro b h;exact SX.dY h rfl) ?_ ?_ rfl
     ·exact ya
     ·exact⟨ay.eq rfl rfl rfl,ay.same rfl rfl,ay.node rfl rfl (aC.own rfl),ay.node rfl rfl (aC.own rfl),ay.row rfl rfl rfl rfl,ay.row rfl rfl zp (bY (aJ _).symm),trivial⟩)
  |false=>
   have c4:=eP o ht;rw[if_neg (by rw[ht];decide)]at hq1
   cases ht2:isS l a2 [59]with
   |true=>
    have g5:=bZ ht2;rw[if_pos ht2]at hq1;obtain⟨bb,hbb⟩:∃b,Hide (b=true):=⟨_,⟨rfl⟩⟩;have c5:ak prog 387 [.ptr 29 0,.v (str [59])] [(29,PG l a2 o)] ⟨.v (.bool bb),[(29,.ent (PG l (a2+1) o))]⟩:=by rw[hbb.out];exact fK o hl ht2
    refine zg ?_;refine WP.ace 17 (ps:=[29]) hB rfl rfl ?_;refine W.alx ?_ rfl hbb.out;refine zg ?_;exact W.next ⟨rs++[.mk 15 [] (r++[k])],[],a2+1,qf⟩ ⟨hq1,by dsimp only;exact⟨zE,zE,zE,by simp;omega⟩⟩ (by dsimp only;omega)
     (by
      refine St.aW [(100,some 38),(101,none)] (by intro b h;exact SX.dY h rfl) ?_ ?_ rfl
      ·exact ya
      ·exact⟨ay.eq rfl rfl rfl,ay.same rfl rfl,ay.node rfl rfl (aC.own rfl),ay.node rfl rfl (aC.nil rfl),ay.row rfl rfl zp (bY (abS r k)),ay.dO rfl,trivial⟩)
   |false=>
    rw[if_neg (by rw[ht2];decide)]at hq1
    obtain⟨bb,hbb⟩:∃b,Hide (b=false):=⟨_,⟨rfl⟩⟩;have c5:ak prog 387 [.ptr 29 0,.v (str [59])] [(29,PG l a2 o)] ⟨.v (.bool bb),[(29,.ent (PG l a2 o))]⟩:=by rw[hbb.out];exact eP o ht2
    cases ht3:isS l a2 [93]with
    |true=>
     rw[if_pos ht3]at hq1;have c6:=kZ o hl ht3;refine zg ?_;refine WP.ace 17 (ps:=[29]) hB rfl rfl ?_;refine W.acT ?_ rfl hbb.out;refine zg ?_;subst hq1;refine aN.tZ 25 (ps:=[29]) ?_;exact aU aj.bG (bT rfl rfl (by simp[Res.nd]) (bY (abS r k))) ⟨rfl,trivial⟩
    |false=>
     rw[if_neg (by rw[ht3];decide)]at hq1
     have c6:=mZ o ht3;refine zg ?_;refine WP.ace 17 (ps:=[29]) hB rfl rfl ?_;refine W.acT ?_ rfl hbb.out;refine zg ?_;subst hq1;refine aN.tZ 25 (ps:=[29]) ?_;exact aU aj.bG (bT rfl rfl (by simp[Res.nd]) (bY (abS r k))) ⟨rfl,trivial⟩
theorem g_par{l:List Tok}{m:Nat}{X:Gr}(hl:l.length<=1000000)(hs:GOK 388 l m X){a o:Nat}(hm:m<=a)(ha:a<=l.length)(ho:o<=600):CR rNd 576 [.ptr 81 0] [(81,PP)] l a o (thenS l (X a o) o [41]):=by
 have h3:=hs a o hm ha ho;cases hr2:X a o with
 |bad e p n2 a2 o2=>
  rw[hr2]at h3;have c3:=h3.bad;have c4:=kE l a2 o2 e p [41];show ak _ _ _ _ _;refine ak.fq func576 results576 ntmps576 fun w0 T B E0 hB=>?_
  refine zg ?_;exact aU aj.bG (zv _) ⟨rfl,rfl,trivial⟩
 |ok n2 a2=>
  rw[hr2]at h3;have c3:=h3.ok;unfold thenS
  dsimp only
  cases ht:isS l a2 [41]with
  |true=>
   have c4:=kZ o hl ht;rw[if_pos rfl];show ak _ _ _ _ _;refine ak.fq func576 results576 ntmps576 fun w0 T B E0 hB=>?_
   refine zg ?_;exact aU aj.bG (zv _) ⟨rfl,rfl,trivial⟩
  |false=>
   have c4:=mZ o ht;rw[if_neg zc]
   show ak _ _ _ _ _;refine ak.fq func576 results576 ntmps576 fun w0 T B E0 hB=>?_
   refine zg ?_;exact aU aj.bG (zv _) ⟨rfl,rfl,trivial⟩
theorem g_call{l:List Tok}{m:Nat}{X:Gr}{t:Tok}(hl:l.length<=1000000)(hs:GOK 388 l m X)(hA:Adv 1 l m X){a o:Nat}(hm:m<=a)(ha:a<=l.length)(ho:o<=600):CR rNd 574 [.ptr 82 0,.ptr 81 0] [(81,PP),(82,KB t)] l a o (jJ (fun n=> .mk 13 t.text n.kids) (kW l X [41] a o)):=by
 have h3:=atG (e:=[41]) hl hs hA hm ha ho;cases hr2:kW l X [41] a o with
 |bad e p n2 a2 o2=>
  rw[hr2]at h3;have c3:=h3.bad;show ak _ _ _ _ _;refine ak.fq func574 results574 ntmps574 fun w0 T B E0 hB=>?_
  refine zg ?_;exact aU aj.bG (zv _) ⟨rfl,rfl,rfl,trivial⟩
 |ok n2 a2=>
  rw[hr2]at h3;have c3:=h3.ok;show ak _ _ _ _ _;refine ak.fq func574 results574 ntmps574 fun w0 T B E0 hB=>?_
  refine zg ?_;exact aU aj.bG (zv _) ⟨rfl,rfl,rfl,trivial⟩
theorem g_set{l:List Tok}{m:Nat}{X:Gr}(hl:l.length<=1000000)(hs:GOK 388 l m X)(hA:Adv 1 l m X){a o:Nat}(hm:m<=a)(ha:a<=l.length)(ho:o<=600):CR rNd 578 [.ptr 81 0] [(81,PP)] l a o (jJ (fun n=> .mk 16 [] n.kids) (kW l X [125] a o)):=by
 have h3:=atG (e:=[125]) hl hs hA hm ha ho;cases hr2:kW l X [125] a o with
 |bad e p n2 a2 o2=>
  rw[hr2]at h3;have c3:=h3.bad;show ak _ _ _ _ _;refine ak.fq func578 results578 ntmps578 fun w0 T B E0 hB=>?_
  refine zg ?_;exact aU aj.bG (zv _) ⟨rfl,rfl,trivial⟩
 |ok n2 a2=>
  rw[hr2]at h3;have c3:=h3.ok;show ak _ _ _ _ _;refine ak.fq func578 results578 ntmps578 fun w0 T B E0 hB=>?_
  refine zg ?_;exact aU aj.bG (zv _) ⟨rfl,rfl,trivial⟩
theorem ayv{l:List Tok}{m:Nat}{X:Gr}{N:Nd}(hl:l.length<=1000000)(hs:GOK 388 l m X)(hA:Adv 1 l m X){a o:Nat}(hm:m<=a)(ha:a<=l.length)(ho:o<=600):CR rNd 564 [.ptr 83 0,.ptr 81 0] [(81,PP),(83,NB N)] l a o (wZ l X N a o):=by
 have mark:acL 7:=⟨⟩;have h3:=hs a o hm ha ho;have h4:=hA a o hm ha;unfold wZ;cases hr2:X a o with
 |bad e p n2 a2 o2=>
  rw[hr2]at h3;have c3:=h3.bad;have c4:=dZ l a2 o2 e p [44];have c5:=kE l a2 o2 e p [93];show ak _ _ _ _ _;refine ak.fq func564 results564 ntmps564 fun w0 T B E0 hB=>?_
  refine zg ?_;refine aN.tZ 7 (ps:=[29,81,83]) ?_;exact aU aj.bG (bT rfl rfl rfl (by first|(simp only[zq7,zqd,aJ,zqb];done)|(simp only[zq7,zqd,aJ,zqb];rfl))) ⟨rfl,rfl,rfl,trivial⟩
 |ok n2 a2=>
  rw[hr2]at h3 h4;have c3:=h3.ok;obtain⟨j1,j2,j3⟩:=h4
  dsimp only
  cases ht:isS l a2 [44]with
  |false=>
   have c4:=eP o ht;rw[if_neg zc]
   unfold thenS
   dsimp only
   cases ht2:isS l a2 [93]with
   |true=>
    have c5:=kZ o hl ht2;rw[if_pos rfl];show ak _ _ _ _ _;refine ak.fq func564 results564 ntmps564 fun w0 T B E0 hB=>?_
    refine zg ?_;refine aN.tZ 7 (ps:=[29,81,83]) ?_;exact aU aj.bG (bT rfl rfl rfl (by first|(simp only[zq7,zqd,aJ,zqb];done)|(simp only[zq7,zqd,aJ,zqb];rfl))) ⟨rfl,rfl,rfl,trivial⟩
   |false=>
    have c5:=mZ o ht2;rw[if_neg zc]
    show ak _ _ _ _ _;refine ak.fq func564 results564 ntmps564 fun w0 T B E0 hB=>?_
    refine zg ?_;refine aN.tZ 7 (ps:=[29,81,83]) ?_;exact aU aj.bG (bT rfl rfl rfl (by first|(simp only[zq7,zqd,aJ,zqb];done)|(simp only[zq7,zqd,aJ,zqb];rfl))) ⟨rfl,rfl,rfl,trivial⟩
  |true=>
   have c4:=fK o hl ht;have g5:=bZ ht;rw[if_pos rfl];have h5:=hs (a2+1) o zE zE ho
   cases hr3:X (a2+1) o with
   |bad e p n3 a3 o3=>
    rw[hr3]at h5;have c6:=h5.bad;have c5:=kE l a3 o3 e p [93];show ak _ _ _ _ _;refine ak.fq func564 results564 ntmps564 fun w0 T B E0 hB=>?_
    refine zg ?_;refine aN.tZ 16 (ps:=[29,81,83]) ?_;exact aU aj.bG (bT rfl rfl rfl (by first|(simp only[zq7,zqd,aJ,zqb,zqj];done)|(simp only[zq7,zqd,aJ,zqb,zqj];rfl))) ⟨rfl,rfl,rfl,trivial⟩
   |ok n3 a3=>
    rw[hr3]at h5;have c6:=h5.ok;unfold thenS jJ
    dsimp only
    cases ht2:isS l a3 [93]with
    |true=>
     have c5:=kZ o hl ht2;rw[if_pos rfl];show ak _ _ _ _ _;refine ak.fq func564 results564 ntmps564 fun w0 T B E0 hB=>?_
     refine zg ?_;refine aN.tZ 16 (ps:=[29,81,83]) ?_;exact aU aj.bG (bT rfl rfl rfl (by first|(simp only[zq7,zqd,aJ,zqb,zqj];done)|(simp only[zq7,zqd,aJ,zqb,zqj];rfl))) ⟨rfl,rfl,rfl,trivial⟩
    |false=>
     have c5:=mZ o ht2;rw[if_neg zc]
     show ak _ _ _ _ _;refine ak.fq func564 results564 ntmps564 fun w0 T B E0 hB=>?_
     refine zg ?_;refine aN.tZ 16 (ps:=[29,81,83]) ?_;exact aU aj.bG (bT rfl rfl rfl (by first|(simp only[zq7,zqd,aJ,zqb,zqj];done)|(simp only[zq7,zqd,aJ,zqb,zqj];rfl))) ⟨rfl,rfl,rfl,trivial⟩
theorem atT{l:List Tok}:GE 563 l:=by
 intro a o e p;have nm1:Named 1 81:=⟨⟩;have c1:=ahL l a o e p;refine ak.fq func563 results563 ntmps563 fun _ _ _ _ _=>?_
 refine zg ?_
 try(refine WP.aI ?_;refine zg ?_)
 exact aU aj.bG (zv _) ⟨rfl,trivial⟩
theorem aye{l:List Tok}{m:Nat}{X:Gr}(hl:l.length<=1000000)(hs:GOK 388 l (m+1) X)(hA:Adv 1 l (m+1) X):GOK 563 l m (tT 600 l X):=by
 intro a o hm ha ho;have nm1:Named 1 81:=⟨⟩;have nm2:Named 3 82:=⟨⟩;unfold tT;cases hg:l[a]? with
 |none=>
  have hge:l.length<=a:=List.getElem?_eq_none_iff.1 hg
  have c1:=zh l a o;show ak _ _ _ _ _;refine ak.fq func563 results563 ntmps563 fun w0 T B E0 hB=>?_
  refine zg ?_
  try(refine WP.aI ?_;refine zg ?_)
  exact aU aj.bG (zv _) ⟨rfl,trivial⟩
 |some t=>
  have hlt:a < l.length:=(zxg.1 hg).1
  obtain⟨tk,tt,tp⟩:=t
  dsimp only
  by_cases hk:tk=1
  ·rw[if_pos hk];show ak _ _ _ _ _;refine ak.fq func563 results563 ntmps563 fun w0 T B E0 hB=>?_
   refine zg ?_
   try(refine WP.aI ?_;refine zg ?_)
   exact aU aj.bG (tH rfl rfl) ⟨rfl,trivial⟩
  ·rw[if_neg hk];have c1:=uK l a o;cases hn:pW l a with
   |true=>
    rw[hn]at c1;rw[if_pos rfl];cases ht:isS l (a+1) [40]with
    |true=>
     have c2:=fK o hl ht;have g5:=bZ ht;rw[if_pos rfl];have h1:=ayE (f:=574) (l:=l) (t:=⟨tk,tt,tp⟩) (a:=a+2) (o:=o) (k:=fun a o=>jJ (fun n=> .mk 13 tt n.kids) (kW l X [41] a o)) ho (fun h=>⟨g_call hl hs hA zE zE zE,(jR (c':=0) (s':=0) (vJ hA zE zE) (fun n=>by rw[yI];omega)).open.mono zE⟩)
     cases hr:ins 600 (fun a o=>jJ (fun n=> .mk 13 tt n.kids) (kW l X [41] a o)) (a+2) o with
     |bad e p n a' o'=>
      rw[hr]at h1;have c3:=h1.bad;show ak _ _ _ _ _;refine ak.fq func563 results563 ntmps563 fun w0 T B E0 hB=>?_
      refine zg ?_
      try(refine WP.aI ?_;refine zg ?_)
      exact aU aj.bG (zv _) ⟨rfl,trivial⟩
     |ok n a'=>
      rw[hr]at h1;have c3:=h1.ok;show ak _ _ _ _ _;refine ak.fq func563 results563 ntmps563 fun w0 T B E0 hB=>?_
      refine zg ?_
      try(refine WP.aI ?_;refine zg ?_)
      exact aU aj.bG (zv _) ⟨rfl,trivial⟩
    |false=>
     have c2:=eP o ht;rw[if_neg zc]
     show ak _ _ _ _ _;refine ak.fq func563 results563 ntmps563 fun w0 T B E0 hB=>?_
     refine zg ?_
     try(refine WP.aI ?_;refine zg ?_)
     exact aU aj.bG (tH rfl rfl) ⟨rfl,trivial⟩
   |false=>
    rw[hn]at c1;rw[if_neg zc]
    cases ht:isS l a [40]with
    |true=>
     have c2:=fK o hl ht;rw[if_pos rfl];have h1:=afZ (f:=576) (l:=l) (a:=a+1) (o:=o) (k:=fun a o=>thenS l (X a o) o [41]) ho (fun h=>⟨g_par hl hs zE zE zE,(rH (hA _ _ zE zE)).open.mono zE⟩)
     cases hr:ins 600 (fun a o=>thenS l (X a o) o [41]) (a+1) o with
     |bad e p n a' o'=>
      rw[hr]at h1;have c3:=h1.bad;show ak _ _ _ _ _;refine ak.fq func563 results563 ntmps563 fun w0 T B E0 hB=>?_
      refine zg ?_
      try(refine WP.aI ?_;refine zg ?_)
      exact aU aj.bG (zv _) ⟨rfl,trivial⟩
     |ok n a'=>
      rw[hr]at h1;have c3:=h1.ok;show ak _ _ _ _ _;refine ak.fq func563 results563 ntmps563 fun w0 T B E0 hB=>?_
      refine zg ?_
      try(refine WP.aI ?_;refine zg ?_)
      exact aU aj.bG (zv _) ⟨rfl,trivial⟩
    |false=>
     have c2:=eP o ht;rw[if_neg zc]
     cases ht2:isS l a [91]with
     |true=>
      have c3:=fK o hl ht2;rw[if_pos rfl];have h1:=axh (f:=577) (l:=l) (a:=a+1) (o:=o) (k:=fun a o=>uT l X (l.length+1) [] [] a o) ho (fun h=>⟨g_mat hl hs hA zE zE zE,(abR hA _ _ _ _ _ zE zE).open.mono zE⟩)
      cases hr:ins 600 (fun a o=>uT l X (l.length+1) [] [] a o) (a+1) o with
      |bad e p n a' o'=>
       rw[hr]at h1;have c4:=h1.bad;show ak _ _ _ _ _;refine ak.fq func563 results563 ntmps563 fun w0 T B E0 hB=>?_
       refine zg ?_
       try(refine WP.aI ?_;refine zg ?_)
       exact aU aj.bG (zv _) ⟨rfl,trivial⟩
      |ok n a'=>
       rw[hr]at h1;have c4:=h1.ok;show ak _ _ _ _ _;refine ak.fq func563 results563 ntmps563 fun w0 T B E0 hB=>?_
       refine zg ?_
       try(refine WP.aI ?_;refine zg ?_)
       exact aU aj.bG (zv _) ⟨rfl,trivial⟩
     |false=>
      have c3:=eP o ht2;rw[if_neg zc]
      cases ht3:isS l a [123]with
      |true=>
       have c4:=fK o hl ht3;rw[if_pos rfl];have h1:=afZ (f:=578) (l:=l) (a:=a+1) (o:=o) (k:=fun a o=>jJ (fun n=> .mk 16 [] n.kids) (kW l X [125] a o)) ho (fun h=>⟨g_set hl hs hA zE zE zE,(jR (c':=0) (s':=0) (vJ hA zE zE) (fun n=>by rw[yI];omega)).open.mono zE⟩)
       cases hr:ins 600 (fun a o=>jJ (fun n=> .mk 16 [] n.kids) (kW l X [125] a o)) (a+1) o with
       |bad e p n a' o'=>
        rw[hr]at h1;have c5:=h1.bad;show ak _ _ _ _ _;refine ak.fq func563 results563 ntmps563 fun w0 T B E0 hB=>?_
        refine zg ?_
        try(refine WP.aI ?_;refine zg ?_)
        exact aU aj.bG (zv _) ⟨rfl,trivial⟩
       |ok n a'=>
        rw[hr]at h1;have c5:=h1.ok;show ak _ _ _ _ _;refine ak.fq func563 results563 ntmps563 fun w0 T B E0 hB=>?_
        refine zg ?_
        try(refine WP.aI ?_;refine zg ?_)
        exact aU aj.bG (zv _) ⟨rfl,trivial⟩
      |false=>
       have c4:=eP o ht3;rw[if_neg zc]
       have c5:=zh l a o;show ak _ _ _ _ _;refine ak.fq func563 results563 ntmps563 fun w0 T B E0 hB=>?_
       refine zg ?_
       try(refine WP.aI ?_;refine zg ?_)
       exact aU aj.bG (zv _) ⟨rfl,trivial⟩
theorem avH{l:List Tok}:GE 552 l:=by
 intro a o e p;have nm1:Named 1 81:=⟨⟩;have nm2:Named 3 83:=⟨⟩;have c1:=atT (l:=l) a o e p;have c2:=dZ l a o e p [91];refine ak.fq func552 results552 ntmps552 fun _ _ _ _ _=>?_
 refine zg ?_
 try(refine WP.aI ?_;refine zg ?_)
 refine W.loop (fun _:Unit=>True) (fun _=>[(1,.ptr 81 0),(2,.ptr 2 0),(3,.ptr 83 0)]) (fun _=>[(29,PE l a o e p),(2,NZ),(81,PP),(83,NB nd0)]) (fun _=>0) () trivial (fun _ _=>?_)
 refine zg ?_
 try(refine WP.aI ?_;refine zg ?_)
 exact aU aj.bG (zv _) ⟨rfl,trivial⟩
structure PoS where
 n:Nd
 a:Nat
 o:Nat
 b:Option (Nat×Nat)
 f:Nat
def poS(l:List Tok)(X:Gr)(q:PoS):Res:=match q.b with
 |none=>wU 600 l X q.f q.n q.a q.o
 |some (e,p)=> .bad e p q.n q.a q.o
theorem ay6{l:List Tok}{m:Nat}{X:Gr}(hl:l.length<=1000000)(hs:GOK 388 l (m+1) X)(hA:Adv 1 l (m+1) X):GOK 552 l m (tK 600 l X):=by
 intro a o hm ha ho;have nm1:Named 1 81:=⟨⟩;have nm2:Named 3 83:=⟨⟩;have h1:=aye hl hs hA a o hm ha ho;have h2:=aji (K:=600) hA a o hm ha;unfold tK;cases hr:tT 600 l X a o with
 |bad e p n a' o'=>
  rw[hr]at h1;have c1:=h1.bad;have c2:=dZ l a' o' e p [91];show ak _ _ _ _ _;refine ak.fq func552 results552 ntmps552 fun w0 T B E0 hB=>?_
  refine zg ?_
  try(refine WP.aI ?_;refine zg ?_)
  refine W.loop (fun _:Unit=>True) (fun _=>[(1,.ptr 81 0),(2,.ptr 2 0),(3,.ptr 83 0)]) (fun _=>[(29,PE l a' o' e p),(2,NZ),(81,PP),(83,NB n)]) (fun _=>0) () trivial (fun _ _=>?_)
  refine zg ?_
  try(refine WP.aI ?_;refine zg ?_)
  exact aU aj.bG (zv _) ⟨rfl,trivial⟩
 |ok n a'=>
  rw[hr]at h1 h2;have c1:=h1.ok;obtain⟨g1,g2,g3⟩:=h2;have g4:=nU n
  dsimp only
  generalize hR:wU 600 l X (l.length+1) n a' o=R;refine CR.of ?_;refine ak.fq func552 results552 ntmps552 fun w0 T B E0 hB=>?_
  refine zg ?_
  try(refine WP.aI ?_;refine zg ?_)
  refine W.loop (fun q:PoS=>poS l X q=R/\(q.b=none->q.o=o/\m<=q.a/\q.a<=l.length/\l.length < q.a+q.f)) (fun _=>[(1,.ptr 81 0),(2,.ptr 2 0),(3,.ptr 83 0)]) (fun q=>[(29,PS l q.a q.o q.b),(2,NZ),(81,PP),(83,NB q.n)]) (fun q=>match q.b with|none=>l.length+1 - q.a|some _=>0) ⟨n,a',o,none,l.length+1⟩ ⟨hR,fun _=>by dsimp only;exact⟨rfl,zE,zE,zE⟩⟩ (fun q hq=>?_)
  obtain⟨qn,qa,qo,qb,qf⟩:=q;obtain⟨hq1,hq2⟩:=hq
  dsimp only at hq1 hq2
  cases qb with
  |some b=>
   obtain⟨e,p⟩:=b;have c2:=dZ l qa qo e p [91];show WP _ _ _ (iq [(1,.ptr 81 0),(2,.ptr 2 0),(3,.ptr 83 0)] [(29,PE l qa qo e p),(2,NZ),(81,PP),(83,NB qn)]) _;refine zg ?_
   try(refine WP.aI ?_;refine zg ?_)
   subst hq1;exact aU aj.bG (zv _) ⟨rfl,trivial⟩
  |none=>
   obtain⟨rfl,b1,b2,b3⟩:=hq2 rfl;obtain⟨qf,rfl⟩:∃k,qf=k+1:=⟨qf - 1,zE⟩
   have hq1:wU 600 l X (qf+1) qn qa qo=R:=hq1;unfold wU at hq1;show WP _ _ _ (iq [(1,.ptr 81 0),(2,.ptr 2 0),(3,.ptr 83 0)] [(29,PG l qa qo),(2,NZ),(81,PP),(83,NB qn)]) _;cases ht:isS l qa [91]with
   |true=>
    have c2:=fK qo hl ht;have g5:=bZ ht;rw[if_pos ht]at hq1;have h5:=axZ (f:=564) (l:=l) (N:=qn) (a:=qa+1) (o:=qo) (k:=wZ l X qn) ho (fun h=>⟨ayv hl hs hA zE zE zE,(acZ hA zE zE).open.mono zE⟩)
    have h6:=qM (K:=600) (g:=wZ l X qn) (a:=qa+1) (o:=qo) (zq6 _) (acZ (n:=qn) (o:=qo+1) hA zE zE)
    cases hr2:ins 600 (wZ l X qn) (qa+1) qo with
    |bad e p k a2 o2=>
     rw[hr2]at h5 hq1;have c3:=h5.bad;refine zg ?_
     try(refine WP.aI ?_;refine zg ?_)
     exact W.next ⟨k,a2,o2,some (e,p),0⟩ ⟨hq1,fun h=>by cases h⟩ (by dsimp only;omega)
    |ok k a2=>
     rw[hr2]at h5 hq1 h6;have c3:=h5.ok;obtain⟨j1,j2,j3⟩:=h6;refine zg ?_
     try(refine WP.aI ?_;refine zg ?_)
     exact W.next ⟨k,a2,qo,none,qf⟩ ⟨hq1,fun h=>by dsimp only;exact⟨rfl,zE,zE,zE⟩⟩ (by dsimp only;omega)
   |false=>
    have c2:=eP qo ht;rw[if_neg (by rw[ht];decide)]at hq1
    refine zg ?_
    try(refine WP.aI ?_;refine zg ?_)
    subst hq1;exact aU aj.bG (zv _) ⟨rfl,trivial⟩
theorem abX{l:List Tok}:GE 388 l:=ay7 (axO (av6 (ge_un (axD avH))))
theorem awy{l:List Tok}(hl:l.length<=1000000):∀(n m:Nat),l.length+1<=m+n->GOK 388 l m (lev 600 l n).1/\GOK 501 l m (lev 600 l n).2
 |0,m,h=>⟨fun a o hm ha=>zE,fun a o hm ha=>zE⟩
 |n+1,m,h=>by
  obtain⟨h1,h2⟩:=awy hl n (m+1) zE
  obtain⟨a1,a2⟩:=abN 600 l n (m+1) zE
  have u:GOK 501 l m (unG 600 l (lev 600 l n).1 (lev 600 l n).2):=g_un hl (g_pow hl (ay6 hl h1 a1) (aeC a1) h2) h2 a2;have au:=atx (K:=600) a1 a2;exact⟨g_exp hl (g_sum hl (ayB hl u au) au) au,u⟩
end
section
section
variable(K:Nat)(l:List Tok)
def tQ(S:Gr):Nat->List Nd->Gr
 |0,_=>fun a o=> .bad 4 a nd0 a o
 |f+1,ks=>fun a o=>if isS l a [125]then .ok (.mk 22 [] ks) (a+1)else match S a o with
  | .bad e p n a' o'=> .bad e p (.mk 22 [] (ks++[n])) a' o'
  | .ok n a'=>tQ S f (ks++[n]) a' o
def apB(S:Gr):Gr:=fun a o=>if isS l a [123]then ins K (fun a o=>tQ l S (l.length+1) [] a o) (a+1) o else .bad 4 a nd0 a (o+1)
def ifG(E B:Gr):Gr:=fun a o=>match E a o with
 | .bad e p n a' o'=> .bad e p (.mk 20 [] [n,nd0]) a' (o'+1)
 | .ok n a'=>match B a' o with
  | .bad e p b a2 o2=> .bad e p (.mk 20 [] [n,b]) a2 o2
  | .ok b a2=>if isS l a2 [101,108,115,101]then jJ (fun c=> .mk 20 [] [n,b,c]) (B (a2+1) o)else .ok (.mk 20 [] [n,b]) a2
def atz(E B:Gr):Gr:=fun a o=>if pW l a then
  (if isS l (a+1) [61]then(match E (a+2) o with
   | .bad e p n a' o'=> .bad e p (.mk 21 (txt l a) [n,nd0,nd0]) a' (o'+1)
   | .ok n a'=>if isS l a' [46,46]then(match E (a'+1) o with
     | .bad e p n2 a2 o2=> .bad e p (.mk 21 (txt l a) [n,n2,nd0]) a2 (o2+1)
     | .ok n2 a2=>jJ (fun b=> .mk 21 (txt l a) [n,n2,b]) (B a2 o))
    else .bad 4 a' (.mk 21 (txt l a) [n,nd0,nd0]) a' (o+1))
  else .bad 4 (a+1) (.mk 21 (txt l a) [nd0,nd0,nd0]) (a+1) (o+1))
 else .bad 4 a (.mk 21 [] [nd0,nd0,nd0]) a (o+1)
def stG(E B:Gr):Gr:=fun a o=>if isS l a [105,102]then ifG l E B (a+1) o
 else if isS l a [102,111,114]then atz l E B (a+1) o
 else if pW l a&&isS l (a+1) [61]then thenS l (jJ (fun n=> .mk 18 (txt l a) [n]) (E (a+2) o)) o [59]
 else thenS l (jJ (fun n=> .mk 19 [] [n]) (E a o)) o [59]
def ajH:Nat->Gr
 |0=>fun a o=> .bad 4 a nd0 a o
 |n+1=>stG l (lev K l (l.length+1)).1 (apB K l (ajH n))
end
theorem adF{l:List Tok}{m:Nat}{S:Gr}(h:Adv 2 l m S):∀(f:Nat) (ks:List Nd) (a o:Nat),m<=a->a<=l.length->og (jN ks) 0 2 l a o (tQ l S f ks a o)
 |0,ks,a,o,hm,ha=>oo zE
 |f+1,ks,a,o,hm,ha=>by
  unfold tQ
  split
  ·rename_i hs;have:=bZ hs;exact⟨by rw[gI];omega,zE,zE⟩
  ·have h1:=h a o hm ha;cases hr:S a o with
   |bad e p n a' o'=>rw[hr]at h1;exact h1
   |ok n a'=>
    rw[hr]at h1;obtain⟨h1,h3,h2⟩:=h1;have hh:=adF h f (ks++[n]) a' o zE h2
    refine hh.mono (zq6 _) zE ?_
    rw[fQ,bC,dw];omega
theorem ame{K:Nat}{l:List Tok}{m:Nat}{S:Gr}(h:Adv 2 l (m+1) S):Adv 2 l m (apB K l S):=by
 intro a o hm ha;unfold apB
 split
 ·rename_i hs;have:=bZ hs;have hh:=qM (K:=K) (g:=fun a o=>tQ l S (l.length+1) [] a o) (a:=a+1) (o:=o) zE (adF h (l.length+1) [] (a+1) (o+1) zE zE)
  exact hh.mono (zq6 _) zE (by rw[dw];omega)
 ·exact⟨zE,zE⟩
theorem ax3{l:List Tok}{m:Nat}{E B:Gr}(he:Adv 1 l m E)(hb:Adv 2 l m B){a o:Nat}(hm:m<=a)(ha:a<=l.length):og 1 0 2 l a o (ifG l E B a o):=by
 have h1:=he a o hm ha;unfold ifG;cases hr:E a o with
 |bad e p n a' o'=>rw[hr]at h1;exact⟨by have:=h1.1;omega,by have:=h1.2;omega⟩
 |ok n a'=>
  rw[hr]at h1;obtain⟨h1,h3,h2⟩:=h1;have h4:=hb a' o zE h2
  dsimp only
  cases hr2:B a' o with
  |bad e p n a' o'=>rw[hr2]at h4;exact h4
  |ok b a2=>
   rw[hr2]at h4;obtain⟨h4,h6,h5⟩:=h4
   dsimp only
   split
   ·rename_i hs;have:=bZ hs;have hh:=jR (f:=fun c=>Nd.mk 20 [] [n,b,c]) (c':=0) (s':=1+cnt n+cnt b) (hb (a2+1) o zE zE) (fun k=>by rw[gI,bC,bC,bC,dw];omega)
    exact hh.mono (zq6 _) zE zE
   ·exact⟨by rw[gI,bC,bC,dw];omega,zE,h5⟩
theorem aup{l:List Tok}{m:Nat}{E B:Gr}(he:Adv 1 l m E)(hb:Adv 2 l m B){a o:Nat}(hm:m<=a)(ha:a<=l.length):og 0 0 2 l a o (atz l E B a o):=by
 unfold atz
 split
 ·split
  ·rename_i hs;have:=bZ hs;have h1:=he (a+2) o zE zE
   cases hr:E (a+2) o with
   |bad e p n a' o'=>rw[hr]at h1;exact⟨by have:=h1.1;omega,by have:=h1.2;omega⟩
   |ok n a'=>
    rw[hr]at h1;obtain⟨h1,h3,h2⟩:=h1
    dsimp only
    split
    ·rename_i hs2;have:=bZ hs2;have h4:=he (a'+1) o zE zE
     cases hr2:E (a'+1) o with
     |bad e p n a' o'=>rw[hr2]at h4;exact⟨by have:=h4.1;omega,by have:=h4.2;omega⟩
     |ok n2 a2=>
      rw[hr2]at h4;obtain⟨h4,h6,h5⟩:=h4;have hh:=jR (f:=fun b=>Nd.mk 21 (txt l a) [n,n2,b]) (c':=0) (s':=1+cnt n+cnt n2) (hb a2 o zE h5) (fun k=>by rw[gI,bC,bC,bC,dw];omega)
      exact hh.mono (zq6 _) zE zE
    ·exact⟨zE,zE⟩
  ·exact⟨zE,zE⟩
 ·exact⟨zE,zE⟩
theorem ayF{l:List Tok}{m:Nat}{E B:Gr}(he:Adv 1 l m E)(hb:Adv 2 l (m+1) B):Adv 2 l m (stG l E B):=by
 have he':Adv 1 l (m+1) E:=fun a o hm ha=>he a o zE ha
 intro a o hm ha;unfold stG
 split
 ·rename_i hs;have:=bZ hs;exact(ax3 he' hb (o:=o) zE zE).mono (zq6 _) zE zE
 ·split
  ·rename_i hs;have:=bZ hs;exact(aup he' hb (o:=o) zE zE).mono (zq6 _) zE zE
  ·split
   ·rename_i hs;rw[zx4]at hs;have:=bZ hs.2;have hh:=rH (t:=[59]) (jR (f:=fun n=>Nd.mk 18 (txt l a) [n]) (c':=0) (s':=1) (he (a+2) o zE zE) (fun k=>by rw[gI,bC,dw];omega))
    exact hh.mono zE zE zE
   ·have hh:=rH (t:=[59]) (jR (f:=fun n=>Nd.mk 19 [] [n]) (c':=0) (s':=1) (he a o hm ha) (fun k=>by rw[gI,bC,dw];omega))
    exact hh.mono zE zE zE
theorem zZ(K:Nat)(l:List Tok):∀(n m:Nat),l.length+1<=m+n->Adv 2 l m (ajH K l n)
 |0,m,h=>fun a o hm ha=>zE
 |n+1,m,h=>ayF (fun a o hm ha=>(abN K l (l.length+1) m zE).1 a o hm ha) (ame fun a o hm ha=>zZ K l n (m+1) zE a o zE ha)
def boS(l:List Tok)(S:Gr)(q:LiS):Res:=match q.b with
 |none=>tQ l S q.f q.ks q.a q.o
 |some (e,p)=> .bad e p (.mk 22 [] q.ks) q.a q.o
theorem ayI{l:List Tok}{m:Nat}{S:Gr}(hl:l.length<=1000000)(hs:GOK 292 l m S)(hA:Adv 2 l m S){a o:Nat}(hm:m<=a)(ha:a<=l.length)(ho:o<=600):
  CR rNd 452 [.ptr 81 0] [(81,PP)] l a o (tQ l S (l.length+1) [] a o):=by
 generalize hR:tQ l S (l.length+1) [] a o=R;refine CR.of ?_;refine ak.fq func452 results452 ntmps452 fun _ _ _ _ _=>?_
 refine zg ?_
 try(refine WP.aI ?_;refine zg ?_)
 refine W.loop (fun q:LiS=>boS l S q=R/\(q.b=none->q.o=o/\m<=q.a/\q.a<=l.length/\l.length < q.a+q.f/\q.ks.length<=q.a)) (fun _=>[(0,.ptr 81 0),(1,.ptr 1 0),(2,.ptr 2 0)]) (fun q=>[(29,PS l q.a q.o q.b),(81,PP),(1,NZ),(2,NG 22 100),(100,NR q.ks)]) (fun q=>match q.b with|none=>l.length+1 - q.a|some _=>0) ⟨[],a,o,none,l.length+1⟩ ⟨hR,fun _=>by dsimp only;exact⟨rfl,zE,zE,zE,zq8 _⟩⟩ (fun q hq=>?_)
  (by
   refine St.aW [(100,none)] (by intro b h;exact SX.dY h rfl) ?_ ?_ rfl
   ·exact ya
   ·exact⟨ay.same rfl rfl,ay.same rfl rfl,ay.same rfl rfl,ay.node rfl rfl (aC.nil rfl),ay.dO rfl,trivial⟩)
 obtain⟨qk,qa,qo,qb,qf⟩:=q;obtain⟨hq1,hq2⟩:=hq
 dsimp only at hq1 hq2
 cases qb with
 |some b=>
  obtain⟨ee,p⟩:=b;show WP _ _ _ (iq [(0,.ptr 81 0),(1,.ptr 1 0),(2,.ptr 2 0)] [(29,PE l qa qo ee p),(81,PP),(1,NZ),(2,NG 22 100),(100,NR qk)]) _;refine zg ?_
  try(refine WP.aI ?_;refine zg ?_)
  subst hq1;refine aN.tZ 100 (ps:=[29,81]) ?_;exact aU aj.bG (bT rfl rfl rfl rfl) ⟨rfl,rfl,trivial⟩
 |none=>
  obtain⟨rfl,b1,b2,b3,b4⟩:=hq2 rfl;obtain⟨qf,rfl⟩:∃k,qf=k+1:=⟨qf - 1,zE⟩
  show WP _ _ _ (iq [(0,.ptr 81 0),(1,.ptr 1 0),(2,.ptr 2 0)] [(29,PG l qa qo),(81,PP),(1,NZ),(2,NG 22 100),(100,NR qk)]) _;have hq1:tQ l S (qf+1) qk qa qo=R:=hq1;unfold tQ at hq1;cases ht:isS l qa [125]with
  |true=>
   rw[if_pos ht]at hq1;have c3:=fK qo hl ht;refine zg ?_
   try(refine WP.aI ?_;refine zg ?_)
   subst hq1;refine aN.tZ 100 (ps:=[29,81]) ?_;exact aU aj.bG (bT rfl rfl rfl rfl) ⟨rfl,rfl,trivial⟩
  |false=>
   rw[if_neg (by rw[ht];decide)]at hq1
   have c3:=eP qo ht;have h3:=hs qa qo zE zE ho
   have h4:=hA qa qo zE zE
   cases hr2:S qa qo with
   |bad c p k a2 o2=>
    rw[hr2]at h3 hq1;have c4:=h3.bad;refine zg ?_
    try(refine WP.aI ?_;refine zg ?_)
    exact W.next ⟨qk++[k],a2,o2,some (c,p),0⟩ ⟨hq1,fun h=>by cases h⟩ (by dsimp only;omega)
     (by
      refine St.aW [(100,some 19)] (by intro b h;exact SX.dY h rfl) ?_ ?_ rfl
      ·exact ya
      ·exact⟨ay.eq rfl rfl rfl,ay.same rfl rfl,ay.same rfl rfl,ay.node rfl rfl (aC.own rfl),ay.row rfl rfl zp (bY (aJ _).symm),trivial⟩)
   |ok k a2=>
    rw[hr2]at h3 hq1 h4;have c4:=h3.ok;obtain⟨j1,j2,j3⟩:=h4;have j4:=nU k;refine zg ?_
    try(refine WP.aI ?_;refine zg ?_)
    exact W.next ⟨qk++[k],a2,qo,none,qf⟩ ⟨hq1,fun h=>by dsimp only;exact⟨rfl,zE,zE,zE,by simp;omega⟩⟩ (by dsimp only;omega)
     (by
      refine St.aW [(100,some 19)] (by intro b h;exact SX.dY h rfl) ?_ ?_ rfl
      ·exact ya
      ·exact⟨ay.eq rfl rfl rfl,ay.same rfl rfl,ay.same rfl rfl,ay.node rfl rfl (aC.own rfl),ay.row rfl rfl zp (bY (aJ _).symm),trivial⟩)
theorem g_blk{l:List Tok}{m:Nat}{S:Gr}(hl:l.length<=1000000)(hs:GOK 292 l (m+1) S)(hA:Adv 2 l (m+1) S):GOK 389 l m (apB 600 l S):=by
 intro a o hm ha ho;have nm1:Named 1 81:=⟨⟩;unfold apB;cases ht:isS l a [123]with
 |true=>
  rw[if_pos rfl];have c1:=kZ o hl ht;have g5:=bZ ht;have h1:=afZ (f:=452) (l:=l) (a:=a+1) (o:=o) (k:=fun a o=>tQ l S (l.length+1) [] a o) ho (fun h=>⟨ayI hl hs hA zE zE zE,(adF hA _ _ _ _ zE zE).open.mono zE⟩)
  cases hr:ins 600 (fun a o=>tQ l S (l.length+1) [] a o) (a+1) o with
  |bad e p n a' o'=>
   rw[hr]at h1;have c3:=h1.bad;show ak _ _ _ _ _;refine ak.fq func389 results389 ntmps389 fun w0 T B E0 hB=>?_
   refine zg ?_
   try(refine WP.aI ?_;refine zg ?_)
   exact aU aj.bG (zv _) ⟨rfl,trivial⟩
  |ok n a'=>
   rw[hr]at h1;have c3:=h1.ok;show ak _ _ _ _ _;refine ak.fq func389 results389 ntmps389 fun w0 T B E0 hB=>?_
   refine zg ?_
   try(refine WP.aI ?_;refine zg ?_)
   exact aU aj.bG (zv _) ⟨rfl,trivial⟩
 |false=>
  rw[if_neg zc]
  have c1:=mZ o ht;have c2:=ath (f:=452) (l:=l) (a:=a) (o:=o) (e:=4) (p:=a) zE
  show ak _ _ _ _ _;refine ak.fq func389 results389 ntmps389 fun w0 T B E0 hB=>?_
  refine zg ?_
  try(refine WP.aI ?_;refine zg ?_)
  exact aU aj.bG (zv _) ⟨rfl,trivial⟩
theorem aaH(l:List Tok)(a:Nat){o:Nat}(e p:Nat)(ho:o<=1000000):ak prog 389 [.ptr 29 0] [(29,PE l a o e p)] ⟨rNd nd0,[(29,.ent (PE l a (o+1) e p))]⟩:=by
 have nm1:Named 1 81:=⟨⟩;have c1:=kE l a o e p [123];have c2:=ath (f:=452) (l:=l) (a:=a) (o:=o) (e:=e) (p:=p) ho;refine ak.fq func389 results389 ntmps389 fun _ _ _ _ _=>?_
 refine zg ?_
 try(refine WP.aI ?_;refine zg ?_)
 exact aU aj.bG (zv _) ⟨rfl,trivial⟩
end
section
theorem g_if{l:List Tok}{m:Nat}{X S:Gr}(hl:l.length<=1000000)(hs:GOK 388 l m X)(hA:Adv 1 l m X)(hb:GOK 389 l m S)(bA:Adv 2 l m S){a o:Nat}(hm:m<=a+1)(ha:a<=l.length)(ho:o<=600)(hi:isS l a [105,102]=true):
  CR rNd 292 [.ptr 29 0] [] l a o (ifG l X S (a+1) o):=by
 have mark:acL 14:=⟨⟩;have g5:=bZ hi;have k1:=fK o hl hi;have h1:=hs (a+1) o hm zE ho
 have h2:=hA (a+1) o hm zE
 unfold ifG;cases hr:X (a+1) o with
 |bad e p n a' o'=>
  rw[hr]at h1 h2;have k2:=h1.bad;obtain⟨j1,j2⟩:=h2;have k3:=aaH l a' (o:=o') e p zE
  have k4:=dZ l a' (o'+1) e p [101,108,115,101];show ak _ _ _ _ _;refine ak.fq func292 results292 ntmps292 fun w0 T B E0 hB=>?_
  refine zg ?_;refine aN.tZ 21 (ps:=[29]) ?_;exact aU aj.bG (bT rfl rfl rfl (by first|(simp only[zq7,zqd,aJ,zqb,zqj];done)|(simp only[zq7,zqd,aJ,zqb,zqj];rfl))) ⟨rfl,trivial⟩
 |ok n a'=>
  rw[hr]at h1 h2;have k2:=h1.ok;obtain⟨j1,j2,j3⟩:=h2;have h3:=hb a' o zE j3 ho
  have h4:=bA a' o zE j3
  dsimp only
  cases hr2:S a' o with
  |bad e p b a2 o2=>
   rw[hr2]at h3;have k3:=h3.bad;have k4:=dZ l a2 o2 e p [101,108,115,101];show ak _ _ _ _ _;refine ak.fq func292 results292 ntmps292 fun w0 T B E0 hB=>?_
   refine zg ?_;refine aN.tZ 21 (ps:=[29]) ?_;exact aU aj.bG (bT rfl rfl rfl (by first|(simp only[zq7,zqd,aJ,zqb,zqj];done)|(simp only[zq7,zqd,aJ,zqb,zqj];rfl))) ⟨rfl,trivial⟩
  |ok b a2=>
   rw[hr2]at h3 h4;have k3:=h3.ok;obtain⟨i1,i2,i3⟩:=h4
   dsimp only
   cases ht:isS l a2 [101,108,115,101]with
   |false=>
    rw[if_neg zc]
    have k4:=eP o ht;show ak _ _ _ _ _;refine ak.fq func292 results292 ntmps292 fun w0 T B E0 hB=>?_
    refine zg ?_;refine aN.tZ 21 (ps:=[29]) ?_;exact aU aj.bG (bT rfl rfl rfl (by first|(simp only[zq7,zqd,aJ,zqb,zqj];done)|(simp only[zq7,zqd,aJ,zqb,zqj];rfl))) ⟨rfl,trivial⟩
   |true=>
    rw[if_pos rfl];have k4:=fK o hl ht;have g6:=bZ ht;have h5:=hb (a2+1) o zE zE ho
    cases hr3:S (a2+1) o with
    |bad e p c a3 o3=>
     rw[hr3]at h5;have k5:=h5.bad;show ak _ _ _ _ _;refine ak.fq func292 results292 ntmps292 fun w0 T B E0 hB=>?_
     refine zg ?_;refine aN.tZ 30 (ps:=[29]) ?_;exact aU aj.bG (bT rfl rfl rfl (by first|(simp only[zq7,zqd,aJ,zqb,zqj];done)|(simp only[zq7,zqd,aJ,zqb,zqj];rfl))) ⟨rfl,trivial⟩
    |ok c a3=>
     rw[hr3]at h5;have k5:=h5.ok;show ak _ _ _ _ _;refine ak.fq func292 results292 ntmps292 fun w0 T B E0 hB=>?_
     refine zg ?_;refine aN.tZ 30 (ps:=[29]) ?_;exact aU aj.bG (bT rfl rfl rfl (by first|(simp only[zq7,zqd,aJ,zqb,zqj];done)|(simp only[zq7,zqd,aJ,zqb,zqj];rfl))) ⟨rfl,trivial⟩
theorem g_for{l:List Tok}{m:Nat}{X S:Gr}(hl:l.length<=1000000)(hs:GOK 388 l m X)(hA:Adv 1 l m X)(hb:GOK 389 l m S){a o:Nat}(hm:m<=a+1)(ha:a<=l.length)(ho:o<=600)(hf:isS l a [105,102]=false)(hi:isS l a [102,111,114]=true):
  CR rNd 292 [.ptr 29 0] [] l a o (atz l X S (a+1) o):=by
 have g5:=bZ hi;have k0:=eP o hf;have k1:=fK o hl hi;unfold atz;cases hn:pW l (a+1)with
 |false=>
  rw[if_neg zc]
  have k2:=atX o hn;have k3:=kE l (a+1) o 4 (a+1) [61];have k4:=abX (l:=l) (a+1) o 4 (a+1);have k5:=kE l (a+1) o 4 (a+1) [46,46];have k6:=aaH l (a+1) (o:=o) 4 (a+1) zE
  show ak _ _ _ _ _;refine ak.fq func292 results292 ntmps292 fun w0 T B E0 hB=>?_
  refine zg ?_;exact aU aj.bG (bT rfl rfl rfl (by first|(simp only[zq7,zqd,aJ,zqb,zqj];done)|(simp only[zq7,zqd,aJ,zqb,zqj];rfl))) ⟨rfl,trivial⟩
 |true=>
  rw[if_pos rfl];have k2:=amy o hl hn;have g6:=ags hn;cases ht:isS l (a+1+1) [61]with
  |false=>
   rw[if_neg zc]
   have k3:=mZ o ht;have k4:=abX (l:=l) (a+1+1) o 4 (a+1+1);have k5:=kE l (a+1+1) o 4 (a+1+1) [46,46];have k6:=aaH l (a+1+1) (o:=o) 4 (a+1+1) zE
   show ak _ _ _ _ _;refine ak.fq func292 results292 ntmps292 fun w0 T B E0 hB=>?_
   refine zg ?_;exact aU aj.bG (bT rfl rfl rfl (by first|(simp only[zq7,zqd,aJ,zqb,zqj];done)|(simp only[zq7,zqd,aJ,zqb,zqj];rfl))) ⟨rfl,trivial⟩
  |true=>
   rw[if_pos rfl];have k3:=kZ o hl ht;have g7:=bZ ht;have h1:=hs (a+1+2) o zE zE ho
   have h2:=hA (a+1+2) o zE zE
   cases hr:X (a+1+2) o with
   |bad e p n a' o'=>
    rw[hr]at h1 h2;have k4:=h1.bad;obtain⟨j1,j2⟩:=h2;have k5:=kE l a' o' e p [46,46];have k6:=abX (l:=l) a' o' e p;have k7:=aaH l a' (o:=o') e p zE
    show ak _ _ _ _ _;refine ak.fq func292 results292 ntmps292 fun w0 T B E0 hB=>?_
    refine zg ?_;exact aU aj.bG (bT rfl rfl rfl (by first|(simp only[zq7,zqd,aJ,zqb,zqj];done)|(simp only[zq7,zqd,aJ,zqb,zqj];rfl))) ⟨rfl,trivial⟩
   |ok n a'=>
    rw[hr]at h1 h2;have k4:=h1.ok;obtain⟨j1,j2,j3⟩:=h2
    dsimp only
    cases ht2:isS l a' [46,46]with
    |false=>
     rw[if_neg zc]
     have k5:=mZ o ht2;have k6:=abX (l:=l) a' o 4 a';have k7:=aaH l a' (o:=o) 4 a' zE
     show ak _ _ _ _ _;refine ak.fq func292 results292 ntmps292 fun w0 T B E0 hB=>?_
     refine zg ?_;exact aU aj.bG (bT rfl rfl rfl (by first|(simp only[zq7,zqd,aJ,zqb,zqj];done)|(simp only[zq7,zqd,aJ,zqb,zqj];rfl))) ⟨rfl,trivial⟩
    |true=>
     rw[if_pos rfl];have k5:=kZ o hl ht2;have g8:=bZ ht2;have h3:=hs (a'+1) o zE zE ho
     have h4:=hA (a'+1) o zE zE
     cases hr2:X (a'+1) o with
     |bad e p n2 a2 o2=>
      rw[hr2]at h3 h4;have k6:=h3.bad;obtain⟨j1,j2⟩:=h4;have k7:=aaH l a2 (o:=o2) e p zE
      show ak _ _ _ _ _;refine ak.fq func292 results292 ntmps292 fun w0 T B E0 hB=>?_
      refine zg ?_;exact aU aj.bG (bT rfl rfl rfl (by first|(simp only[zq7,zqd,aJ,zqb,zqj];done)|(simp only[zq7,zqd,aJ,zqb,zqj];rfl))) ⟨rfl,trivial⟩
     |ok n2 a2=>
      rw[hr2]at h3 h4;have k6:=h3.ok;obtain⟨i1,i2,i3⟩:=h4
      dsimp only
      have h5:=hb a2 o zE i3 ho
      cases hr3:S a2 o with
      |bad e p c a3 o3=>
       rw[hr3]at h5;have k7:=h5.bad;show ak _ _ _ _ _;refine ak.fq func292 results292 ntmps292 fun w0 T B E0 hB=>?_
       refine zg ?_;exact aU aj.bG (bT rfl rfl rfl (by first|(simp only[zq7,zqd,aJ,zqb,zqj];done)|(simp only[zq7,zqd,aJ,zqb,zqj];rfl))) ⟨rfl,trivial⟩
      |ok c a3=>
       rw[hr3]at h5;have k7:=h5.ok;show ak _ _ _ _ _;refine ak.fq func292 results292 ntmps292 fun w0 T B E0 hB=>?_
       refine zg ?_;exact aU aj.bG (bT rfl rfl rfl (by first|(simp only[zq7,zqd,aJ,zqb,zqj];done)|(simp only[zq7,zqd,aJ,zqb,zqj];rfl))) ⟨rfl,trivial⟩
def HT(l:List Tok):Prop:=∀(i:Nat) (t:Tok),l[i]? =some t->t.text=[61]->t.kind≠1
theorem asZ{l:List Tok}(hT:HT l){a:Nat}{t:Tok}(ht:l[a]? =some t):isS l a [61]=decide (t.text=[61]):=by
 unfold isS;rw[ht]
 dsimp only
 by_cases h:t.text=[61]
 ·simp[h,hT a t ht h]
 ·simp[h]
theorem g_let{l:List Tok}{m:Nat}{X:Gr}(hl:l.length<=1000000)(hT:HT l)(hs:GOK 388 l m X)(hA:Adv 1 l m X){a o:Nat}(hm:m<=a+2)(ha:a<=l.length)(ho:o<=600)(hf:isS l a [105,102]=false)(hi:isS l a [102,111,114]=false)(hn:pW l a=true)(he:isS l (a+1) [61]=true):
  CR rNd 292 [.ptr 29 0] [] l a o (thenS l (jJ (fun n=> .mk 18 (txt l a) [n]) (X (a+2) o)) o [59]):=by
 have k0:=eP o hf;have k1:=eP o hi;have k2:=uK l a o;rw[hn]at k2;have k3:=amy o hl hn;have k4:=kZ o hl he;have g5:=bZ he;obtain⟨⟨tk,tt,tp⟩,ht⟩:∃t,l[a+1]? =some t:=⟨_,zyh g5⟩
 rw[asZ hT ht]at he
 dsimp only at he
 have h1:=hs (a+2) o zE zE ho
 cases hr:X (a+2) o with
 |bad e p n a' o'=>
  rw[hr]at h1;have k5:=h1.bad;have k6:=kE l a' o' e p [59];show ak _ _ _ _ _;refine ak.fq func292 results292 ntmps292 fun w0 T B E0 hB=>?_
  refine zg ?_;exact aU aj.bG (bT rfl rfl rfl (by first|(simp only[zq7,zqd,aJ,zqb,zqj];done)|(simp only[zq7,zqd,aJ,zqb,zqj];rfl))) ⟨rfl,trivial⟩
 |ok n a'=>
  rw[hr]at h1;have k5:=h1.ok;unfold thenS jJ
  dsimp only
  cases ht2:isS l a' [59]with
  |true=>
   rw[if_pos rfl];have k6:=kZ o hl ht2;show ak _ _ _ _ _;refine ak.fq func292 results292 ntmps292 fun w0 T B E0 hB=>?_
   refine zg ?_;exact aU aj.bG (bT rfl rfl rfl (by first|(simp only[zq7,zqd,aJ,zqb,zqj];done)|(simp only[zq7,zqd,aJ,zqb,zqj];rfl))) ⟨rfl,trivial⟩
  |false=>
   rw[if_neg zc]
   have k6:=mZ o ht2;show ak _ _ _ _ _;refine ak.fq func292 results292 ntmps292 fun w0 T B E0 hB=>?_
   refine zg ?_;exact aU aj.bG (bT rfl rfl rfl (by first|(simp only[zq7,zqd,aJ,zqb,zqj];done)|(simp only[zq7,zqd,aJ,zqb,zqj];rfl))) ⟨rfl,trivial⟩
theorem awQ{l:List Tok}{m:Nat}{X:Gr}(hl:l.length<=1000000)(hT:HT l)(hs:GOK 388 l m X){a o:Nat}(hm:m<=a)(ha:a<=l.length)(ho:o<=600)(hf:isS l a [105,102]=false)(hi:isS l a [102,111,114]=false)(hn:(pW l a&&isS l (a+1) [61])=false):
  CR rNd 292 [.ptr 29 0] [] l a o (thenS l (jJ (fun n=> .mk 19 [] [n]) (X a o)) o [59]):=by
 have k0:=eP o hf;have k1:=eP o hi;have k2:=uK l a o;have h1:=hs a o hm ha ho
 -- what is behind,whatever it be
 have key:∀{n a' o'} {b:Option (Nat×Nat)},ak prog 388 [.ptr 29 0] [(29,PG l a o)] ⟨rNd n,[(29,.ent (PS l a' o' b))]⟩->∀{a2 o2 b2},ak prog 391 [.ptr 29 0,.v (str [59])] [(29,PS l a' o' b)] ⟨.tup [],[(29,.ent (PS l a2 o2 b2))]⟩->
   ak prog 292 [.ptr 29 0] [(29,PG l a o)] ⟨rNd (.mk 19 [] [n]),[(29,.ent (PS l a2 o2 b2))]⟩:=by
  intro n a' o' b k5 a2 o2 b2 k6;cases hn1:pW l a with
  |false=>
   rw[hn1]at k2;show ak _ _ _ _ _;refine ak.fq func292 results292 ntmps292 fun w0 T B E0 hB=>?_
   refine zg ?_;exact aU aj.bG (bT rfl rfl rfl (by first|(simp only[zq7,zqd,aJ,zqb,zqj];done)|(simp only[zq7,zqd,aJ,zqb,zqj];rfl))) ⟨rfl,trivial⟩
  |true=>
   rw[hn1]at k2 hn;have he:isS l (a+1) [61]=false:=by simpa using hn
   by_cases hlt:a+1 < l.length
   ·obtain⟨⟨tk,tt,tp⟩,ht⟩:∃t,l[a+1]? =some t:=⟨_,zyh hlt⟩
    rw[asZ hT ht]at he
    dsimp only at he
    show ak _ _ _ _ _;refine ak.fq func292 results292 ntmps292 fun w0 T B E0 hB=>?_
    refine zg ?_;exact aU aj.bG (bT rfl rfl rfl (by first|(simp only[zq7,zqd,aJ,zqb,zqj];done)|(simp only[zq7,zqd,aJ,zqb,zqj];rfl))) ⟨rfl,trivial⟩
   ·have g6:=ags hn1;show ak _ _ _ _ _;refine ak.fq func292 results292 ntmps292 fun w0 T B E0 hB=>?_
    refine zg ?_;exact aU aj.bG (bT rfl rfl rfl (by first|(simp only[zq7,zqd,aJ,zqb,zqj];done)|(simp only[zq7,zqd,aJ,zqb,zqj];rfl))) ⟨rfl,trivial⟩
 cases hr:X a o with
 |bad e p n a' o'=>
  rw[hr]at h1;exact key (b:=some (e,p)) h1.bad (b2:=some (e,p)) (kE l a' o' e p [59])
 |ok n a'=>
  rw[hr]at h1;unfold thenS jJ
  dsimp only
  cases ht2:isS l a' [59]with
  |true=>
   rw[if_pos rfl];exact key (b:=none) h1.ok (b2:=none) (kZ o hl ht2)
  |false=>
   rw[if_neg zc]
   exact key (b:=none) h1.ok (b2:=some (4,a')) (mZ o ht2)
theorem g_st{l:List Tok}{m:Nat}{X S:Gr}(hl:l.length<=1000000)(hT:HT l)(hs:GOK 388 l m X)(hA:Adv 1 l m X)(hb:GOK 389 l (m+1) S)(bA:Adv 2 l (m+1) S):GOK 292 l m (stG l X S):=by
 intro a o hm ha ho;have hs':GOK 388 l (m+1) X:=fun a o hm ha=>hs a o zE ha
 have hA':Adv 1 l (m+1) X:=fun a o hm ha=>hA a o zE ha
 unfold stG;cases h1:isS l a [105,102]with
 |true=>exact g_if hl hs' hA' hb bA zE ha ho h1
 |false=>
  cases h2:isS l a [102,111,114]with
  |true=>exact g_for hl hs' hA' hb zE ha ho h1 h2
  |false=>
   cases h3:pW l a&&isS l (a+1) [61]with
   |true=>
    have h4:=h3;rw[zx4]at h4;exact g_let hl hT hs' hA' zE ha ho h1 h2 h4.1 h4.2
   |false=>exact awQ hl hT hs hm ha ho h1 h2 h3
theorem asB{l:List Tok}(hl:l.length<=1000000)(hT:HT l):∀(n m:Nat),l.length+1<=m+n->GOK 292 l m (ajH 600 l n)
 |0,m,h=>fun a o hm ha=>zE
 |n+1,m,h=>g_st hl hT (fun a o hm ha ho=>(awy hl (l.length+1) m zE).1 a o hm ha ho) (fun a o hm ha=>(abN 600 l (l.length+1) m zE).1 a o hm ha) (g_blk hl (fun a o hm ha ho=>asB hl hT n (m+1) zE a o zE ha ho) (fun a o hm ha=>zZ 600 l n (m+1) zE a o zE ha)) (ame fun a o hm ha=>zZ 600 l n (m+1) zE a o zE ha)
end
section
section
theorem axz(n:Nd):cnt n=1+jN n.kids:=by cases n;rw[gI];rfl
theorem aap:∀L:List Nd,jN (L.flatMap Nd.kids)+L.length=jN L
 |[]=>by simp[dw]
 |k::ks=>by rw[zq7,fQ,bC,axz,zx6,<-aap ks];omega
theorem anO(L:List Nd)(j:Nat):jN ((L.take j).flatMap Nd.kids)<=jN L:=by
 have h1:=aap (L.take j);have h2:jN (L.take j++L.drop j)=jN L:=by rw[zv5]
 rw[fQ]at h2;omega
theorem ahJ(L:List Nd)(j:Nat):((L.take j).flatMap Nd.kids).length<=jN L:=zxf (zk _) (anO L j)
theorem ae6{L:List Nd}{j:Nat}{n:Nd}(h:L[j]? =some n):(L.take (j+1)).flatMap Nd.kids=(L.take j).flatMap Nd.kids++n.kids:=by
 rw[zw7,h];simp
mutual
def dep:Nd->Nat
 | .mk _ _ ks=>if ks.isEmpty then 0 else 1+mV ks
def mV:List Nd->Nat
 |[]=>0
 |k::ks=>max (dep k) (mV ks)
end
theorem nE:mV []=0:=by rw[mV]
theorem lZ(k:Nd)(ks:List Nd):mV (k::ks)=max (dep k) (mV ks):=by rw[mV]
theorem ac4(n:Nd):dep n=if n.kids.isEmpty then 0 else 1+mV n.kids:=by cases n;rw[dep];rfl
theorem abm:∀ks ms:List Nd,mV (ks++ms)=max (mV ks) (mV ms)
 |[],ms=>by simp[nE]
 |k::ks,ms=>by rw[List.cons_append,lZ,lZ,abm ks ms];omega
theorem aeX:∀L:List Nd,mV L=if L.flatMap Nd.kids=[]then 0 else 1+mV (L.flatMap Nd.kids)
 |[]=>by simp[nE]
 |k::ks=>by
  rw[lZ,ac4,aeX ks,zq7,abm];cases hk:k.kids with
  |nil=>simp[nE]
  |cons a b=>
   by_cases h:ks.flatMap Nd.kids=[]
   ·simp[h,nE]
   ·simp[h,Nat.add_max_add_left]
theorem afD:∀L:List Nd,mV L<=jN L
 |[]=>by simp[nE]
 | .mk o t ks::ms=>by
  have h1:=afD ks;have h2:=afD ms;rw[lZ,bC,gI,dep]
  split <;> omega
def ndE(n:Nd):List CA:=caN n
instance:fF ndE 3:=⟨fun n=>rfl⟩
theorem alz(l:List Nd):AV.r (aA 3 ndC l)=AV.r (aA 3 ndE l):=by rw[show ndC=ndE from funext aJ]
structure DeS where
 n:Nat
 L:List Nd
 out:Nat
instance ayW(l:List Nd):Con prog 293 [.r (aA 3 ndC l)] (jN l<=1000000000) (.v (.int .i64 (mV l:Int))):=⟨fun hl=>by
 have hd:=afD l;have hrow:=alz l;refine ah.fq func293 results293 ntmps293 fun _ _ _ _ hB=>?_
 refine zg ?_;refine W.loop (fun q:DeS=>(q.L≠[]->mV l=q.n+mV q.L)/\(q.L=[]->mV l=q.out)/\jN q.L+q.n<=jN l/\q.out<=q.n) (fun q=>[(3,.r (aA 3 ndE q.L)),(4,.v (.int .i64 (q.out:Int))),(5,.v (.int .i64 (q.n:Int)))]) (fun _=>[]) (fun q=>jN q.L) ⟨0,l,0⟩ ⟨fun _=>by dsimp only;omega,fun h=>by dsimp only at*;subst h;exact nE,by dsimp only;omega,zq6 _⟩ (fun q hq=>?_)
 obtain⟨n,L,out⟩:=q
 dsimp only at hq
 obtain⟨h1,h2,h3,h4⟩:=hq;show WP _ _ _ (iq [(3,.r (aA 3 ndE L)),(4,.v (.int .i64 (out:Int))),(5,.v (.int .i64 (n:Int)))] []) _;have hlen:=zk L;refine zg ?_;refine W.pF (fun(j:Nat) (M:List Nd)=>j<=L.length/\M=(L.take j).flatMap Nd.kids) (fun j M=>[(3,.r (aA 3 ndE L)),(4,.v (.int .i64 (out:Int))),(5,.v (.int .i64 (n:Int))),(6,.own 100),(12,.r (aA 3 ndE L)),(13,.v (.int .i64 (L.length:Int))),(14,.v (.int .i64 (j:Int)))]) (fun j M=>[(100,NR M)]) (fun j _=>L.length - j) 0 [] ⟨zq8 _,rfl⟩ (fun j M ⟨hj,hM⟩=>?_)
 have hm:=ahJ L j;rw[<-hM]at hm;by_cases hlt:j < L.length
 ·obtain⟨k,hk⟩:∃k,L[j]? =some k:=⟨_,zyh hlt⟩
  have hm2:=ahJ L (j+1);rw[ae6 hk,<-hM,zqi]at hm2;refine zg ?_;exact W.nR (j+1) (M++k.kids) ⟨zE,by rw[hM,ae6 hk]⟩ zE
   (by
    refine St.aW [(100,some 21)] zt ?_ ?_ rfl
    ·exact yb
    ·exact⟨ay.row rfl rfl zp zp,trivial⟩)
 ·have hrow2:=alz M;refine WP.freeze 100 hB rfl ?_;have hj:L.take j=L:=zxc zE
  rw[hj]at hM;have hdf:=aeX L;have hcf:=aap L;rw[<-hM]at hdf hcf;by_cases h0:L.length=0
  ·have hL:=zx5 h0;refine zg ?_;exact fC (by rw[h2 hL])
  ·have hL:L≠[]:=fun e=>h0 (by rw[e];rfl)
   refine zg ?_;exact W.next ⟨n+1,M,n⟩ ⟨fun h=>by dsimp only at*;rw[if_neg h]at hdf;have:=h1 hL;omega,fun h=>by dsimp only at*;rw[if_pos h]at hdf;have:=h1 hL;omega,by dsimp only;omega,by dsimp only;omega⟩ (by dsimp only;omega)
    (St.aW [] zt ⟨⟨_,rfl,aF.eq hrow2 rfl⟩,⟨_,rfl,aF.same rfl⟩,⟨_,rfl,aF.same rfl⟩,trivial⟩ trivial rfl)⟩
structure CoS where
 L:List Nd
 c:Nat
end
section
def yu(l:List Tok)(S:Gr):Nat->List Nd->Gr
 |0,_=>fun a o=> .bad 4 a nd0 a o
 |f+1,ks=>fun a o=>if a < l.length then(match S a o with
  | .bad e p n a' o'=> .bad e p (.mk 0 [] (ks++[n])) a' o'
  | .ok n a'=>yu l S f (ks++[n]) a' o)
  else .ok (.mk 0 [] ks) a
def ahR(l:List Tok):Res:=yu l (ajH 600 l (l.length+1)) (l.length+1) [] 0 0
def anG(ks:List Nd)(d:Int):List Nd×Nat×Nat:=if d < (mV ks:Int)then([],0,8)else(ks,0,0)
def xV(l:List Tok)(d:Int):List Nd×Nat×Nat:=
 if d < 0\/200 < d then([],0,1)else
 if l.all j5 then(match ahR l with
  | .bad e p _ _ _=>([],p,e)
  | .ok n _=>anG n.kids d)
 else([],0,1)
abbrev tupP(r:List Nd×Nat×Nat):AV:= .tup [.one (.c (.sat (aA 3 ndC r.1))),.one (.c (.val (.int .i64 (r.2.1:Int)))),.one (.c (.val (.int .i64 (r.2.2:Int))))]
theorem avC{t:Tok}(h:j5 t=true)(ht:t.text=[61]):t.kind≠1:=by
 intro hk;have hs:srt 61=5:=by unfold srt;decide
 have hn:num [61]=false:=by unfold num dgL;simp[hs]
 unfold j5 at h;rw[if_pos hk,ht,hn]at h;cases h
theorem ht_of{l:List Tok}(h:l.all j5=true):HT l:=fun i t ht he=>avC (zqh.1 h t (zq4 ht)) he
def prS(l:List Tok)(S:Gr)(q:LiS):Res:=match q.b with
 |none=>yu l S q.f q.ks q.a q.o
 |some (e,p)=> .bad e p (.mk 0 [] q.ks) q.a q.o
theorem auo(l:List Tok)(d:Int)(hl:l.length<=1000000)(ht:∀t∈l,t.text.length<=9223372036854775807):ah prog 185 [.r (aA 3 acs l),.v (.int .i64 d)] (tupP (xV l d)):=by
 unfold xV;by_cases hd:d < 0\/200 < d
 ·rw[if_pos hd];by_cases h0:d < 0
  ·refine ah.fq func185 results185 ntmps185 fun w0 T B E0 hB=>?_
   refine zg ?_;refine nT (aj.tmp rfl) (aj.tmp rfl) (aj.tmp rfl) imp_nil (zv _) (zv _)
  ·refine ah.fq func185 results185 ntmps185 fun w0 T B E0 hB=>?_
   refine zg ?_;refine nT (aj.tmp rfl) (aj.tmp rfl) (aj.tmp rfl) imp_nil (zv _) (zv _)
 ·rw[if_neg hd];generalize hV:(if l.all j5 then(match ahR l with
   | .bad e p _ _ _=>(([],p,e):List Nd×Nat×Nat)
   | .ok n _=>anG n.kids d)else([],0,1))=V
  refine ah.fq func185 results185 ntmps185 fun w0 T B E0 hB=>?_
  refine zg ?_;refine W.loop (fun k:Nat=>k<=l.length/\∀i t,i < k->l[i]? =some t->j5 t=true) (fun k=>[(0,.r (aA 3 acs l)),(1,.v (.int .i64 d)),(17,.r (aA 3 acs l)),(18,.v (.int .i64 (l.length:Int))),(19,.v (.int .i64 (k:Int)))]) (fun _=>[]) (fun k=>l.length - k) 0 ⟨zq8 _,fun i t h=>zE⟩ (fun k ⟨hk,hT⟩=>?_)
  by_cases hlt:k < l.length
  ·obtain⟨⟨tk,tt,tp⟩,htk⟩:∃t,l[k]? =some t:=⟨_,zyh hlt⟩
   have htt:tt.length<=9223372036854775807:=ht _ (zq4 htk);have cI:ah prog 291 [.agg (tokA ⟨tk,tt,tp⟩)] (.v (.bool (j5 ⟨tk,tt,tp⟩))):=(axJ ⟨tk,tt,tp⟩).h htt;cases hi:j5 ⟨tk,tt,tp⟩with
   |false=>
    rw[hi]at cI;have hall:l.all j5=false:=by
     rw[List.all_eq_false];exact⟨_,zq4 htk,by rw[hi];decide⟩
    rw[hall,if_neg zc]at hV
    refine zg ?_;subst hV;refine nT (aj.tmp rfl) (aj.tmp rfl) (aj.tmp rfl) imp_nil (zv _) (zv _)
   |true=>
    rw[hi]at cI;refine zg ?_;refine W.next (k+1) ⟨zE,fun i t h1 h2=>?_⟩ zE
    by_cases e:i=k
    ·subst e;rw[htk]at h2;cases h2;exact hi
    ·exact hT i t zE h2
  ·have hall:l.all j5=true:=by
    rw[zqh];intro t htm;obtain⟨i,hi⟩:=List.getElem?_of_mem htm
    exact hT i t (by have:=(zxg.1 hi).1;omega) hi
   rw[hall,if_pos rfl]at hV;have gs:=asB hl (ht_of hall) (l.length+1) 0 zE
   have ga:=zZ 600 l (l.length+1) 0 zE
   unfold ahR at hV;generalize ajH 600 l (l.length+1)=S at hV gs ga;generalize hR:yu l S (l.length+1) [] 0 0=R at hV;refine zg ?_;refine W.loop (fun q:LiS=>prS l S q=R/\(q.b=none->q.o=0/\q.a<=l.length/\l.length < q.a+q.f/\jN q.ks<=q.a)) (fun _=>[(0,.r (aA 3 acs l)),(1,.v (.int .i64 d)),(9,.ptr 29 0),(10,.own 100)]) (fun q=>[(29,PS l q.a q.o q.b),(100,NR q.ks)]) (fun q=>match q.b with|none=>l.length+1 - q.a|some _=>0) ⟨[],0,0,none,l.length+1⟩ ⟨hR,fun _=>by dsimp only;exact⟨rfl,zE,zE,by rw[dw];omega⟩⟩ (fun q hq=>?_)
    (by
     refine St.aW [(100,none)] zt ?_ ?_ rfl
     ·exact yf
     ·exact⟨ay.eq rfl rfl rfl,ay.dO rfl,trivial⟩)
   obtain⟨qk,qa,qo,qb,qf⟩:=q;obtain⟨hq1,hq2⟩:=hq
   dsimp only at hq1 hq2
   cases qb with
   |some b=>
    obtain⟨ee,p⟩:=b;show WP _ _ _ (iq [(0,.r (aA 3 acs l)),(1,.v (.int .i64 d)),(9,.ptr 29 0),(10,.own 100)] [(29,PE l qa qo ee p),(100,NR qk)]) _;refine zg ?_;subst hq1;subst hV;refine nT (aj.tmp rfl) (aj.tmp rfl) (aj.tmp rfl) imp_nil (zv _) (zv _)
   |none=>
    obtain⟨rfl,b2,b3,b4⟩:=hq2 rfl;obtain⟨qf,rfl⟩:∃k,qf=k+1:=⟨qf - 1,zE⟩
    show WP _ _ _ (iq [(0,.r (aA 3 acs l)),(1,.v (.int .i64 d)),(9,.ptr 29 0),(10,.own 100)] [(29,PG l qa 0),(100,NR qk)]) _;have hq1:yu l S (qf+1) qk qa 0=R:=hq1;unfold yu at hq1;have hlk:=zk qk;by_cases hlt2:qa < l.length
    ·rw[if_pos hlt2]at hq1;have h3:=gs qa 0 zE zE zE
     have h4:=ga qa 0 zE zE
     cases hr2:S qa 0 with
     |bad c p k a2 o2=>
      rw[hr2]at h3 hq1;have c4:=h3.bad;refine zg ?_;exact W.next ⟨qk++[k],a2,o2,some (c,p),0⟩ ⟨hq1,fun h=>by cases h⟩ (by dsimp only;omega)
       (by
        refine St.aW [(100,some 48)] zt ?_ ?_ rfl
        ·exact yb
        ·exact⟨ay.eq rfl rfl rfl,ay.row rfl rfl zp (bY (aJ _).symm),trivial⟩)
     |ok k a2=>
      rw[hr2]at h3 hq1 h4;have c4:=h3.ok;obtain⟨j1,j2,j3⟩:=h4;have j4:=nU k;refine zg ?_;exact W.next ⟨qk++[k],a2,0,none,qf⟩ ⟨hq1,fun h=>by dsimp only;exact⟨rfl,zE,zE,by rw[fQ,bC,dw];omega⟩⟩ (by dsimp only;omega)
       (by
        refine St.aW [(100,some 48)] zt ?_ ?_ rfl
        ·exact yb
        ·exact⟨ay.eq rfl rfl rfl,ay.row rfl rfl zp (bY (aJ _).symm),trivial⟩)
    ·rw[if_neg hlt2]at hq1;have cD:ah prog 293 [.r (aA 3 ndC qk)] (.v (.int .i64 (mV qk:Int))):=Con.use zE
     refine WP.freeze 100 hB rfl ?_;subst hq1;have hV:anG qk d=V:=hV;unfold anG at hV;by_cases hdd:d < (mV qk:Int)
     ·rw[if_pos hdd]at hV;refine zg ?_;subst hV;refine nT (aj.tmp rfl) (aj.tmp rfl) (aj.tmp rfl) imp_nil (zv _) (zv _)
     ·rw[if_neg hdd]at hV;refine zg ?_;subst hV;refine nT (aj.tmp rfl) (aj.tmp rfl) (aj.tmp rfl) (zv _) (zv _) (zv _)
end
end
section
abbrev tupQ(x:List Nd)(p e:Nat):AV:= .tup [.one (.c (.sat (aA 3 ndC x))),.one (.c (.val (.int .i64 (p:Int)))),.one (.c (.val (.int .i64 (e:Int))))]
theorem aj3{l:List Tok}{d:Int}{x:List Nd}{p e:Nat}(hl:l.length<=1000000)(ht:∀t∈l,t.text.length<=9223372036854775807)(h:xV l d=(x,p,e)):ah prog 185 [.r (aA 3 acs l),.v (.int .i64 d)] (tupQ x p e):=by
 have:=auo l d hl ht;rw[h]at this;exact this
end
section
abbrev Wrd:=Int×List UInt8
abbrev sg(s:List UInt8):Wrd:=(3,s)
def kt(t:Tok):Wrd:=(t.kind,t.text)
def acI(s:Wrd):List (List Wrd)->List Wrd
 |[]=>[]
 |[x]=>x
 |x::y::r=>x++s::acI s (y::r)
def tx(k:Int)(t:List UInt8):Bool:=j5 ⟨k,t,0⟩&&!ownB t
def manyB(o:Int)(n:Nat):Bool:=if o=13\/o=16 then true else if o=17 then decide (n=2\/n=3)else if o=3 then decide (n=1)else decide (4<=o/\o<=12)&&decide (n=2)
mutual
def okE:Nd->Bool
 | .mk o t ks=>if o=1\/o=2 then tx o t&&ks.isEmpty
   else if o=14 then decide (t=[])&&(!ks.isEmpty&&okRL ks)
   else manyB o ks.length&&(if o=13 then tx 2 t else decide (t=[]))&&okEL ks
def okEL:List Nd->Bool
 |[]=>true
 |k::ks=>okE k&&okEL ks
def okR:Nd->Bool
 | .mk o t ks=>decide (o=15)&&decide (t=[])&&!ks.isEmpty&&okEL ks
def okRL:List Nd->Bool
 |[]=>true
 |k::ks=>okR k&&okRL ks
end
def rst(l:List Tok)(a:Nat):List Wrd:=(l.map kt).drop a
def hS(r:List Wrd)(s:List UInt8):Bool:=match r with
 |[]=>false
 |w::_=>!decide (w.1=1)&&decide (w.2=s)
def hN(r:List Wrd):Bool:=match r with
 |[]=>false
 |w::_=>decide (w.1=2)&&!ownB w.2
theorem agM(l:List Tok)(a:Nat):(rst l a).head? =(l[a]?).map kt:=by
 unfold rst;rw[List.head?_drop,zqa]
theorem dz(l:List Tok)(a:Nat)(s:List UInt8):isS l a s=hS (rst l a) s:=by
 have h:=agM l a;unfold isS hS;cases hl:l[a]? with
 |none=>rw[hl]at h;cases hr:rst l a with|nil=>rfl|cons w r=>rw[hr]at h;cases h
 |some t=>
  rw[hl]at h;cases hr:rst l a with
  |nil=>rw[hr]at h;cases h
  |cons w r=>rw[hr]at h;simp at h;rw[h];rfl
theorem ac6(l:List Tok)(a:Nat):pW l a=hN (rst l a):=by
 have h:=agM l a;unfold pW hN;cases hl:l[a]? with
 |none=>rw[hl]at h;cases hr:rst l a with|nil=>rfl|cons w r=>rw[hr]at h;cases h
 |some t=>
  rw[hl]at h;cases hr:rst l a with
  |nil=>rw[hr]at h;cases h
  |cons w r=>rw[hr]at h;simp at h;rw[h];rfl
theorem ahX{l:List Tok}{a:Nat}{w:Wrd}{r:List Wrd}(h:rst l a=w::r):∃t,l[a]? =some t/\t.kind=w.1/\t.text=w.2:=by
 have h1:=agM l a;rw[h]at h1;cases hl:l[a]? with
 |none=>rw[hl]at h1;cases h1
 |some t=>rw[hl]at h1;simp at h1;exact⟨t,rfl,by rw[h1];rfl,by rw[h1];rfl⟩
theorem avf{l:List Tok}{a:Nat}{w:Wrd}{r:List Wrd}(h:rst l a=w::r):txt l a=w.2:=by
 obtain⟨t,h1,_,h2⟩:=ahX h;unfold txt;rw[h1];exact h2
theorem ql{l:List Tok}{a:Nat}{w:Wrd}{r:List Wrd}(h:rst l a=w::r):rst l (a+1)=r:=by
 unfold rst at h ⊢;rw[<-List.drop_drop,h];rfl
theorem kT{l:List Tok}{a:Nat}{u r:List Wrd}(h:rst l a=u++r):rst l (a+u.length)=r:=by
 unfold rst at h ⊢;rw[<-List.drop_drop,h,List.drop_left' rfl]
theorem alT{l:List Tok}{a:Nat}{u:List Wrd}(h:rst l a=u)(h0:u≠[]):a+u.length=l.length:=by
 have h1:(rst l a).length=l.length - a:=by unfold rst;rw[zxe,zq5]
 rw[h]at h1;have:u.length≠0:=by simpa using h0
 omega
def aiv(r:List Wrd):Prop:=∀s∈([[91],[94],[42],[47],[43],[45],[61,61],[33,61],[60],[60,61],[40]]:List (List UInt8)),hS r s=false
theorem vL{s:List UInt8}(h:s∉([[91],[94],[42],[47],[43],[45],[61,61],[33,61],[60],[60,61],[40]]:List (List UInt8)))(r:List Wrd):aiv (sg s::r):=fun x hx=>by
 show (!decide ((3:Int)=1)&&decide (s=x))=false;have:s≠x:=fun e=>h (e▸hx)
 simp[this]
theorem ark{k:Nd}{ks:List Nd}(h:k∈ks):dep k<=mV ks:=by
 induction ks with
 |nil=>cases h
 |cons x ks ih=>
  rw[lZ];rcases zy3.1 h with rfl|h
  ·omega
  ·have:=ih h;omega
section
inductive EC:Nd->Prop
 |num (t:List UInt8) (h:tx 1 t=true):EC (.mk 1 t [])
 |nam (t:List UInt8) (h:tx 2 t=true):EC (.mk 2 t [])
 |call (t:List UInt8) (ks:List Nd) (h:tx 2 t=true) (hk:∀k∈ks,okE k=true):EC (.mk 13 t ks)
 |mat (ks:List Nd) (h0:ks≠[]) (hk:∀x∈ks,okR x=true):EC (.mk 14 [] ks)
 |list (ks:List Nd) (hk:∀k∈ks,okE k=true):EC (.mk 16 [] ks)
 |item (k k1:Nd) (h:okE k=true) (h1:okE k1=true):EC (.mk 17 [] [k,k1])
 |item2 (k k1 k2:Nd) (h:okE k=true) (h1:okE k1=true) (h2:okE k2=true):EC (.mk 17 [] [k,k1,k2])
 |minus (k:Nd) (h:okE k=true):EC (.mk 3 [] [k])
 |op (o:Int) (k k2:Nd) (ho:4<=o/\o<=12) (h:okE k=true) (h2:okE k2=true):EC (.mk o [] [k,k2])
theorem afI{k:Nd}{o:Int}{t:List UInt8}{ks:List Nd}(h:k∈ks):dep k+1<=dep (.mk o t ks):=by
 have:=ark h;rw[dep];cases ks with
 |nil=>cases h
 |cons=>rw[if_neg zp];omega
theorem aoJ{t:List UInt8}(h:tx 2 t=true):∃c m,t=c::m/\97<=c.toNat/\c.toNat<=122:=by
 unfold tx at h;rw[zx4,ajk]at h;obtain⟨_,c,m,h1,h2⟩:=ae4 (show nam t=true from h.1)
 exact⟨c,m,h1,(srt3 c).1 h2⟩
theorem awu{t:List UInt8}(h:tx 2 t=true){c:UInt8}{m:List UInt8}(hc:¬(97<=c.toNat/\c.toNat<=122)):t≠c::m:=by
 obtain⟨c',m',rfl,h1⟩:=aoJ h;intro e;cases e;exact hc h1
theorem arh{k:Int}{t:List UInt8}(h:tx k t=true):ownB t=false:=by
 unfold tx at h;rw[zx4]at h;simpa using h.2
theorem akG{t:List UInt8}(h:tx 2 t=true)(r:List Wrd):hN ((2,t)::r)=true:=by
 show (decide ((2:Int)=2)&&!ownB t)=true;rw[arh h];rfl
section
variable{K:Nat}{l:List Tok}{X U:Gr}{a o a':Nat}{n:Nd}
theorem aky{k:Gr}(h:o+1<=K)(hk:k a (o+1)= .ok n a'):ins K k a o= .ok n a':=by
 unfold ins;rw[if_neg zE,hk]
theorem auJ(h:tT K l X a o= .ok n a')(h1:hS (rst l a') [91]=false):tK K l X a o= .ok n a':=by
 unfold tK;rw[h];show wU K l X (l.length+1) n a' o=_;unfold wU;rw[dz,h1];rfl
theorem axW(h:tK K l X a o= .ok n a')(h1:hS (rst l a') [94]=false):aee K l X U a o= .ok n a':=by
 unfold aee;rw[h];show (if isS l a' [94]then _ else _)=_
 rw[dz,h1];rfl
theorem un_of(h:aee K l X U a o= .ok n a')(h1:hS (rst l a) [45]=false):unG K l X U a o= .ok n a':=by
 unfold unG;rw[dz,h1,if_neg zc];exact h
theorem ac7{S:Gr}{s1 s2:List UInt8}{x y:Nat}(h:S a o= .ok n a')(h1:hS (rst l a') s1=false)(h2:hS (rst l a') s2=false):aej l S s1 x s2 y a o= .ok n a':=by
 unfold aej;rw[h];show kJ l S s1 x s2 y (l.length+1) n a' o=_;unfold kJ;rw[dz,h1,dz,h2];rfl
theorem arT{S:Gr}{s1 s2:List UInt8}{x y:Nat}{m:Nd}{a2:Nat}(h:S a o= .ok n a')(h0:hS (rst l a') s1=false)(h1:hS (rst l a') s2=true)(h2:S (a'+1) o= .ok m a2)(h3:hS (rst l a2) s1=false)(h4:hS (rst l a2) s2=false):aej l S s1 x s2 y a o= .ok (.mk y [] [n,m]) a2:=by
 have hlt:=bZ (l:=l) (a:=a') (s:=s2) (by rw[dz,h1])
 unfold aej;rw[h];show kJ l S s1 x s2 y (l.length+1) n a' o=_;unfold kJ;rw[dz,h0,if_neg zc,dz,h1,if_pos rfl,h2]
 show kJ l S s1 x s2 y l.length _ a2 o=_;obtain⟨k,hk⟩:∃k,l.length=k+1:=⟨l.length - 1,zE⟩
 rw[hk];unfold kJ;rw[dz,h3,dz,h4];rfl
theorem aks(h:rE l U a o= .ok n a')(h1:hS (rst l a') [61,61]=false)(h2:hS (rst l a') [33,61]=false)(h3:hS (rst l a') [60]=false)(h4:hS (rst l a') [60,61]=false):aew l U a o= .ok n a':=by
 unfold aew;rw[h];show (if isS l a' [61,61]then _ else if isS l a' [33,61]then _ else if isS l a' [60]then _ else if isS l a' [60,61]then _ else _)=_
 rw[dz,h1,dz,h2,dz,h3,dz,h4];rfl
theorem uE{w:Wrd}{r:List Wrd}(h:rst l a=w::r):tT K l X a o=if w.1=1 then .ok (.mk 1 w.2 []) (a+1)
  else if hN (w::r)then(if hS r [40]then ins K (fun a o=>jJ (fun n=> .mk 13 w.2 n.kids) (kW l X [41] a o)) (a+2) o else .ok (.mk 2 w.2 []) (a+1))
  else if hS (w::r) [40]then ins K (fun a o=>thenS l (X a o) o [41]) (a+1) o
  else if hS (w::r) [91]then ins K (fun a o=>uT l X (l.length+1) [] [] a o) (a+1) o
  else if hS (w::r) [123]then ins K (fun a o=>jJ (fun n=> .mk 16 [] n.kids) (kW l X [125] a o)) (a+1) o
  else .bad 4 a nd0 a o:=by
 obtain⟨t,h1,h2,h3⟩:=ahX h;unfold tT;rw[h1];show (if t.kind=1 then _ else _)=_
 rw[ac6,dz,dz,dz,dz,h,ql h,h2,h3]
theorem ai3(h:tT K l X a o= .ok n a')(h0:hS (rst l a) [45]=false)(h1:hS (rst l a') [91]=false)(h2:hS (rst l a') [94]=false):unG K l X U a o= .ok n a':=un_of (axW (auJ h h1) h2) h0
end
end
end
