import Derived.Test.YthnkfhfcgjoieaaGreatDoorO12
set_option linter.unusedVariables false
set_option linter.unusedSimpArgs false
open Go.Proofs.Tryz
namespace Go.Proofs.YthnkfhfcgjoieaaGreatDoor
open Go.RowKit SX
attribute [local irreducible] IntKind.wrap Go1 Reg WP aJ aN bF bD aM aA ak aj aT Sat
section
theorem ay.node{st:St}{ρ:List (Nat×Option Nat)}{b c:Nat}{x:Value}{s:Value}{o:Atom}(h:st.hp b= .ent (.box 233 [.c (.val x),.c (.val s),o]))(hf:fresh ρ [b]=true)(hi:aD ρ o (.own c)):ay st ρ b (.box 233 [.c (.val x),.c (.val s),.own c]):=
 ay.nW h hf ⟨aD.same rfl,aD.same rfl,hi,trivial⟩
abbrev NG(x:Int)(c:Nat):Ent:= .box 233 [.c (.val (.int .i64 x)),.c (.val (.string ByteArray.empty)),.own c]
structure MaS where
 rs:List Nd
 r:List Nd
 a:Nat
 f:Nat
theorem aap(r:List Nd)(k:Nd):([CA.val (.int .i64 15),.val (.string ByteArray.empty),.sat (aQ 3 (r.length+1) (r.flatMap ndC++caN k))]:List CA)=ndC (.mk 15 [] (r++[k])):=by
 rw[anT];show _=[CA.val (.int .i64 15),.val (.string ByteArray.empty),.sat (aQ 3 (r++[k]).length ((r++[k]).flatMap ndC))];rw[<-cK (aI k).symm,zqi];rfl
theorem g_mat{l:List Tok}{m:Nat}{X:Gr}(hl:l.length<=1000000)(hs:GOK 287 l m X)(hA:Adv 1 l m X){a o:Nat}(hm:m<=a)(ha:a<=l.length)(ho:o<=600):
  CR rNd 569 [.ptr 29 0] [] l a o (rP l X (l.length+1) [] [] a o):=by
 generalize hR:rP l X (l.length+1) [] [] a o=R;refine CR.of ?_;refine aj.fq func569 results569 ntmps569 fun _ _ _ _ hB=>?_
 refine zg ?_;refine W.loop (fun q:MaS=>rP l X q.f q.rs q.r q.a o=R/\m<=q.a/\q.a<=l.length/\l.length < q.a+q.f/\q.rs.length+q.r.length<=q.a) (fun _=>[(0,.ptr 29 0),(2,.ptr 2 0),(3,.ptr 3 0),(4,.ptr 4 0)]) (fun q=>[(29,PG l q.a o),(2,NZ),(3,NG 14 100),(4,NG 15 101),(100,NR q.rs),(101,NR q.r)]) (fun q=>l.length+1 - q.a) ⟨[],[],a,l.length+1⟩ ⟨hR,by dsimp only;exact⟨zE,zE,zE,zq8 _⟩⟩ (fun q hq=>?_)
  (by
   refine St.bV [(100,none),(101,none)] (by intro b h;exact SX.dX h rfl) ?_ ?_ rfl
   ·exact ya
   ·exact⟨ay.same rfl rfl,ay.same rfl rfl,ay.node rfl rfl (aD.nil rfl),ay.node rfl rfl (aD.nil rfl),ay.dZ rfl,ay.dZ rfl,trivial⟩)
 obtain⟨rs,r,qa,qf⟩:=q
 dsimp only at hq
 obtain⟨hq1,b1,b2,b3,b4⟩:=hq;obtain⟨qf,rfl⟩:∃k,qf=k+1:=⟨qf - 1,zE⟩
 unfold rP at hq1;show WP _ _ _ (fP [(0,.ptr 29 0),(2,.ptr 2 0),(3,.ptr 3 0),(4,.ptr 4 0)] [(29,PG l qa o),(2,NZ),(3,NG 14 100),(4,NG 15 101),(100,NR rs),(101,NR r)]) _;have h3:=hs qa o zE zE ho
 have h4:=hA qa o zE zE
 cases hr2:X qa o with
 |bad c p k a2 o2=>
  rw[hr2]at h3 hq1;have c3:=h3.bad;have c4:=eB l a2 o2 c p [44];have c6:=jH l a2 o2 c p [93];obtain⟨bb,hbb⟩:∃b,Hide (b=false):=⟨_,⟨rfl⟩⟩;have c5:aj prog 286 [.ptr 29 0,.v (str [59])] [(29,PE l a2 o2 c p)] ⟨.v (.bool bb),[(29,.ent (PE l a2 o2 c p))]⟩:=by rw[hbb.out];exact eB l a2 o2 c p [59]
  refine zg ?_;refine WP.aaq 17 (ps:=[29]) hB rfl rfl ?_;refine W.abz ?_ rfl hbb.out;refine zg ?_;subst hq1;refine aM.qR 25 (ps:=[29]) ?_;exact aU ak.bQ (bX rfl rfl (by simp[Res.nd]) (cK (aap r k))) ⟨rfl,trivial⟩
 |ok k a2=>
  rw[hr2]at h3 hq1 h4;have c3:=h3.ok;obtain⟨j1,j2,j3⟩:=h4;have j4:=mK k
  dsimp only at hq1
  cases ht:isS l a2 [44]with
  |true=>
   have c4:=fB o hl ht;have g5:=dh ht;rw[if_pos ht]at hq1;refine zg ?_;exact W.next ⟨rs,r++[k],a2+1,qf⟩ ⟨hq1,by dsimp only;exact⟨zE,zE,zE,by simp;omega⟩⟩ (by dsimp only;omega)
    (by
     refine St.bV [(100,some 100),(101,some 17)] (by intro b h;exact SX.dX h rfl) ?_ ?_ rfl
     ·exact ya
     ·exact⟨ay.eq rfl rfl rfl,ay.same rfl rfl,ay.node rfl rfl (aD.own rfl),ay.node rfl rfl (aD.own rfl),ay.row rfl rfl rfl rfl,ay.row rfl rfl zp (cK (aI _).symm),trivial⟩)
  |false=>
   have c4:=eH o ht;rw[if_neg (by rw[ht];decide)]at hq1
   cases ht2:isS l a2 [59]with
   |true=>
    have g5:=dh ht2;rw[if_pos ht2]at hq1;obtain⟨bb,hbb⟩:∃b,Hide (b=true):=⟨_,⟨rfl⟩⟩;have c5:aj prog 286 [.ptr 29 0,.v (str [59])] [(29,PG l a2 o)] ⟨.v (.bool bb),[(29,.ent (PG l (a2+1) o))]⟩:=by rw[hbb.out];exact fB o hl ht2
    refine zg ?_;refine WP.aaq 17 (ps:=[29]) hB rfl rfl ?_;refine W.akg ?_ rfl hbb.out;refine zg ?_;exact W.next ⟨rs++[.mk 15 [] (r++[k])],[],a2+1,qf⟩ ⟨hq1,by dsimp only;exact⟨zE,zE,zE,by simp;omega⟩⟩ (by dsimp only;omega)
     (by
      refine St.bV [(100,some 38),(101,none)] (by intro b h;exact SX.dX h rfl) ?_ ?_ rfl
      ·exact ya
      ·exact⟨ay.eq rfl rfl rfl,ay.same rfl rfl,ay.node rfl rfl (aD.own rfl),ay.node rfl rfl (aD.nil rfl),ay.row rfl rfl zp (cK (aap r k)),ay.dZ rfl,trivial⟩)
   |false=>
    rw[if_neg (by rw[ht2];decide)]at hq1
    obtain⟨bb,hbb⟩:∃b,Hide (b=false):=⟨_,⟨rfl⟩⟩;have c5:aj prog 286 [.ptr 29 0,.v (str [59])] [(29,PG l a2 o)] ⟨.v (.bool bb),[(29,.ent (PG l a2 o))]⟩:=by rw[hbb.out];exact eH o ht2
    cases ht3:isS l a2 [93]with
    |true=>
     rw[if_pos ht3]at hq1;have c6:=kC o hl ht3;refine zg ?_;refine WP.aaq 17 (ps:=[29]) hB rfl rfl ?_;refine W.abz ?_ rfl hbb.out;refine zg ?_;subst hq1;refine aM.qR 25 (ps:=[29]) ?_;exact aU ak.bQ (bX rfl rfl (by simp[Res.nd]) (cK (aap r k))) ⟨rfl,trivial⟩
    |false=>
     rw[if_neg (by rw[ht3];decide)]at hq1
     have c6:=lJ o ht3;refine zg ?_;refine WP.aaq 17 (ps:=[29]) hB rfl rfl ?_;refine W.abz ?_ rfl hbb.out;refine zg ?_;subst hq1;refine aM.qR 25 (ps:=[29]) ?_;exact aU ak.bQ (bX rfl rfl (by simp[Res.nd]) (cK (aap r k))) ⟨rfl,trivial⟩
theorem g_par{l:List Tok}{m:Nat}{X:Gr}(hl:l.length<=1000000)(hs:GOK 287 l m X){a o:Nat}(hm:m<=a)(ha:a<=l.length)(ho:o<=600):CR rNd 568 [.ptr 81 0] [(81,PP)] l a o (thenS l (X a o) o [41]):=by
 have h3:=hs a o hm ha ho;cases hr2:X a o with
 |bad e p n2 a2 o2=>
  rw[hr2]at h3;have c3:=h3.bad;have c4:=jH l a2 o2 e p [41];show aj _ _ _ _ _;refine aj.fq func568 results568 ntmps568 fun w0 T B E0 hB=>?_
  refine zg ?_;exact aU ak.bQ (zv _) ⟨rfl,rfl,trivial⟩
 |ok n2 a2=>
  rw[hr2]at h3;have c3:=h3.ok;unfold thenS
  dsimp only
  cases ht:isS l a2 [41]with
  |true=>
   have c4:=kC o hl ht;rw[if_pos rfl];show aj _ _ _ _ _;refine aj.fq func568 results568 ntmps568 fun w0 T B E0 hB=>?_
   refine zg ?_;exact aU ak.bQ (zv _) ⟨rfl,rfl,trivial⟩
  |false=>
   have c4:=lJ o ht;rw[if_neg zc]
   show aj _ _ _ _ _;refine aj.fq func568 results568 ntmps568 fun w0 T B E0 hB=>?_
   refine zg ?_;exact aU ak.bQ (zv _) ⟨rfl,rfl,trivial⟩
theorem g_call{l:List Tok}{m:Nat}{X:Gr}{t:Tok}(hl:l.length<=1000000)(hs:GOK 287 l m X)(hA:Adv 1 l m X){a o:Nat}(hm:m<=a)(ha:a<=l.length)(ho:o<=600):CR rNd 566 [.ptr 82 0,.ptr 81 0] [(81,PP),(82,KB t)] l a o (jm (fun n=> .mk 13 t.text n.kids) (kg l X [41] a o)):=by
 have h3:=ap7 (e:=[41]) hl hs hA hm ha ho;cases hr2:kg l X [41] a o with
 |bad e p n2 a2 o2=>
  rw[hr2]at h3;have c3:=h3.bad;show aj _ _ _ _ _;refine aj.fq func566 results566 ntmps566 fun w0 T B E0 hB=>?_
  refine zg ?_;exact aU ak.bQ (zv _) ⟨rfl,rfl,rfl,trivial⟩
 |ok n2 a2=>
  rw[hr2]at h3;have c3:=h3.ok;show aj _ _ _ _ _;refine aj.fq func566 results566 ntmps566 fun w0 T B E0 hB=>?_
  refine zg ?_;exact aU ak.bQ (zv _) ⟨rfl,rfl,rfl,trivial⟩
theorem g_set{l:List Tok}{m:Nat}{X:Gr}(hl:l.length<=1000000)(hs:GOK 287 l m X)(hA:Adv 1 l m X){a o:Nat}(hm:m<=a)(ha:a<=l.length)(ho:o<=600):CR rNd 570 [.ptr 81 0] [(81,PP)] l a o (jm (fun n=> .mk 16 [] n.kids) (kg l X [125] a o)):=by
 have h3:=ap7 (e:=[125]) hl hs hA hm ha ho;cases hr2:kg l X [125] a o with
 |bad e p n2 a2 o2=>
  rw[hr2]at h3;have c3:=h3.bad;show aj _ _ _ _ _;refine aj.fq func570 results570 ntmps570 fun w0 T B E0 hB=>?_
  refine zg ?_;exact aU ak.bQ (zv _) ⟨rfl,rfl,trivial⟩
 |ok n2 a2=>
  rw[hr2]at h3;have c3:=h3.ok;show aj _ _ _ _ _;refine aj.fq func570 results570 ntmps570 fun w0 T B E0 hB=>?_
  refine zg ?_;exact aU ak.bQ (zv _) ⟨rfl,rfl,trivial⟩
theorem aus{l:List Tok}{m:Nat}{X:Gr}{N:Nd}(hl:l.length<=1000000)(hs:GOK 287 l m X)(hA:Adv 1 l m X){a o:Nat}(hm:m<=a)(ha:a<=l.length)(ho:o<=600):CR rNd 556 [.ptr 83 0,.ptr 81 0] [(81,PP),(83,NB N)] l a o (uq l X N a o):=by
 have mark:uY 7:=⟨⟩;have h3:=hs a o hm ha ho;have h4:=hA a o hm ha;unfold uq;cases hr2:X a o with
 |bad e p n2 a2 o2=>
  rw[hr2]at h3;have c3:=h3.bad;have c4:=eB l a2 o2 e p [44];have c5:=jH l a2 o2 e p [93];show aj _ _ _ _ _;refine aj.fq func556 results556 ntmps556 fun w0 T B E0 hB=>?_
  refine zg ?_;refine aM.qR 7 (ps:=[29,81,83]) ?_;exact aU ak.bQ (bX rfl rfl rfl (by first|(simp only[zq7,zqd,aI,zqb];done)|(simp only[zq7,zqd,aI,zqb];rfl))) ⟨rfl,rfl,rfl,trivial⟩
 |ok n2 a2=>
  rw[hr2]at h3 h4;have c3:=h3.ok;obtain⟨j1,j2,j3⟩:=h4
  dsimp only
  cases ht:isS l a2 [44]with
  |false=>
   have c4:=eH o ht;rw[if_neg zc]
   unfold thenS
   dsimp only
   cases ht2:isS l a2 [93]with
   |true=>
    have c5:=kC o hl ht2;rw[if_pos rfl];show aj _ _ _ _ _;refine aj.fq func556 results556 ntmps556 fun w0 T B E0 hB=>?_
    refine zg ?_;refine aM.qR 7 (ps:=[29,81,83]) ?_;exact aU ak.bQ (bX rfl rfl rfl (by first|(simp only[zq7,zqd,aI,zqb];done)|(simp only[zq7,zqd,aI,zqb];rfl))) ⟨rfl,rfl,rfl,trivial⟩
   |false=>
    have c5:=lJ o ht2;rw[if_neg zc]
    show aj _ _ _ _ _;refine aj.fq func556 results556 ntmps556 fun w0 T B E0 hB=>?_
    refine zg ?_;refine aM.qR 7 (ps:=[29,81,83]) ?_;exact aU ak.bQ (bX rfl rfl rfl (by first|(simp only[zq7,zqd,aI,zqb];done)|(simp only[zq7,zqd,aI,zqb];rfl))) ⟨rfl,rfl,rfl,trivial⟩
  |true=>
   have c4:=fB o hl ht;have g5:=dh ht;rw[if_pos rfl];have h5:=hs (a2+1) o zE zE ho
   cases hr3:X (a2+1) o with
   |bad e p n3 a3 o3=>
    rw[hr3]at h5;have c6:=h5.bad;have c5:=jH l a3 o3 e p [93];show aj _ _ _ _ _;refine aj.fq func556 results556 ntmps556 fun w0 T B E0 hB=>?_
    refine zg ?_;refine aM.qR 16 (ps:=[29,81,83]) ?_;exact aU ak.bQ (bX rfl rfl rfl (by first|(simp only[zq7,zqd,aI,zqb,zqj];done)|(simp only[zq7,zqd,aI,zqb,zqj];rfl))) ⟨rfl,rfl,rfl,trivial⟩
   |ok n3 a3=>
    rw[hr3]at h5;have c6:=h5.ok;unfold thenS jm
    dsimp only
    cases ht2:isS l a3 [93]with
    |true=>
     have c5:=kC o hl ht2;rw[if_pos rfl];show aj _ _ _ _ _;refine aj.fq func556 results556 ntmps556 fun w0 T B E0 hB=>?_
     refine zg ?_;refine aM.qR 16 (ps:=[29,81,83]) ?_;exact aU ak.bQ (bX rfl rfl rfl (by first|(simp only[zq7,zqd,aI,zqb,zqj];done)|(simp only[zq7,zqd,aI,zqb,zqj];rfl))) ⟨rfl,rfl,rfl,trivial⟩
    |false=>
     have c5:=lJ o ht2;rw[if_neg zc]
     show aj _ _ _ _ _;refine aj.fq func556 results556 ntmps556 fun w0 T B E0 hB=>?_
     refine zg ?_;refine aM.qR 16 (ps:=[29,81,83]) ?_;exact aU ak.bQ (bX rfl rfl rfl (by first|(simp only[zq7,zqd,aI,zqb,zqj];done)|(simp only[zq7,zqd,aI,zqb,zqj];rfl))) ⟨rfl,rfl,rfl,trivial⟩
theorem ase{l:List Tok}:GE 555 l:=by
 intro a o e p;have nm1:Named 1 81:=⟨⟩;have c1:=aff l a o e p;refine aj.fq func555 results555 ntmps555 fun _ _ _ _ _=>?_
 refine zg ?_
 try(refine WP.aG ?_;refine zg ?_)
 exact aU ak.bQ (zv _) ⟨rfl,trivial⟩
theorem atH{l:List Tok}{m:Nat}{X:Gr}(hl:l.length<=1000000)(hs:GOK 287 l (m+1) X)(hA:Adv 1 l (m+1) X):GOK 555 l m (qM 600 l X):=by
 intro a o hm ha ho;have nm1:Named 1 81:=⟨⟩;have nm2:Named 3 82:=⟨⟩;unfold qM;cases hg:l[a]? with
 |none=>
  have hge:l.length<=a:=List.getElem?_eq_none_iff.1 hg
  have c1:=vw l a o;show aj _ _ _ _ _;refine aj.fq func555 results555 ntmps555 fun w0 T B E0 hB=>?_
  refine zg ?_
  try(refine WP.aG ?_;refine zg ?_)
  exact aU ak.bQ (zv _) ⟨rfl,trivial⟩
 |some t=>
  have hlt:a < l.length:=(zxg.1 hg).1
  obtain⟨tk,tt,tp⟩:=t
  dsimp only
  by_cases hk:tk=1
  ·rw[if_pos hk];show aj _ _ _ _ _;refine aj.fq func555 results555 ntmps555 fun w0 T B E0 hB=>?_
   refine zg ?_
   try(refine WP.aG ?_;refine zg ?_)
   exact aU ak.bQ (qd rfl rfl) ⟨rfl,trivial⟩
  ·rw[if_neg hk];have c1:=rA l a o;cases hn:nO l a with
   |true=>
    rw[hn]at c1;rw[if_pos rfl];cases ht:isS l (a+1) [40]with
    |true=>
     have c2:=fB o hl ht;have g5:=dh ht;rw[if_pos rfl];have h1:=auu (f:=566) (l:=l) (t:=⟨tk,tt,tp⟩) (a:=a+2) (o:=o) (k:=fun a o=>jm (fun n=> .mk 13 tt n.kids) (kg l X [41] a o)) ho (fun h=>⟨g_call hl hs hA zE zE zE,(jB (c':=0) (s':=0) (tN hA zE zE) (fun n=>by rw[vU];omega)).open.mono zE⟩)
     cases hr:ins 600 (fun a o=>jm (fun n=> .mk 13 tt n.kids) (kg l X [41] a o)) (a+2) o with
     |bad e p n a' o'=>
      rw[hr]at h1;have c3:=h1.bad;show aj _ _ _ _ _;refine aj.fq func555 results555 ntmps555 fun w0 T B E0 hB=>?_
      refine zg ?_
      try(refine WP.aG ?_;refine zg ?_)
      exact aU ak.bQ (zv _) ⟨rfl,trivial⟩
     |ok n a'=>
      rw[hr]at h1;have c3:=h1.ok;show aj _ _ _ _ _;refine aj.fq func555 results555 ntmps555 fun w0 T B E0 hB=>?_
      refine zg ?_
      try(refine WP.aG ?_;refine zg ?_)
      exact aU ak.bQ (zv _) ⟨rfl,trivial⟩
    |false=>
     have c2:=eH o ht;rw[if_neg zc]
     show aj _ _ _ _ _;refine aj.fq func555 results555 ntmps555 fun w0 T B E0 hB=>?_
     refine zg ?_
     try(refine WP.aG ?_;refine zg ?_)
     exact aU ak.bQ (qd rfl rfl) ⟨rfl,trivial⟩
   |false=>
    rw[hn]at c1;rw[if_neg zc]
    cases ht:isS l a [40]with
    |true=>
     have c2:=fB o hl ht;rw[if_pos rfl];have h1:=adZ (f:=568) (l:=l) (a:=a+1) (o:=o) (k:=fun a o=>thenS l (X a o) o [41]) ho (fun h=>⟨g_par hl hs zE zE zE,(oN (hA _ _ zE zE)).open.mono zE⟩)
     cases hr:ins 600 (fun a o=>thenS l (X a o) o [41]) (a+1) o with
     |bad e p n a' o'=>
      rw[hr]at h1;have c3:=h1.bad;show aj _ _ _ _ _;refine aj.fq func555 results555 ntmps555 fun w0 T B E0 hB=>?_
      refine zg ?_
      try(refine WP.aG ?_;refine zg ?_)
      exact aU ak.bQ (zv _) ⟨rfl,trivial⟩
     |ok n a'=>
      rw[hr]at h1;have c3:=h1.ok;show aj _ _ _ _ _;refine aj.fq func555 results555 ntmps555 fun w0 T B E0 hB=>?_
      refine zg ?_
      try(refine WP.aG ?_;refine zg ?_)
      exact aU ak.bQ (zv _) ⟨rfl,trivial⟩
    |false=>
     have c2:=eH o ht;rw[if_neg zc]
     cases ht2:isS l a [91]with
     |true=>
      have c3:=fB o hl ht2;rw[if_pos rfl];have h1:=avf (f:=569) (l:=l) (a:=a+1) (o:=o) (k:=fun a o=>rP l X (l.length+1) [] [] a o) ho (fun h=>⟨g_mat hl hs hA zE zE zE,(aad hA _ _ _ _ _ zE zE).open.mono zE⟩)
      cases hr:ins 600 (fun a o=>rP l X (l.length+1) [] [] a o) (a+1) o with
      |bad e p n a' o'=>
       rw[hr]at h1;have c4:=h1.bad;show aj _ _ _ _ _;refine aj.fq func555 results555 ntmps555 fun w0 T B E0 hB=>?_
       refine zg ?_
       try(refine WP.aG ?_;refine zg ?_)
       exact aU ak.bQ (zv _) ⟨rfl,trivial⟩
      |ok n a'=>
       rw[hr]at h1;have c4:=h1.ok;show aj _ _ _ _ _;refine aj.fq func555 results555 ntmps555 fun w0 T B E0 hB=>?_
       refine zg ?_
       try(refine WP.aG ?_;refine zg ?_)
       exact aU ak.bQ (zv _) ⟨rfl,trivial⟩
     |false=>
      have c3:=eH o ht2;rw[if_neg zc]
      cases ht3:isS l a [123]with
      |true=>
       have c4:=fB o hl ht3;rw[if_pos rfl];have h1:=adZ (f:=570) (l:=l) (a:=a+1) (o:=o) (k:=fun a o=>jm (fun n=> .mk 16 [] n.kids) (kg l X [125] a o)) ho (fun h=>⟨g_set hl hs hA zE zE zE,(jB (c':=0) (s':=0) (tN hA zE zE) (fun n=>by rw[vU];omega)).open.mono zE⟩)
       cases hr:ins 600 (fun a o=>jm (fun n=> .mk 16 [] n.kids) (kg l X [125] a o)) (a+1) o with
       |bad e p n a' o'=>
        rw[hr]at h1;have c5:=h1.bad;show aj _ _ _ _ _;refine aj.fq func555 results555 ntmps555 fun w0 T B E0 hB=>?_
        refine zg ?_
        try(refine WP.aG ?_;refine zg ?_)
        exact aU ak.bQ (zv _) ⟨rfl,trivial⟩
       |ok n a'=>
        rw[hr]at h1;have c5:=h1.ok;show aj _ _ _ _ _;refine aj.fq func555 results555 ntmps555 fun w0 T B E0 hB=>?_
        refine zg ?_
        try(refine WP.aG ?_;refine zg ?_)
        exact aU ak.bQ (zv _) ⟨rfl,trivial⟩
      |false=>
       have c4:=eH o ht3;rw[if_neg zc]
       have c5:=vw l a o;show aj _ _ _ _ _;refine aj.fq func555 results555 ntmps555 fun w0 T B E0 hB=>?_
       refine zg ?_
       try(refine WP.aG ?_;refine zg ?_)
       exact aU ak.bQ (zv _) ⟨rfl,trivial⟩
theorem arv{l:List Tok}:GE 544 l:=by
 intro a o e p;have nm1:Named 1 81:=⟨⟩;have nm2:Named 3 83:=⟨⟩;have c1:=ase (l:=l) a o e p;have c2:=eB l a o e p [91];refine aj.fq func544 results544 ntmps544 fun _ _ _ _ _=>?_
 refine zg ?_
 try(refine WP.aG ?_;refine zg ?_)
 refine W.loop (fun _:Unit=>True) (fun _=>[(1,.ptr 81 0),(2,.ptr 2 0),(3,.ptr 83 0)]) (fun _=>[(29,PE l a o e p),(2,NZ),(81,PP),(83,NB nd0)]) (fun _=>0) () trivial (fun _ _=>?_)
 refine zg ?_
 try(refine WP.aG ?_;refine zg ?_)
 exact aU ak.bQ (zv _) ⟨rfl,trivial⟩
structure PoS where
 n:Nd
 a:Nat
 o:Nat
 b:Option (Nat×Nat)
 f:Nat
def poS(l:List Tok)(X:Gr)(q:PoS):Res:=match q.b with
 |none=>um 600 l X q.f q.n q.a q.o
 |some (e,p)=> .bad e p q.n q.a q.o
theorem avo{l:List Tok}{m:Nat}{X:Gr}(hl:l.length<=1000000)(hs:GOK 287 l (m+1) X)(hA:Adv 1 l (m+1) X):GOK 544 l m (qK 600 l X):=by
 intro a o hm ha ho;have nm1:Named 1 81:=⟨⟩;have nm2:Named 3 83:=⟨⟩;have h1:=atH hl hs hA a o hm ha ho;have h2:=afC (K:=600) hA a o hm ha;unfold qK;cases hr:qM 600 l X a o with
 |bad e p n a' o'=>
  rw[hr]at h1;have c1:=h1.bad;have c2:=eB l a' o' e p [91];show aj _ _ _ _ _;refine aj.fq func544 results544 ntmps544 fun w0 T B E0 hB=>?_
  refine zg ?_
  try(refine WP.aG ?_;refine zg ?_)
  refine W.loop (fun _:Unit=>True) (fun _=>[(1,.ptr 81 0),(2,.ptr 2 0),(3,.ptr 83 0)]) (fun _=>[(29,PE l a' o' e p),(2,NZ),(81,PP),(83,NB n)]) (fun _=>0) () trivial (fun _ _=>?_)
  refine zg ?_
  try(refine WP.aG ?_;refine zg ?_)
  exact aU ak.bQ (zv _) ⟨rfl,trivial⟩
 |ok n a'=>
  rw[hr]at h1 h2;have c1:=h1.ok;obtain⟨g1,g2,g3⟩:=h2;have g4:=mK n
  dsimp only
  generalize hR:um 600 l X (l.length+1) n a' o=R;refine CR.of ?_;refine aj.fq func544 results544 ntmps544 fun w0 T B E0 hB=>?_
  refine zg ?_
  try(refine WP.aG ?_;refine zg ?_)
  refine W.loop (fun q:PoS=>poS l X q=R/\(q.b=none->q.o=o/\m<=q.a/\q.a<=l.length/\l.length < q.a+q.f)) (fun _=>[(1,.ptr 81 0),(2,.ptr 2 0),(3,.ptr 83 0)]) (fun q=>[(29,PS l q.a q.o q.b),(2,NZ),(81,PP),(83,NB q.n)]) (fun q=>match q.b with|none=>l.length+1 - q.a|some _=>0) ⟨n,a',o,none,l.length+1⟩ ⟨hR,fun _=>by dsimp only;exact⟨rfl,zE,zE,zE⟩⟩ (fun q hq=>?_)
  obtain⟨qn,qa,qo,qb,qf⟩:=q;obtain⟨hq1,hq2⟩:=hq
  dsimp only at hq1 hq2
  cases qb with
  |some b=>
   obtain⟨e,p⟩:=b;have c2:=eB l qa qo e p [91];show WP _ _ _ (fP [(1,.ptr 81 0),(2,.ptr 2 0),(3,.ptr 83 0)] [(29,PE l qa qo e p),(2,NZ),(81,PP),(83,NB qn)]) _;refine zg ?_
   try(refine WP.aG ?_;refine zg ?_)
   subst hq1;exact aU ak.bQ (zv _) ⟨rfl,trivial⟩
  |none=>
   obtain⟨rfl,b1,b2,b3⟩:=hq2 rfl;obtain⟨qf,rfl⟩:∃k,qf=k+1:=⟨qf - 1,zE⟩
   have hq1:um 600 l X (qf+1) qn qa qo=R:=hq1;unfold um at hq1;show WP _ _ _ (fP [(1,.ptr 81 0),(2,.ptr 2 0),(3,.ptr 83 0)] [(29,PG l qa qo),(2,NZ),(81,PP),(83,NB qn)]) _;cases ht:isS l qa [91]with
   |true=>
    have c2:=fB qo hl ht;have g5:=dh ht;rw[if_pos ht]at hq1;have h5:=auf (f:=556) (l:=l) (N:=qn) (a:=qa+1) (o:=qo) (k:=uq l X qn) ho (fun h=>⟨aus hl hs hA zE zE zE,(aat hA zE zE).open.mono zE⟩)
    have h6:=oh (K:=600) (g:=uq l X qn) (a:=qa+1) (o:=qo) (zq6 _) (aat (n:=qn) (o:=qo+1) hA zE zE)
    cases hr2:ins 600 (uq l X qn) (qa+1) qo with
    |bad e p k a2 o2=>
     rw[hr2]at h5 hq1;have c3:=h5.bad;refine zg ?_
     try(refine WP.aG ?_;refine zg ?_)
     exact W.next ⟨k,a2,o2,some (e,p),0⟩ ⟨hq1,fun h=>by cases h⟩ (by dsimp only;omega)
    |ok k a2=>
     rw[hr2]at h5 hq1 h6;have c3:=h5.ok;obtain⟨j1,j2,j3⟩:=h6;refine zg ?_
     try(refine WP.aG ?_;refine zg ?_)
     exact W.next ⟨k,a2,qo,none,qf⟩ ⟨hq1,fun h=>by dsimp only;exact⟨rfl,zE,zE,zE⟩⟩ (by dsimp only;omega)
   |false=>
    have c2:=eH qo ht;rw[if_neg (by rw[ht];decide)]at hq1
    refine zg ?_
    try(refine WP.aG ?_;refine zg ?_)
    subst hq1;exact aU ak.bQ (zv _) ⟨rfl,trivial⟩
theorem aam{l:List Tok}:GE 287 l:=ave (auw (arz (ge_un (auQ arv))))
theorem ati{l:List Tok}(hl:l.length<=1000000):∀(n m:Nat),l.length+1<=m+n->GOK 287 l m (lev 600 l n).1/\GOK 485 l m (lev 600 l n).2
 |0,m,h=>⟨fun a o hm ha=>zE,fun a o hm ha=>zE⟩
 |n+1,m,h=>by
  obtain⟨h1,h2⟩:=ati hl n (m+1) zE
  obtain⟨a1,a2⟩:=aac 600 l n (m+1) zE
  have u:GOK 485 l m (unG 600 l (lev 600 l n).1 (lev 600 l n).2):=g_un hl (g_pow hl (avo hl h1 a1) (ac8 a1) h2) h2 a2;have au:=anf (K:=600) a1 a2;exact⟨g_exp hl (g_sum hl (aue hl u au) au) au,u⟩
end
section
section
variable(K:Nat)(l:List Tok)
def qP(S:Gr):Nat->List Nd->Gr
 |0,_=>fun a o=> .bad 4 a nd0 a o
 |f+1,ks=>fun a o=>if isS l a [125]then .ok (.mk 22 [] ks) (a+1)else match S a o with
  | .bad e p n a' o'=> .bad e p (.mk 22 [] (ks++[n])) a' o'
  | .ok n a'=>qP S f (ks++[n]) a' o
def apw(S:Gr):Gr:=fun a o=>if isS l a [123]then ins K (fun a o=>qP l S (l.length+1) [] a o) (a+1) o else .bad 4 a nd0 a (o+1)
def ifG(E B:Gr):Gr:=fun a o=>match E a o with
 | .bad e p n a' o'=> .bad e p (.mk 20 [] [n,nd0]) a' (o'+1)
 | .ok n a'=>match B a' o with
  | .bad e p b a2 o2=> .bad e p (.mk 20 [] [n,b]) a2 o2
  | .ok b a2=>if isS l a2 [101,108,115,101]then jm (fun c=> .mk 20 [] [n,b,c]) (B (a2+1) o)else .ok (.mk 20 [] [n,b]) a2
def aq1(E B:Gr):Gr:=fun a o=>if nO l a then
  (if isS l (a+1) [61]then(match E (a+2) o with
   | .bad e p n a' o'=> .bad e p (.mk 21 (txt l a) [n,nd0,nd0]) a' (o'+1)
   | .ok n a'=>if isS l a' [46,46]then(match E (a'+1) o with
     | .bad e p n2 a2 o2=> .bad e p (.mk 21 (txt l a) [n,n2,nd0]) a2 (o2+1)
     | .ok n2 a2=>jm (fun b=> .mk 21 (txt l a) [n,n2,b]) (B a2 o))
    else .bad 4 a' (.mk 21 (txt l a) [n,nd0,nd0]) a' (o+1))
  else .bad 4 (a+1) (.mk 21 (txt l a) [nd0,nd0,nd0]) (a+1) (o+1))
 else .bad 4 a (.mk 21 [] [nd0,nd0,nd0]) a (o+1)
def stG(E B:Gr):Gr:=fun a o=>if isS l a [105,102]then ifG l E B (a+1) o
 else if isS l a [102,111,114]then aq1 l E B (a+1) o
 else if nO l a&&isS l (a+1) [61]then thenS l (jm (fun n=> .mk 18 (txt l a) [n]) (E (a+2) o)) o [59]
 else thenS l (jm (fun n=> .mk 19 [] [n]) (E a o)) o [59]
def agV:Nat->Gr
 |0=>fun a o=> .bad 4 a nd0 a o
 |n+1=>stG l (lev K l (l.length+1)).1 (apw K l (agV n))
end
theorem ab5{l:List Tok}{m:Nat}{S:Gr}(h:Adv 2 l m S):∀(f:Nat) (ks:List Nd) (a o:Nat),m<=a->a<=l.length->mQ (jr ks) 0 2 l a o (qP l S f ks a o)
 |0,ks,a,o,hm,ha=>mV zE
 |f+1,ks,a,o,hm,ha=>by
  unfold qP
  split
  ·rename_i hs;have:=dh hs;exact⟨by rw[fQ];omega,zE,zE⟩
  ·have h1:=h a o hm ha;cases hr:S a o with
   |bad e p n a' o'=>rw[hr]at h1;exact h1
   |ok n a'=>
    rw[hr]at h1;obtain⟨h1,h3,h2⟩:=h1;have hh:=ab5 h f (ks++[n]) a' o zE h2
    refine hh.mono (zq6 _) zE ?_
    rw[fC,bC,d9];omega
theorem ajr{K:Nat}{l:List Tok}{m:Nat}{S:Gr}(h:Adv 2 l (m+1) S):Adv 2 l m (apw K l S):=by
 intro a o hm ha;unfold apw
 split
 ·rename_i hs;have:=dh hs;have hh:=oh (K:=K) (g:=fun a o=>qP l S (l.length+1) [] a o) (a:=a+1) (o:=o) zE (ab5 h (l.length+1) [] (a+1) (o+1) zE zE)
  exact hh.mono (zq6 _) zE (by rw[d9];omega)
 ·exact⟨zE,zE⟩
theorem avk{l:List Tok}{m:Nat}{E B:Gr}(he:Adv 1 l m E)(hb:Adv 2 l m B){a o:Nat}(hm:m<=a)(ha:a<=l.length):mQ 1 0 2 l a o (ifG l E B a o):=by
 have h1:=he a o hm ha;unfold ifG;cases hr:E a o with
 |bad e p n a' o'=>rw[hr]at h1;exact⟨by have:=h1.1;omega,by have:=h1.2;omega⟩
 |ok n a'=>
  rw[hr]at h1;obtain⟨h1,h3,h2⟩:=h1;have h4:=hb a' o zE h2
  dsimp only
  cases hr2:B a' o with
  |bad e p n a' o'=>rw[hr2]at h4;exact h4
  |ok b a2=>
   rw[hr2]at h4;obtain⟨h4,h6,h5⟩:=h4
   dsimp only
   split
   ·rename_i hs;have:=dh hs;have hh:=jB (f:=fun c=>Nd.mk 20 [] [n,b,c]) (c':=0) (s':=1+cnt n+cnt b) (hb (a2+1) o zE zE) (fun k=>by rw[fQ,bC,bC,bC,d9];omega)
    exact hh.mono (zq6 _) zE zE
   ·exact⟨by rw[fQ,bC,bC,d9];omega,zE,h5⟩
theorem aqR{l:List Tok}{m:Nat}{E B:Gr}(he:Adv 1 l m E)(hb:Adv 2 l m B){a o:Nat}(hm:m<=a)(ha:a<=l.length):mQ 0 0 2 l a o (aq1 l E B a o):=by
 unfold aq1
 split
 ·split
  ·rename_i hs;have:=dh hs;have h1:=he (a+2) o zE zE
   cases hr:E (a+2) o with
   |bad e p n a' o'=>rw[hr]at h1;exact⟨by have:=h1.1;omega,by have:=h1.2;omega⟩
   |ok n a'=>
    rw[hr]at h1;obtain⟨h1,h3,h2⟩:=h1
    dsimp only
    split
    ·rename_i hs2;have:=dh hs2;have h4:=he (a'+1) o zE zE
     cases hr2:E (a'+1) o with
     |bad e p n a' o'=>rw[hr2]at h4;exact⟨by have:=h4.1;omega,by have:=h4.2;omega⟩
     |ok n2 a2=>
      rw[hr2]at h4;obtain⟨h4,h6,h5⟩:=h4;have hh:=jB (f:=fun b=>Nd.mk 21 (txt l a) [n,n2,b]) (c':=0) (s':=1+cnt n+cnt n2) (hb a2 o zE h5) (fun k=>by rw[fQ,bC,bC,bC,d9];omega)
      exact hh.mono (zq6 _) zE zE
    ·exact⟨zE,zE⟩
  ·exact⟨zE,zE⟩
 ·exact⟨zE,zE⟩
theorem au4{l:List Tok}{m:Nat}{E B:Gr}(he:Adv 1 l m E)(hb:Adv 2 l (m+1) B):Adv 2 l m (stG l E B):=by
 have he':Adv 1 l (m+1) E:=fun a o hm ha=>he a o zE ha
 intro a o hm ha;unfold stG
 split
 ·rename_i hs;have:=dh hs;exact(avk he' hb (o:=o) zE zE).mono (zq6 _) zE zE
 ·split
  ·rename_i hs;have:=dh hs;exact(aqR he' hb (o:=o) zE zE).mono (zq6 _) zE zE
  ·split
   ·rename_i hs;rw[zx4]at hs;have:=dh hs.2;have hh:=oN (t:=[59]) (jB (f:=fun n=>Nd.mk 18 (txt l a) [n]) (c':=0) (s':=1) (he (a+2) o zE zE) (fun k=>by rw[fQ,bC,d9];omega))
    exact hh.mono zE zE zE
   ·have hh:=oN (t:=[59]) (jB (f:=fun n=>Nd.mk 19 [] [n]) (c':=0) (s':=1) (he a o hm ha) (fun k=>by rw[fQ,bC,d9];omega))
    exact hh.mono zE zE zE
theorem wH(K:Nat)(l:List Tok):∀(n m:Nat),l.length+1<=m+n->Adv 2 l m (agV K l n)
 |0,m,h=>fun a o hm ha=>zE
 |n+1,m,h=>au4 (fun a o hm ha=>(aac K l (l.length+1) m zE).1 a o hm ha) (ajr fun a o hm ha=>wH K l n (m+1) zE a o zE ha)
def boS(l:List Tok)(S:Gr)(q:LiS):Res:=match q.b with
 |none=>qP l S q.f q.ks q.a q.o
 |some (e,p)=> .bad e p (.mk 22 [] q.ks) q.a q.o
theorem auG{l:List Tok}{m:Nat}{S:Gr}(hl:l.length<=1000000)(hs:GOK 162 l m S)(hA:Adv 2 l m S){a o:Nat}(hm:m<=a)(ha:a<=l.length)(ho:o<=600):
  CR rNd 389 [.ptr 81 0] [(81,PP)] l a o (qP l S (l.length+1) [] a o):=by
 generalize hR:qP l S (l.length+1) [] a o=R;refine CR.of ?_;refine aj.fq func389 results389 ntmps389 fun _ _ _ _ _=>?_
 refine zg ?_
 try(refine WP.aG ?_;refine zg ?_)
 refine W.loop (fun q:LiS=>boS l S q=R/\(q.b=none->q.o=o/\m<=q.a/\q.a<=l.length/\l.length < q.a+q.f/\q.ks.length<=q.a)) (fun _=>[(0,.ptr 81 0),(1,.ptr 1 0),(2,.ptr 2 0)]) (fun q=>[(29,PS l q.a q.o q.b),(81,PP),(1,NZ),(2,NG 22 100),(100,NR q.ks)]) (fun q=>match q.b with|none=>l.length+1 - q.a|some _=>0) ⟨[],a,o,none,l.length+1⟩ ⟨hR,fun _=>by dsimp only;exact⟨rfl,zE,zE,zE,zq8 _⟩⟩ (fun q hq=>?_)
  (by
   refine St.bV [(100,none)] (by intro b h;exact SX.dX h rfl) ?_ ?_ rfl
   ·exact ya
   ·exact⟨ay.same rfl rfl,ay.same rfl rfl,ay.same rfl rfl,ay.node rfl rfl (aD.nil rfl),ay.dZ rfl,trivial⟩)
 obtain⟨qk,qa,qo,qb,qf⟩:=q;obtain⟨hq1,hq2⟩:=hq
 dsimp only at hq1 hq2
 cases qb with
 |some b=>
  obtain⟨ee,p⟩:=b;show WP _ _ _ (fP [(0,.ptr 81 0),(1,.ptr 1 0),(2,.ptr 2 0)] [(29,PE l qa qo ee p),(81,PP),(1,NZ),(2,NG 22 100),(100,NR qk)]) _;refine zg ?_
  try(refine WP.aG ?_;refine zg ?_)
  subst hq1;refine aM.qR 100 (ps:=[29,81]) ?_;exact aU ak.bQ (bX rfl rfl rfl rfl) ⟨rfl,rfl,trivial⟩
 |none=>
  obtain⟨rfl,b1,b2,b3,b4⟩:=hq2 rfl;obtain⟨qf,rfl⟩:∃k,qf=k+1:=⟨qf - 1,zE⟩
  show WP _ _ _ (fP [(0,.ptr 81 0),(1,.ptr 1 0),(2,.ptr 2 0)] [(29,PG l qa qo),(81,PP),(1,NZ),(2,NG 22 100),(100,NR qk)]) _;have hq1:qP l S (qf+1) qk qa qo=R:=hq1;unfold qP at hq1;cases ht:isS l qa [125]with
  |true=>
   rw[if_pos ht]at hq1;have c3:=fB qo hl ht;refine zg ?_
   try(refine WP.aG ?_;refine zg ?_)
   subst hq1;refine aM.qR 100 (ps:=[29,81]) ?_;exact aU ak.bQ (bX rfl rfl rfl rfl) ⟨rfl,rfl,trivial⟩
  |false=>
   rw[if_neg (by rw[ht];decide)]at hq1
   have c3:=eH qo ht;have h3:=hs qa qo zE zE ho
   have h4:=hA qa qo zE zE
   cases hr2:S qa qo with
   |bad c p k a2 o2=>
    rw[hr2]at h3 hq1;have c4:=h3.bad;refine zg ?_
    try(refine WP.aG ?_;refine zg ?_)
    exact W.next ⟨qk++[k],a2,o2,some (c,p),0⟩ ⟨hq1,fun h=>by cases h⟩ (by dsimp only;omega)
     (by
      refine St.bV [(100,some 19)] (by intro b h;exact SX.dX h rfl) ?_ ?_ rfl
      ·exact ya
      ·exact⟨ay.eq rfl rfl rfl,ay.same rfl rfl,ay.same rfl rfl,ay.node rfl rfl (aD.own rfl),ay.row rfl rfl zp (cK (aI _).symm),trivial⟩)
   |ok k a2=>
    rw[hr2]at h3 hq1 h4;have c4:=h3.ok;obtain⟨j1,j2,j3⟩:=h4;have j4:=mK k;refine zg ?_
    try(refine WP.aG ?_;refine zg ?_)
    exact W.next ⟨qk++[k],a2,qo,none,qf⟩ ⟨hq1,fun h=>by dsimp only;exact⟨rfl,zE,zE,zE,by simp;omega⟩⟩ (by dsimp only;omega)
     (by
      refine St.bV [(100,some 19)] (by intro b h;exact SX.dX h rfl) ?_ ?_ rfl
      ·exact ya
      ·exact⟨ay.eq rfl rfl rfl,ay.same rfl rfl,ay.same rfl rfl,ay.node rfl rfl (aD.own rfl),ay.row rfl rfl zp (cK (aI _).symm),trivial⟩)
theorem g_blk{l:List Tok}{m:Nat}{S:Gr}(hl:l.length<=1000000)(hs:GOK 162 l (m+1) S)(hA:Adv 2 l (m+1) S):GOK 288 l m (apw 600 l S):=by
 intro a o hm ha ho;have nm1:Named 1 81:=⟨⟩;unfold apw;cases ht:isS l a [123]with
 |true=>
  rw[if_pos rfl];have c1:=kC o hl ht;have g5:=dh ht;have h1:=adZ (f:=389) (l:=l) (a:=a+1) (o:=o) (k:=fun a o=>qP l S (l.length+1) [] a o) ho (fun h=>⟨auG hl hs hA zE zE zE,(ab5 hA _ _ _ _ zE zE).open.mono zE⟩)
  cases hr:ins 600 (fun a o=>qP l S (l.length+1) [] a o) (a+1) o with
  |bad e p n a' o'=>
   rw[hr]at h1;have c3:=h1.bad;show aj _ _ _ _ _;refine aj.fq func288 results288 ntmps288 fun w0 T B E0 hB=>?_
   refine zg ?_
   try(refine WP.aG ?_;refine zg ?_)
   exact aU ak.bQ (zv _) ⟨rfl,trivial⟩
  |ok n a'=>
   rw[hr]at h1;have c3:=h1.ok;show aj _ _ _ _ _;refine aj.fq func288 results288 ntmps288 fun w0 T B E0 hB=>?_
   refine zg ?_
   try(refine WP.aG ?_;refine zg ?_)
   exact aU ak.bQ (zv _) ⟨rfl,trivial⟩
 |false=>
  rw[if_neg zc]
  have c1:=lJ o ht;have c2:=ant (f:=389) (l:=l) (a:=a) (o:=o) (e:=4) (p:=a) zE
  show aj _ _ _ _ _;refine aj.fq func288 results288 ntmps288 fun w0 T B E0 hB=>?_
  refine zg ?_
  try(refine WP.aG ?_;refine zg ?_)
  exact aU ak.bQ (zv _) ⟨rfl,trivial⟩
theorem yG(l:List Tok)(a:Nat){o:Nat}(e p:Nat)(ho:o<=1000000):aj prog 288 [.ptr 29 0] [(29,PE l a o e p)] ⟨rNd nd0,[(29,.ent (PE l a (o+1) e p))]⟩:=by
 have nm1:Named 1 81:=⟨⟩;have c1:=jH l a o e p [123];have c2:=ant (f:=389) (l:=l) (a:=a) (o:=o) (e:=e) (p:=p) ho;refine aj.fq func288 results288 ntmps288 fun _ _ _ _ _=>?_
 refine zg ?_
 try(refine WP.aG ?_;refine zg ?_)
 exact aU ak.bQ (zv _) ⟨rfl,trivial⟩
end
section
theorem g_if{l:List Tok}{m:Nat}{X S:Gr}(hl:l.length<=1000000)(hs:GOK 287 l m X)(hA:Adv 1 l m X)(hb:GOK 288 l m S)(bA:Adv 2 l m S){a o:Nat}(hm:m<=a+1)(ha:a<=l.length)(ho:o<=600)(hi:isS l a [105,102]=true):
  CR rNd 162 [.ptr 29 0] [] l a o (ifG l X S (a+1) o):=by
 have mark:uY 14:=⟨⟩;have g5:=dh hi;have k1:=fB o hl hi;have h1:=hs (a+1) o hm zE ho
 have h2:=hA (a+1) o hm zE
 unfold ifG;cases hr:X (a+1) o with
 |bad e p n a' o'=>
  rw[hr]at h1 h2;have k2:=h1.bad;obtain⟨j1,j2⟩:=h2;have k3:=yG l a' (o:=o') e p zE
  have k4:=eB l a' (o'+1) e p [101,108,115,101];show aj _ _ _ _ _;refine aj.fq func162 results162 ntmps162 fun w0 T B E0 hB=>?_
  refine zg ?_;refine aM.qR 21 (ps:=[29]) ?_;exact aU ak.bQ (bX rfl rfl rfl (by first|(simp only[zq7,zqd,aI,zqb,zqj];done)|(simp only[zq7,zqd,aI,zqb,zqj];rfl))) ⟨rfl,trivial⟩
 |ok n a'=>
  rw[hr]at h1 h2;have k2:=h1.ok;obtain⟨j1,j2,j3⟩:=h2;have h3:=hb a' o zE j3 ho
  have h4:=bA a' o zE j3
  dsimp only
  cases hr2:S a' o with
  |bad e p b a2 o2=>
   rw[hr2]at h3;have k3:=h3.bad;have k4:=eB l a2 o2 e p [101,108,115,101];show aj _ _ _ _ _;refine aj.fq func162 results162 ntmps162 fun w0 T B E0 hB=>?_
   refine zg ?_;refine aM.qR 21 (ps:=[29]) ?_;exact aU ak.bQ (bX rfl rfl rfl (by first|(simp only[zq7,zqd,aI,zqb,zqj];done)|(simp only[zq7,zqd,aI,zqb,zqj];rfl))) ⟨rfl,trivial⟩
  |ok b a2=>
   rw[hr2]at h3 h4;have k3:=h3.ok;obtain⟨i1,i2,i3⟩:=h4
   dsimp only
   cases ht:isS l a2 [101,108,115,101]with
   |false=>
    rw[if_neg zc]
    have k4:=eH o ht;show aj _ _ _ _ _;refine aj.fq func162 results162 ntmps162 fun w0 T B E0 hB=>?_
    refine zg ?_;refine aM.qR 21 (ps:=[29]) ?_;exact aU ak.bQ (bX rfl rfl rfl (by first|(simp only[zq7,zqd,aI,zqb,zqj];done)|(simp only[zq7,zqd,aI,zqb,zqj];rfl))) ⟨rfl,trivial⟩
   |true=>
    rw[if_pos rfl];have k4:=fB o hl ht;have g6:=dh ht;have h5:=hb (a2+1) o zE zE ho
    cases hr3:S (a2+1) o with
    |bad e p c a3 o3=>
     rw[hr3]at h5;have k5:=h5.bad;show aj _ _ _ _ _;refine aj.fq func162 results162 ntmps162 fun w0 T B E0 hB=>?_
     refine zg ?_;refine aM.qR 30 (ps:=[29]) ?_;exact aU ak.bQ (bX rfl rfl rfl (by first|(simp only[zq7,zqd,aI,zqb,zqj];done)|(simp only[zq7,zqd,aI,zqb,zqj];rfl))) ⟨rfl,trivial⟩
    |ok c a3=>
     rw[hr3]at h5;have k5:=h5.ok;show aj _ _ _ _ _;refine aj.fq func162 results162 ntmps162 fun w0 T B E0 hB=>?_
     refine zg ?_;refine aM.qR 30 (ps:=[29]) ?_;exact aU ak.bQ (bX rfl rfl rfl (by first|(simp only[zq7,zqd,aI,zqb,zqj];done)|(simp only[zq7,zqd,aI,zqb,zqj];rfl))) ⟨rfl,trivial⟩
theorem g_for{l:List Tok}{m:Nat}{X S:Gr}(hl:l.length<=1000000)(hs:GOK 287 l m X)(hA:Adv 1 l m X)(hb:GOK 288 l m S){a o:Nat}(hm:m<=a+1)(ha:a<=l.length)(ho:o<=600)(hf:isS l a [105,102]=false)(hi:isS l a [102,111,114]=true):
  CR rNd 162 [.ptr 29 0] [] l a o (aq1 l X S (a+1) o):=by
 have g5:=dh hi;have k0:=eH o hf;have k1:=fB o hl hi;unfold aq1;cases hn:nO l (a+1)with
 |false=>
  rw[if_neg zc]
  have k2:=ar4 o hn;have k3:=jH l (a+1) o 4 (a+1) [61];have k4:=aam (l:=l) (a+1) o 4 (a+1);have k5:=jH l (a+1) o 4 (a+1) [46,46];have k6:=yG l (a+1) (o:=o) 4 (a+1) zE
  show aj _ _ _ _ _;refine aj.fq func162 results162 ntmps162 fun w0 T B E0 hB=>?_
  refine zg ?_;exact aU ak.bQ (bX rfl rfl rfl (by first|(simp only[zq7,zqd,aI,zqb,zqj];done)|(simp only[zq7,zqd,aI,zqb,zqj];rfl))) ⟨rfl,trivial⟩
 |true=>
  rw[if_pos rfl];have k2:=ajL o hl hn;have g6:=adv hn;cases ht:isS l (a+1+1) [61]with
  |false=>
   rw[if_neg zc]
   have k3:=lJ o ht;have k4:=aam (l:=l) (a+1+1) o 4 (a+1+1);have k5:=jH l (a+1+1) o 4 (a+1+1) [46,46];have k6:=yG l (a+1+1) (o:=o) 4 (a+1+1) zE
   show aj _ _ _ _ _;refine aj.fq func162 results162 ntmps162 fun w0 T B E0 hB=>?_
   refine zg ?_;exact aU ak.bQ (bX rfl rfl rfl (by first|(simp only[zq7,zqd,aI,zqb,zqj];done)|(simp only[zq7,zqd,aI,zqb,zqj];rfl))) ⟨rfl,trivial⟩
  |true=>
   rw[if_pos rfl];have k3:=kC o hl ht;have g7:=dh ht;have h1:=hs (a+1+2) o zE zE ho
   have h2:=hA (a+1+2) o zE zE
   cases hr:X (a+1+2) o with
   |bad e p n a' o'=>
    rw[hr]at h1 h2;have k4:=h1.bad;obtain⟨j1,j2⟩:=h2;have k5:=jH l a' o' e p [46,46];have k6:=aam (l:=l) a' o' e p;have k7:=yG l a' (o:=o') e p zE
    show aj _ _ _ _ _;refine aj.fq func162 results162 ntmps162 fun w0 T B E0 hB=>?_
    refine zg ?_;exact aU ak.bQ (bX rfl rfl rfl (by first|(simp only[zq7,zqd,aI,zqb,zqj];done)|(simp only[zq7,zqd,aI,zqb,zqj];rfl))) ⟨rfl,trivial⟩
   |ok n a'=>
    rw[hr]at h1 h2;have k4:=h1.ok;obtain⟨j1,j2,j3⟩:=h2
    dsimp only
    cases ht2:isS l a' [46,46]with
    |false=>
     rw[if_neg zc]
     have k5:=lJ o ht2;have k6:=aam (l:=l) a' o 4 a';have k7:=yG l a' (o:=o) 4 a' zE
     show aj _ _ _ _ _;refine aj.fq func162 results162 ntmps162 fun w0 T B E0 hB=>?_
     refine zg ?_;exact aU ak.bQ (bX rfl rfl rfl (by first|(simp only[zq7,zqd,aI,zqb,zqj];done)|(simp only[zq7,zqd,aI,zqb,zqj];rfl))) ⟨rfl,trivial⟩
    |true=>
     rw[if_pos rfl];have k5:=kC o hl ht2;have g8:=dh ht2;have h3:=hs (a'+1) o zE zE ho
     have h4:=hA (a'+1) o zE zE
     cases hr2:X (a'+1) o with
     |bad e p n2 a2 o2=>
      rw[hr2]at h3 h4;have k6:=h3.bad;obtain⟨j1,j2⟩:=h4;have k7:=yG l a2 (o:=o2) e p zE
      show aj _ _ _ _ _;refine aj.fq func162 results162 ntmps162 fun w0 T B E0 hB=>?_
      refine zg ?_;exact aU ak.bQ (bX rfl rfl rfl (by first|(simp only[zq7,zqd,aI,zqb,zqj];done)|(simp only[zq7,zqd,aI,zqb,zqj];rfl))) ⟨rfl,trivial⟩
     |ok n2 a2=>
      rw[hr2]at h3 h4;have k6:=h3.ok;obtain⟨i1,i2,i3⟩:=h4
      dsimp only
      have h5:=hb a2 o zE i3 ho
      cases hr3:S a2 o with
      |bad e p c a3 o3=>
       rw[hr3]at h5;have k7:=h5.bad;show aj _ _ _ _ _;refine aj.fq func162 results162 ntmps162 fun w0 T B E0 hB=>?_
       refine zg ?_;exact aU ak.bQ (bX rfl rfl rfl (by first|(simp only[zq7,zqd,aI,zqb,zqj];done)|(simp only[zq7,zqd,aI,zqb,zqj];rfl))) ⟨rfl,trivial⟩
      |ok c a3=>
       rw[hr3]at h5;have k7:=h5.ok;show aj _ _ _ _ _;refine aj.fq func162 results162 ntmps162 fun w0 T B E0 hB=>?_
       refine zg ?_;exact aU ak.bQ (bX rfl rfl rfl (by first|(simp only[zq7,zqd,aI,zqb,zqj];done)|(simp only[zq7,zqd,aI,zqb,zqj];rfl))) ⟨rfl,trivial⟩
def HT(l:List Tok):Prop:=∀(i:Nat) (t:Tok),l[i]? =some t->t.text=[61]->t.kind≠1
theorem anz{l:List Tok}(hT:HT l){a:Nat}{t:Tok}(ht:l[a]? =some t):isS l a [61]=decide (t.text=[61]):=by
 unfold isS;rw[ht]
 dsimp only
 by_cases h:t.text=[61]
 ·simp[h,hT a t ht h]
 ·simp[h]
theorem g_let{l:List Tok}{m:Nat}{X:Gr}(hl:l.length<=1000000)(hT:HT l)(hs:GOK 287 l m X)(hA:Adv 1 l m X){a o:Nat}(hm:m<=a+2)(ha:a<=l.length)(ho:o<=600)(hf:isS l a [105,102]=false)(hi:isS l a [102,111,114]=false)(hn:nO l a=true)(he:isS l (a+1) [61]=true):
  CR rNd 162 [.ptr 29 0] [] l a o (thenS l (jm (fun n=> .mk 18 (txt l a) [n]) (X (a+2) o)) o [59]):=by
 have k0:=eH o hf;have k1:=eH o hi;have k2:=rA l a o;rw[hn]at k2;have k3:=ajL o hl hn;have k4:=kC o hl he;have g5:=dh he;obtain⟨⟨tk,tt,tp⟩,ht⟩:∃t,l[a+1]? =some t:=⟨_,zyh g5⟩
 rw[anz hT ht]at he
 dsimp only at he
 have h1:=hs (a+2) o zE zE ho
 cases hr:X (a+2) o with
 |bad e p n a' o'=>
  rw[hr]at h1;have k5:=h1.bad;have k6:=jH l a' o' e p [59];show aj _ _ _ _ _;refine aj.fq func162 results162 ntmps162 fun w0 T B E0 hB=>?_
  refine zg ?_;exact aU ak.bQ (bX rfl rfl rfl (by first|(simp only[zq7,zqd,aI,zqb,zqj];done)|(simp only[zq7,zqd,aI,zqb,zqj];rfl))) ⟨rfl,trivial⟩
 |ok n a'=>
  rw[hr]at h1;have k5:=h1.ok;unfold thenS jm
  dsimp only
  cases ht2:isS l a' [59]with
  |true=>
   rw[if_pos rfl];have k6:=kC o hl ht2;show aj _ _ _ _ _;refine aj.fq func162 results162 ntmps162 fun w0 T B E0 hB=>?_
   refine zg ?_;exact aU ak.bQ (bX rfl rfl rfl (by first|(simp only[zq7,zqd,aI,zqb,zqj];done)|(simp only[zq7,zqd,aI,zqb,zqj];rfl))) ⟨rfl,trivial⟩
  |false=>
   rw[if_neg zc]
   have k6:=lJ o ht2;show aj _ _ _ _ _;refine aj.fq func162 results162 ntmps162 fun w0 T B E0 hB=>?_
   refine zg ?_;exact aU ak.bQ (bX rfl rfl rfl (by first|(simp only[zq7,zqd,aI,zqb,zqj];done)|(simp only[zq7,zqd,aI,zqb,zqj];rfl))) ⟨rfl,trivial⟩
theorem auC{l:List Tok}{m:Nat}{X:Gr}(hl:l.length<=1000000)(hT:HT l)(hs:GOK 287 l m X){a o:Nat}(hm:m<=a)(ha:a<=l.length)(ho:o<=600)(hf:isS l a [105,102]=false)(hi:isS l a [102,111,114]=false)(hn:(nO l a&&isS l (a+1) [61])=false):
  CR rNd 162 [.ptr 29 0] [] l a o (thenS l (jm (fun n=> .mk 19 [] [n]) (X a o)) o [59]):=by
 have k0:=eH o hf;have k1:=eH o hi;have k2:=rA l a o;have h1:=hs a o hm ha ho
 -- what is behind,whatever it be
 have key:∀{n a' o'} {b:Option (Nat×Nat)},aj prog 287 [.ptr 29 0] [(29,PG l a o)] ⟨rNd n,[(29,.ent (PS l a' o' b))]⟩->∀{a2 o2 b2},aj prog 290 [.ptr 29 0,.v (str [59])] [(29,PS l a' o' b)] ⟨.tup [],[(29,.ent (PS l a2 o2 b2))]⟩->
   aj prog 162 [.ptr 29 0] [(29,PG l a o)] ⟨rNd (.mk 19 [] [n]),[(29,.ent (PS l a2 o2 b2))]⟩:=by
  intro n a' o' b k5 a2 o2 b2 k6;cases hn1:nO l a with
  |false=>
   rw[hn1]at k2;show aj _ _ _ _ _;refine aj.fq func162 results162 ntmps162 fun w0 T B E0 hB=>?_
   refine zg ?_;exact aU ak.bQ (bX rfl rfl rfl (by first|(simp only[zq7,zqd,aI,zqb,zqj];done)|(simp only[zq7,zqd,aI,zqb,zqj];rfl))) ⟨rfl,trivial⟩
  |true=>
   rw[hn1]at k2 hn;have he:isS l (a+1) [61]=false:=by simpa using hn
   by_cases hlt:a+1 < l.length
   ·obtain⟨⟨tk,tt,tp⟩,ht⟩:∃t,l[a+1]? =some t:=⟨_,zyh hlt⟩
    rw[anz hT ht]at he
    dsimp only at he
    show aj _ _ _ _ _;refine aj.fq func162 results162 ntmps162 fun w0 T B E0 hB=>?_
    refine zg ?_;exact aU ak.bQ (bX rfl rfl rfl (by first|(simp only[zq7,zqd,aI,zqb,zqj];done)|(simp only[zq7,zqd,aI,zqb,zqj];rfl))) ⟨rfl,trivial⟩
   ·have g6:=adv hn1;show aj _ _ _ _ _;refine aj.fq func162 results162 ntmps162 fun w0 T B E0 hB=>?_
    refine zg ?_;exact aU ak.bQ (bX rfl rfl rfl (by first|(simp only[zq7,zqd,aI,zqb,zqj];done)|(simp only[zq7,zqd,aI,zqb,zqj];rfl))) ⟨rfl,trivial⟩
 cases hr:X a o with
 |bad e p n a' o'=>
  rw[hr]at h1;exact key (b:=some (e,p)) h1.bad (b2:=some (e,p)) (jH l a' o' e p [59])
 |ok n a'=>
  rw[hr]at h1;unfold thenS jm
  dsimp only
  cases ht2:isS l a' [59]with
  |true=>
   rw[if_pos rfl];exact key (b:=none) h1.ok (b2:=none) (kC o hl ht2)
  |false=>
   rw[if_neg zc]
   exact key (b:=none) h1.ok (b2:=some (4,a')) (lJ o ht2)
theorem g_st{l:List Tok}{m:Nat}{X S:Gr}(hl:l.length<=1000000)(hT:HT l)(hs:GOK 287 l m X)(hA:Adv 1 l m X)(hb:GOK 288 l (m+1) S)(bA:Adv 2 l (m+1) S):GOK 162 l m (stG l X S):=by
 intro a o hm ha ho;have hs':GOK 287 l (m+1) X:=fun a o hm ha=>hs a o zE ha
 have hA':Adv 1 l (m+1) X:=fun a o hm ha=>hA a o zE ha
 unfold stG;cases h1:isS l a [105,102]with
 |true=>exact g_if hl hs' hA' hb bA zE ha ho h1
 |false=>
  cases h2:isS l a [102,111,114]with
  |true=>exact g_for hl hs' hA' hb zE ha ho h1 h2
  |false=>
   cases h3:nO l a&&isS l (a+1) [61]with
   |true=>
    have h4:=h3;rw[zx4]at h4;exact g_let hl hT hs' hA' zE ha ho h1 h2 h4.1 h4.2
   |false=>exact auC hl hT hs hm ha ho h1 h2 h3
theorem aoI{l:List Tok}(hl:l.length<=1000000)(hT:HT l):∀(n m:Nat),l.length+1<=m+n->GOK 162 l m (agV 600 l n)
 |0,m,h=>fun a o hm ha=>zE
 |n+1,m,h=>g_st hl hT (fun a o hm ha ho=>(ati hl (l.length+1) m zE).1 a o hm ha ho) (fun a o hm ha=>(aac 600 l (l.length+1) m zE).1 a o hm ha) (g_blk hl (fun a o hm ha ho=>aoI hl hT n (m+1) zE a o zE ha ho) (fun a o hm ha=>wH 600 l n (m+1) zE a o zE ha)) (ajr fun a o hm ha=>wH 600 l n (m+1) zE a o zE ha)
end
section
section
theorem auX(n:Nd):cnt n=1+jr n.kids:=by cases n;rw[fQ];rfl
theorem xV:∀L:List Nd,jr (L.flatMap Nd.kids)+L.length=jr L
 |[]=>by simp[d9]
 |k::ks=>by rw[zq7,fC,bC,auX,zx6,<-xV ks];omega
theorem ali(L:List Nd)(j:Nat):jr ((L.take j).flatMap Nd.kids)<=jr L:=by
 have h1:=xV (L.take j);have h2:jr (L.take j++L.drop j)=jr L:=by rw[zv5]
 rw[fC]at h2;omega
theorem afP(L:List Nd)(j:Nat):((L.take j).flatMap Nd.kids).length<=jr L:=zxf (vN _) (ali L j)
theorem acE{L:List Nd}{j:Nat}{n:Nd}(h:L[j]? =some n):(L.take (j+1)).flatMap Nd.kids=(L.take j).flatMap Nd.kids++n.kids:=by
 rw[zw7,h];simp
mutual
def dep:Nd->Nat
 | .mk _ _ ks=>if ks.isEmpty then 0 else 1+kY ks
def kY:List Nd->Nat
 |[]=>0
 |k::ks=>max (dep k) (kY ks)
end
theorem mg:kY []=0:=by rw[kY]
theorem kT(k:Nd)(ks:List Nd):kY (k::ks)=max (dep k) (kY ks):=by rw[kY]
theorem ab0(n:Nd):dep n=if n.kids.isEmpty then 0 else 1+kY n.kids:=by cases n;rw[dep];rfl
theorem zm:∀ks ms:List Nd,kY (ks++ms)=max (kY ks) (kY ms)
 |[],ms=>by simp[mg]
 |k::ks,ms=>by rw[List.cons_append,kT,kT,zm ks ms];omega
theorem acg:∀L:List Nd,kY L=if L.flatMap Nd.kids=[]then 0 else 1+kY (L.flatMap Nd.kids)
 |[]=>by simp[mg]
 |k::ks=>by
  rw[kT,ab0,acg ks,zq7,zm];cases hk:k.kids with
  |nil=>simp[mg]
  |cons a b=>
   by_cases h:ks.flatMap Nd.kids=[]
   ·simp[h,mg]
   ·simp[h,Nat.add_max_add_left]
theorem adz:∀L:List Nd,kY L<=jr L
 |[]=>by simp[mg]
 | .mk o t ks::ms=>by
  have h1:=adz ks;have h2:=adz ms;rw[kT,bC,fQ,dep]
  split <;> omega
def ndE(n:Nd):List CA:=caN n
instance:eY ndE 3:=⟨fun n=>rfl⟩
theorem ai9(l:List Nd):AV.r (aB 3 ndC l)=AV.r (aB 3 ndE l):=by rw[show ndC=ndE from funext aI]
structure DeS where
 n:Nat
 L:List Nd
 out:Nat
instance avx(l:List Nd):Con prog 163 [.r (aB 3 ndC l)] (jr l<=1000000000) (.v (.int .i64 (kY l:Int))):=⟨fun hl=>by
 have hd:=adz l;have hrow:=ai9 l;refine ah.fq func163 results163 ntmps163 fun _ _ _ _ hB=>?_
 refine zg ?_;refine W.loop (fun q:DeS=>(q.L≠[]->kY l=q.n+kY q.L)/\(q.L=[]->kY l=q.out)/\jr q.L+q.n<=jr l/\q.out<=q.n) (fun q=>[(3,.r (aB 3 ndE q.L)),(4,.v (.int .i64 (q.out:Int))),(5,.v (.int .i64 (q.n:Int)))]) (fun _=>[]) (fun q=>jr q.L) ⟨0,l,0⟩ ⟨fun _=>by dsimp only;omega,fun h=>by dsimp only at*;subst h;exact mg,by dsimp only;omega,zq6 _⟩ (fun q hq=>?_)
 obtain⟨n,L,out⟩:=q
 dsimp only at hq
 obtain⟨h1,h2,h3,h4⟩:=hq;show WP _ _ _ (fP [(3,.r (aB 3 ndE L)),(4,.v (.int .i64 (out:Int))),(5,.v (.int .i64 (n:Int)))] []) _;have hlen:=vN L;refine zg ?_;refine W.nZ (fun(j:Nat) (M:List Nd)=>j<=L.length/\M=(L.take j).flatMap Nd.kids) (fun j M=>[(3,.r (aB 3 ndE L)),(4,.v (.int .i64 (out:Int))),(5,.v (.int .i64 (n:Int))),(6,.own 100),(12,.r (aB 3 ndE L)),(13,.v (.int .i64 (L.length:Int))),(14,.v (.int .i64 (j:Int)))]) (fun j M=>[(100,NR M)]) (fun j _=>L.length - j) 0 [] ⟨zq8 _,rfl⟩ (fun j M ⟨hj,hM⟩=>?_)
 have hm:=afP L j;rw[<-hM]at hm;by_cases hlt:j < L.length
 ·obtain⟨k,hk⟩:∃k,L[j]? =some k:=⟨_,zyh hlt⟩
  have hm2:=afP L (j+1);rw[acE hk,<-hM,zqi]at hm2;refine zg ?_;exact W.nM (j+1) (M++k.kids) ⟨zE,by rw[hM,acE hk]⟩ zE
   (by
    refine St.bV [(100,some 21)] zt ?_ ?_ rfl
    ·exact yb
    ·exact⟨ay.row rfl rfl zp zp,trivial⟩)
 ·have hrow2:=ai9 M;refine WP.freeze 100 hB rfl ?_;have hj:L.take j=L:=zxc zE
  rw[hj]at hM;have hdf:=acg L;have hcf:=xV L;rw[<-hM]at hdf hcf;by_cases h0:L.length=0
  ·have hL:=zx5 h0;refine zg ?_;exact iw (by rw[h2 hL])
  ·have hL:L≠[]:=fun e=>h0 (by rw[e];rfl)
   refine zg ?_;exact W.next ⟨n+1,M,n⟩ ⟨fun h=>by dsimp only at*;rw[if_neg h]at hdf;have:=h1 hL;omega,fun h=>by dsimp only at*;rw[if_pos h]at hdf;have:=h1 hL;omega,by dsimp only;omega,by dsimp only;omega⟩ (by dsimp only;omega)
    (St.bV [] zt ⟨⟨_,rfl,aH.eq hrow2 rfl⟩,⟨_,rfl,aH.same rfl⟩,⟨_,rfl,aH.same rfl⟩,trivial⟩ trivial rfl)⟩
structure CoS where
 L:List Nd
 c:Nat
end
section
def vM(l:List Tok)(S:Gr):Nat->List Nd->Gr
 |0,_=>fun a o=> .bad 4 a nd0 a o
 |f+1,ks=>fun a o=>if a < l.length then(match S a o with
  | .bad e p n a' o'=> .bad e p (.mk 0 [] (ks++[n])) a' o'
  | .ok n a'=>vM l S f (ks++[n]) a' o)
  else .ok (.mk 0 [] ks) a
def afO(l:List Tok):Res:=vM l (agV 600 l (l.length+1)) (l.length+1) [] 0 0
def akS(ks:List Nd)(d:Int):List Nd×Nat×Nat:=if d < (kY ks:Int)then([],0,8)else(ks,0,0)
def uP(l:List Tok)(d:Int):List Nd×Nat×Nat:=
 if d < 0\/200 < d then([],0,1)else
 if l.all jc then(match afO l with
  | .bad e p _ _ _=>([],p,e)
  | .ok n _=>akS n.kids d)
 else([],0,1)
abbrev tupP(r:List Nd×Nat×Nat):AV:= .tup [.one (.c (.sat (aB 3 ndC r.1))),.one (.c (.val (.int .i64 (r.2.1:Int)))),.one (.c (.val (.int .i64 (r.2.2:Int))))]
theorem ar7{t:Tok}(h:jc t=true)(ht:t.text=[61]):t.kind≠1:=by
 intro hk;have hs:srt 61=5:=by unfold srt;decide
 have hn:num [61]=false:=by unfold num dgL;simp[hs]
 unfold jc at h;rw[if_pos hk,ht,hn]at h;cases h
theorem ht_of{l:List Tok}(h:l.all jc=true):HT l:=fun i t ht he=>ar7 (zqh.1 h t (zq4 ht)) he
def prS(l:List Tok)(S:Gr)(q:LiS):Res:=match q.b with
 |none=>vM l S q.f q.ks q.a q.o
 |some (e,p)=> .bad e p (.mk 0 [] q.ks) q.a q.o
theorem asi(l:List Tok)(d:Int)(hl:l.length<=1000000)(ht:∀t∈l,t.text.length<=9223372036854775807):ah prog 77 [.r (aB 3 aaP l),.v (.int .i64 d)] (tupP (uP l d)):=by
 unfold uP;by_cases hd:d < 0\/200 < d
 ·rw[if_pos hd];by_cases h0:d < 0
  ·refine ah.fq func77 results77 ntmps77 fun w0 T B E0 hB=>?_
   refine zg ?_;refine uz (ak.tmp rfl) (ak.tmp rfl) (ak.tmp rfl) imp_nil (zv _) (zv _)
  ·refine ah.fq func77 results77 ntmps77 fun w0 T B E0 hB=>?_
   refine zg ?_;refine uz (ak.tmp rfl) (ak.tmp rfl) (ak.tmp rfl) imp_nil (zv _) (zv _)
 ·rw[if_neg hd];generalize hV:(if l.all jc then(match afO l with
   | .bad e p _ _ _=>(([],p,e):List Nd×Nat×Nat)
   | .ok n _=>akS n.kids d)else([],0,1))=V
  refine ah.fq func77 results77 ntmps77 fun w0 T B E0 hB=>?_
  refine zg ?_;refine W.loop (fun k:Nat=>k<=l.length/\∀i t,i < k->l[i]? =some t->jc t=true) (fun k=>[(0,.r (aB 3 aaP l)),(1,.v (.int .i64 d)),(17,.r (aB 3 aaP l)),(18,.v (.int .i64 (l.length:Int))),(19,.v (.int .i64 (k:Int)))]) (fun _=>[]) (fun k=>l.length - k) 0 ⟨zq8 _,fun i t h=>zE⟩ (fun k ⟨hk,hT⟩=>?_)
  by_cases hlt:k < l.length
  ·obtain⟨⟨tk,tt,tp⟩,htk⟩:∃t,l[k]? =some t:=⟨_,zyh hlt⟩
   have htt:tt.length<=9223372036854775807:=ht _ (zq4 htk);have cI:ah prog 161 [.agg (tokA ⟨tk,tt,tp⟩)] (.v (.bool (jc ⟨tk,tt,tp⟩))):=(au2 ⟨tk,tt,tp⟩).h htt;cases hi:jc ⟨tk,tt,tp⟩with
   |false=>
    rw[hi]at cI;have hall:l.all jc=false:=by
     rw[List.all_eq_false];exact⟨_,zq4 htk,by rw[hi];decide⟩
    rw[hall,if_neg zc]at hV
    refine zg ?_;subst hV;refine uz (ak.tmp rfl) (ak.tmp rfl) (ak.tmp rfl) imp_nil (zv _) (zv _)
   |true=>
    rw[hi]at cI;refine zg ?_;refine W.next (k+1) ⟨zE,fun i t h1 h2=>?_⟩ zE
    by_cases e:i=k
    ·subst e;rw[htk]at h2;cases h2;exact hi
    ·exact hT i t zE h2
  ·have hall:l.all jc=true:=by
    rw[zqh];intro t htm;obtain⟨i,hi⟩:=List.getElem?_of_mem htm
    exact hT i t (by have:=(zxg.1 hi).1;omega) hi
   rw[hall,if_pos rfl]at hV;have gs:=aoI hl (ht_of hall) (l.length+1) 0 zE
   have ga:=wH 600 l (l.length+1) 0 zE
   unfold afO at hV;generalize agV 600 l (l.length+1)=S at hV gs ga;generalize hR:vM l S (l.length+1) [] 0 0=R at hV;refine zg ?_;refine W.loop (fun q:LiS=>prS l S q=R/\(q.b=none->q.o=0/\q.a<=l.length/\l.length < q.a+q.f/\jr q.ks<=q.a)) (fun _=>[(0,.r (aB 3 aaP l)),(1,.v (.int .i64 d)),(9,.ptr 29 0),(10,.own 100)]) (fun q=>[(29,PS l q.a q.o q.b),(100,NR q.ks)]) (fun q=>match q.b with|none=>l.length+1 - q.a|some _=>0) ⟨[],0,0,none,l.length+1⟩ ⟨hR,fun _=>by dsimp only;exact⟨rfl,zE,zE,by rw[d9];omega⟩⟩ (fun q hq=>?_)
    (by
     refine St.bV [(100,none)] zt ?_ ?_ rfl
     ·exact yf
     ·exact⟨ay.eq rfl rfl rfl,ay.dZ rfl,trivial⟩)
   obtain⟨qk,qa,qo,qb,qf⟩:=q;obtain⟨hq1,hq2⟩:=hq
   dsimp only at hq1 hq2
   cases qb with
   |some b=>
    obtain⟨ee,p⟩:=b;show WP _ _ _ (fP [(0,.r (aB 3 aaP l)),(1,.v (.int .i64 d)),(9,.ptr 29 0),(10,.own 100)] [(29,PE l qa qo ee p),(100,NR qk)]) _;refine zg ?_;subst hq1;subst hV;refine uz (ak.tmp rfl) (ak.tmp rfl) (ak.tmp rfl) imp_nil (zv _) (zv _)
   |none=>
    obtain⟨rfl,b2,b3,b4⟩:=hq2 rfl;obtain⟨qf,rfl⟩:∃k,qf=k+1:=⟨qf - 1,zE⟩
    show WP _ _ _ (fP [(0,.r (aB 3 aaP l)),(1,.v (.int .i64 d)),(9,.ptr 29 0),(10,.own 100)] [(29,PG l qa 0),(100,NR qk)]) _;have hq1:vM l S (qf+1) qk qa 0=R:=hq1;unfold vM at hq1;have hlk:=vN qk;by_cases hlt2:qa < l.length
    ·rw[if_pos hlt2]at hq1;have h3:=gs qa 0 zE zE zE
     have h4:=ga qa 0 zE zE
     cases hr2:S qa 0 with
     |bad c p k a2 o2=>
      rw[hr2]at h3 hq1;have c4:=h3.bad;refine zg ?_;exact W.next ⟨qk++[k],a2,o2,some (c,p),0⟩ ⟨hq1,fun h=>by cases h⟩ (by dsimp only;omega)
       (by
        refine St.bV [(100,some 48)] zt ?_ ?_ rfl
        ·exact yb
        ·exact⟨ay.eq rfl rfl rfl,ay.row rfl rfl zp (cK (aI _).symm),trivial⟩)
     |ok k a2=>
      rw[hr2]at h3 hq1 h4;have c4:=h3.ok;obtain⟨j1,j2,j3⟩:=h4;have j4:=mK k;refine zg ?_;exact W.next ⟨qk++[k],a2,0,none,qf⟩ ⟨hq1,fun h=>by dsimp only;exact⟨rfl,zE,zE,by rw[fC,bC,d9];omega⟩⟩ (by dsimp only;omega)
       (by
        refine St.bV [(100,some 48)] zt ?_ ?_ rfl
        ·exact yb
        ·exact⟨ay.eq rfl rfl rfl,ay.row rfl rfl zp (cK (aI _).symm),trivial⟩)
    ·rw[if_neg hlt2]at hq1;have cD:ah prog 163 [.r (aB 3 ndC qk)] (.v (.int .i64 (kY qk:Int))):=Con.use zE
     refine WP.freeze 100 hB rfl ?_;subst hq1;have hV:akS qk d=V:=hV;unfold akS at hV;by_cases hdd:d < (kY qk:Int)
     ·rw[if_pos hdd]at hV;refine zg ?_;subst hV;refine uz (ak.tmp rfl) (ak.tmp rfl) (ak.tmp rfl) imp_nil (zv _) (zv _)
     ·rw[if_neg hdd]at hV;refine zg ?_;subst hV;refine uz (ak.tmp rfl) (ak.tmp rfl) (ak.tmp rfl) (zv _) (zv _) (zv _)
end
end
section
abbrev tupQ(x:List Nd)(p e:Nat):AV:= .tup [.one (.c (.sat (aB 3 ndC x))),.one (.c (.val (.int .i64 (p:Int)))),.one (.c (.val (.int .i64 (e:Int))))]
theorem ahn{l:List Tok}{d:Int}{x:List Nd}{p e:Nat}(hl:l.length<=1000000)(ht:∀t∈l,t.text.length<=9223372036854775807)(h:uP l d=(x,p,e)):ah prog 77 [.r (aB 3 aaP l),.v (.int .i64 d)] (tupQ x p e):=by
 have:=asi l d hl ht;rw[h]at this;exact this
end
section
abbrev Wrd:=Int×List UInt8
abbrev sg(s:List UInt8):Wrd:=(3,s)
def kt(t:Tok):Wrd:=(t.kind,t.text)
def abq(s:Wrd):List (List Wrd)->List Wrd
 |[]=>[]
 |[x]=>x
 |x::y::r=>x++s::abq s (y::r)
def tx(k:Int)(t:List UInt8):Bool:=jc ⟨k,t,0⟩&&!ownB t
def manyB(o:Int)(n:Nat):Bool:=if o=13\/o=16 then true else if o=17 then decide (n=2\/n=3)else if o=3 then decide (n=1)else decide (4<=o/\o<=12)&&decide (n=2)
mutual
def okE:Nd->Bool
 | .mk o t ks=>if o=1\/o=2 then tx o t&&ks.isEmpty
   else if o=14 then decide (t=[])&&(!ks.isEmpty&&okRL ks)
   else manyB o ks.length&&(if o=13 then tx 2 t else decide (t=[]))&&okEL ks
def okEL:List Nd->Bool
 |[]=>true
 |k::ks=>okE k&&okEL ks
def okR:Nd->Bool
 | .mk o t ks=>decide (o=15)&&decide (t=[])&&!ks.isEmpty&&okEL ks
def okRL:List Nd->Bool
 |[]=>true
 |k::ks=>okR k&&okRL ks
end
def rst(l:List Tok)(a:Nat):List Wrd:=(l.map kt).drop a
def hS(r:List Wrd)(s:List UInt8):Bool:=match r with
 |[]=>false
 |w::_=>!decide (w.1=1)&&decide (w.2=s)
def hN(r:List Wrd):Bool:=match r with
 |[]=>false
 |w::_=>decide (w.1=2)&&!ownB w.2
theorem ad6(l:List Tok)(a:Nat):(rst l a).head? =(l[a]?).map kt:=by
 unfold rst;rw[List.head?_drop,zqa]
theorem dA(l:List Tok)(a:Nat)(s:List UInt8):isS l a s=hS (rst l a) s:=by
 have h:=ad6 l a;unfold isS hS;cases hl:l[a]? with
 |none=>rw[hl]at h;cases hr:rst l a with|nil=>rfl|cons w r=>rw[hr]at h;cases h
 |some t=>
  rw[hl]at h;cases hr:rst l a with
  |nil=>rw[hr]at h;cases h
  |cons w r=>rw[hr]at h;simp at h;rw[h];rfl
theorem abw(l:List Tok)(a:Nat):nO l a=hN (rst l a):=by
 have h:=ad6 l a;unfold nO hN;cases hl:l[a]? with
 |none=>rw[hl]at h;cases hr:rst l a with|nil=>rfl|cons w r=>rw[hr]at h;cases h
 |some t=>
  rw[hl]at h;cases hr:rst l a with
  |nil=>rw[hr]at h;cases h
  |cons w r=>rw[hr]at h;simp at h;rw[h];rfl
theorem agw{l:List Tok}{a:Nat}{w:Wrd}{r:List Wrd}(h:rst l a=w::r):∃t,l[a]? =some t/\t.kind=w.1/\t.text=w.2:=by
 have h1:=ad6 l a;rw[h]at h1;cases hl:l[a]? with
 |none=>rw[hl]at h1;cases h1
 |some t=>rw[hl]at h1;simp at h1;exact⟨t,rfl,by rw[h1];rfl,by rw[h1];rfl⟩
theorem asE{l:List Tok}{a:Nat}{w:Wrd}{r:List Wrd}(h:rst l a=w::r):txt l a=w.2:=by
 obtain⟨t,h1,_,h2⟩:=agw h;unfold txt;rw[h1];exact h2
theorem nY{l:List Tok}{a:Nat}{w:Wrd}{r:List Wrd}(h:rst l a=w::r):rst l (a+1)=r:=by
 unfold rst at h ⊢;rw[<-List.drop_drop,h];rfl
theorem kI{l:List Tok}{a:Nat}{u r:List Wrd}(h:rst l a=u++r):rst l (a+u.length)=r:=by
 unfold rst at h ⊢;rw[<-List.drop_drop,h,List.drop_left' rfl]
theorem aiN{l:List Tok}{a:Nat}{u:List Wrd}(h:rst l a=u)(h0:u≠[]):a+u.length=l.length:=by
 have h1:(rst l a).length=l.length - a:=by unfold rst;rw[zxe,zq5]
 rw[h]at h1;have:u.length≠0:=by simpa using h0
 omega
def agb(r:List Wrd):Prop:=∀s∈([[91],[94],[42],[47],[43],[45],[61,61],[33,61],[60],[60,61],[40]]:List (List UInt8)),hS r s=false
theorem sZ{s:List UInt8}(h:s∉([[91],[94],[42],[47],[43],[45],[61,61],[33,61],[60],[60,61],[40]]:List (List UInt8)))(r:List Wrd):agb (sg s::r):=fun x hx=>by
 show (!decide ((3:Int)=1)&&decide (s=x))=false;have:s≠x:=fun e=>h (e▸hx)
 simp[this]
theorem amL{k:Nd}{ks:List Nd}(h:k∈ks):dep k<=kY ks:=by
 induction ks with
 |nil=>cases h
 |cons x ks ih=>
  rw[kT];rcases zy3.1 h with rfl|h
  ·omega
  ·have:=ih h;omega
section
inductive EC:Nd->Prop
 |num (t:List UInt8) (h:tx 1 t=true):EC (.mk 1 t [])
 |nam (t:List UInt8) (h:tx 2 t=true):EC (.mk 2 t [])
 |call (t:List UInt8) (ks:List Nd) (h:tx 2 t=true) (hk:∀k∈ks,okE k=true):EC (.mk 13 t ks)
 |mat (ks:List Nd) (h0:ks≠[]) (hk:∀x∈ks,okR x=true):EC (.mk 14 [] ks)
 |list (ks:List Nd) (hk:∀k∈ks,okE k=true):EC (.mk 16 [] ks)
 |item (k k1:Nd) (h:okE k=true) (h1:okE k1=true):EC (.mk 17 [] [k,k1])
 |item2 (k k1 k2:Nd) (h:okE k=true) (h1:okE k1=true) (h2:okE k2=true):EC (.mk 17 [] [k,k1,k2])
 |minus (k:Nd) (h:okE k=true):EC (.mk 3 [] [k])
 |op (o:Int) (k k2:Nd) (ho:4<=o/\o<=12) (h:okE k=true) (h2:okE k2=true):EC (.mk o [] [k,k2])
theorem adx{k:Nd}{o:Int}{t:List UInt8}{ks:List Nd}(h:k∈ks):dep k+1<=dep (.mk o t ks):=by
 have:=amL h;rw[dep];cases ks with
 |nil=>cases h
 |cons=>rw[if_neg zp];omega
theorem amm{t:List UInt8}(h:tx 2 t=true):∃c m,t=c::m/\97<=c.toNat/\c.toNat<=122:=by
 unfold tx at h;rw[zx4,agi]at h;obtain⟨_,c,m,h1,h2⟩:=acH (show nam t=true from h.1)
 exact⟨c,m,h1,(srt3 c).1 h2⟩
theorem at7{t:List UInt8}(h:tx 2 t=true){c:UInt8}{m:List UInt8}(hc:¬(97<=c.toNat/\c.toNat<=122)):t≠c::m:=by
 obtain⟨c',m',rfl,h1⟩:=amm h;intro e;cases e;exact hc h1
theorem apo{k:Int}{t:List UInt8}(h:tx k t=true):ownB t=false:=by
 unfold tx at h;rw[zx4]at h;simpa using h.2
theorem agX{t:List UInt8}(h:tx 2 t=true)(r:List Wrd):hN ((2,t)::r)=true:=by
 show (decide ((2:Int)=2)&&!ownB t)=true;rw[apo h];rfl
section
variable{K:Nat}{l:List Tok}{X U:Gr}{a o a':Nat}{n:Nd}
theorem aiy{k:Gr}(h:o+1<=K)(hk:k a (o+1)= .ok n a'):ins K k a o= .ok n a':=by
 unfold ins;rw[if_neg zE,hk]
theorem aru(h:qM K l X a o= .ok n a')(h1:hS (rst l a') [91]=false):qK K l X a o= .ok n a':=by
 unfold qK;rw[h];show um K l X (l.length+1) n a' o=_;unfold um;rw[dA,h1];rfl
theorem auB(h:qK K l X a o= .ok n a')(h1:hS (rst l a') [94]=false):abI K l X U a o= .ok n a':=by
 unfold abI;rw[h];show (if isS l a' [94]then _ else _)=_
 rw[dA,h1];rfl
theorem un_of(h:abI K l X U a o= .ok n a')(h1:hS (rst l a) [45]=false):unG K l X U a o= .ok n a':=by
 unfold unG;rw[dA,h1,if_neg zc];exact h
theorem abd{S:Gr}{s1 s2:List UInt8}{x y:Nat}(h:S a o= .ok n a')(h1:hS (rst l a') s1=false)(h2:hS (rst l a') s2=false):abJ l S s1 x s2 y a o= .ok n a':=by
 unfold abJ;rw[h];show jI l S s1 x s2 y (l.length+1) n a' o=_;unfold jI;rw[dA,h1,dA,h2];rfl
theorem apD{S:Gr}{s1 s2:List UInt8}{x y:Nat}{m:Nd}{a2:Nat}(h:S a o= .ok n a')(h0:hS (rst l a') s1=false)(h1:hS (rst l a') s2=true)(h2:S (a'+1) o= .ok m a2)(h3:hS (rst l a2) s1=false)(h4:hS (rst l a2) s2=false):abJ l S s1 x s2 y a o= .ok (.mk y [] [n,m]) a2:=by
 have hlt:=dh (l:=l) (a:=a') (s:=s2) (by rw[dA,h1])
 unfold abJ;rw[h];show jI l S s1 x s2 y (l.length+1) n a' o=_;unfold jI;rw[dA,h0,if_neg zc,dA,h1,if_pos rfl,h2]
 show jI l S s1 x s2 y l.length _ a2 o=_;obtain⟨k,hk⟩:∃k,l.length=k+1:=⟨l.length - 1,zE⟩
 rw[hk];unfold jI;rw[dA,h3,dA,h4];rfl
theorem ag7(h:oO l U a o= .ok n a')(h1:hS (rst l a') [61,61]=false)(h2:hS (rst l a') [33,61]=false)(h3:hS (rst l a') [60]=false)(h4:hS (rst l a') [60,61]=false):abR l U a o= .ok n a':=by
 unfold abR;rw[h];show (if isS l a' [61,61]then _ else if isS l a' [33,61]then _ else if isS l a' [60]then _ else if isS l a' [60,61]then _ else _)=_
 rw[dA,h1,dA,h2,dA,h3,dA,h4];rfl
theorem rU{w:Wrd}{r:List Wrd}(h:rst l a=w::r):qM K l X a o=if w.1=1 then .ok (.mk 1 w.2 []) (a+1)
  else if hN (w::r)then(if hS r [40]then ins K (fun a o=>jm (fun n=> .mk 13 w.2 n.kids) (kg l X [41] a o)) (a+2) o else .ok (.mk 2 w.2 []) (a+1))
  else if hS (w::r) [40]then ins K (fun a o=>thenS l (X a o) o [41]) (a+1) o
  else if hS (w::r) [91]then ins K (fun a o=>rP l X (l.length+1) [] [] a o) (a+1) o
  else if hS (w::r) [123]then ins K (fun a o=>jm (fun n=> .mk 16 [] n.kids) (kg l X [125] a o)) (a+1) o
  else .bad 4 a nd0 a o:=by
 obtain⟨t,h1,h2,h3⟩:=agw h;unfold qM;rw[h1];show (if t.kind=1 then _ else _)=_
 rw[abw,dA,dA,dA,dA,h,nY h,h2,h3]
theorem afD(h:qM K l X a o= .ok n a')(h0:hS (rst l a) [45]=false)(h1:hS (rst l a') [91]=false)(h2:hS (rst l a') [94]=false):unG K l X U a o= .ok n a':=un_of (auB (aru h h1) h2) h0
end
end
end
