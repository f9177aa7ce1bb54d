import Derived.Test.YtjnhnbgpifohjaaGreatDoorA13
set_option linter.unusedVariables false
set_option linter.unusedSimpArgs false
open Go.Proofs.Tryz
namespace Go.Proofs.YtjnhnbgpifohjaaGreatDoor
open Go.RowKit SX
section
attribute [local irreducible] IntKind.wrap Go1 Reg WP aR aU bR bO aN aF ak aj aY Sat
theorem ay.node{st:St}{ρ:List (Nat×Option Nat)}{b c:Nat}{x:Value}{s:Value}{o:Atom}(h:st.hp b= .ent (.box 341 [.c (.val x),.c (.val s),o]))(hf:fresh ρ [b]=true)(hi:aB ρ o (.own c)):ay st ρ b (.box 341 [.c (.val x),.c (.val s),.own c]):=
 ay.mo h hf ⟨aB.same rfl,aB.same rfl,hi,trivial⟩
abbrev NG(x:Int)(c:Nat):Ent:= .box 341 [.c (.val (.int .i64 x)),.c (.val (.string ByteArray.empty)),.own c]
structure MaS where
 rs:List Nd
 r:List Nd
 a:Nat
 f:Nat
theorem yN(r:List Nd)(k:Nd):([CA.val (.int .i64 15),.val (.string ByteArray.empty),.sat (aL 3 (r.length+1) (r.flatMap ndC++caN k))]:List CA)=ndC (.mk 15 [] (r++[k])):=by
 rw[anV];show _=[CA.val (.int .i64 15),.val (.string ByteArray.empty),.sat (aL 3 (r++[k]).length ((r++[k]).flatMap ndC))];rw[←bF (aH k).symm,List.length_append];rfl
theorem g_mat{l:List Tok}{m:Nat}{X:Gr}(hl:l.length≤1000000)(hs:GOK 388 l m X)(hA:Adv 1 l m X){a o:Nat}(hm:m≤a)(ha:a≤l.length)(ho:o≤600):
  CR rNd 577 [.ptr 29 0] [] l a o (qF l X (l.length+1) [] [] a o):=by
 generalize hR:qF l X (l.length+1) [] [] a o=R;refine CR.of ?_;refine aj.fnF func577 results577 ntmps577 rfl rfl rfl rfl (fun w0 T B E0 hB=>?_)
 refine SX.goM ?_;refine W.loop (fun q:MaS=>qF l X q.f q.rs q.r q.a o=R∧m≤q.a∧q.a≤l.length∧l.length < q.a+q.f∧q.rs.length+q.r.length≤q.a) (fun _=>[(0,.ptr 29 0),(2,.ptr 2 0),(3,.ptr 3 0),(4,.ptr 4 0)]) (fun q=>[(29,PG l q.a o),(2,NZ),(3,NG 14 100),(4,NG 15 101),(100,NR q.rs),(101,NR q.r)]) (fun q=>l.length+1 - q.a) ⟨[],[],a,l.length+1⟩ ⟨hR,by dsimp only;exact⟨by omega,by omega,by omega,Nat.zero_le _⟩⟩ (fun q hq=>?_)
  (by
   refine SX.St.aZ [(100,none),(101,none)] (by intro b h;exact SX.bU h rfl) ?_ ?_ rfl
   ·repeat(first|exact trivial|refine⟨⟨_,rfl,SX.aG.same rfl⟩,?_⟩)
   ·exact⟨SX.ay.same rfl rfl,SX.ay.same rfl rfl,ay.node rfl rfl (aB.nil rfl),ay.node rfl rfl (aB.nil rfl),SX.ay.dF rfl,SX.ay.dF rfl,trivial⟩)
 obtain⟨rs,r,qa,qf⟩:=q
 dsimp only at hq
 obtain⟨hq1,b1,b2,b3,b4⟩:=hq;obtain⟨qf,rfl⟩:∃k,qf=k+1:=⟨qf - 1,by omega⟩
 unfold qF at hq1;show WP _ _ _ (fD [(0,.ptr 29 0),(2,.ptr 2 0),(3,.ptr 3 0),(4,.ptr 4 0)] [(29,PG l qa o),(2,NZ),(3,NG 14 100),(4,NG 15 101),(100,NR rs),(101,NR r)]) _;have h3:=hs qa o (by omega) (by omega) ho
 have h4:=hA qa o (by omega) (by omega)
 cases hr2:X qa o with
 |bad c p k a2 o2=>
  rw[hr2]at h3 hq1;have c3:=h3.bad;have c4:=dB l a2 o2 c p [44];have c6:=je l a2 o2 c p [93];obtain⟨bb,hbb⟩:∃b,Hide (b=false):=⟨_,⟨rfl⟩⟩;have c5:aj prog 387 [.ptr 29 0,.v (str [59])] [(29,PE l a2 o2 c p)] ⟨.v (.bool bb),[(29,.ent (PE l a2 o2 c p))]⟩:=by rw[hbb.out];exact dB l a2 o2 c p [59]
  refine SX.goM ?_;refine WP.yG 17 (ps:=[29]) hB rfl rfl ?_;refine W.aau ?_ rfl hbb.out;refine SX.goM ?_;subst hq1;refine aN.pF 25 (ps:=[29]) ?_;exact aM (ak.aX rfl rfl rfl) (bD rfl rfl (by simp[Res.nd]) (bF (yN r k))) ⟨rfl,trivial⟩
 |ok k a2=>
  rw[hr2]at h3 hq1 h4;have c3:=h3.ok;obtain⟨j1,j2,j3⟩:=h4;have j4:=lD k
  dsimp only at hq1
  cases ht:isS l a2 [44]with
  |true=>
   have c4:=dS o hl ht;have g5:=bG ht;rw[if_pos ht]at hq1;refine SX.goM ?_;exact W.next ⟨rs,r++[k],a2+1,qf⟩ ⟨hq1,by dsimp only;exact⟨by omega,by omega,by omega,by simp;omega⟩⟩ (by dsimp only;omega)
    (by
     refine SX.St.aZ [(100,some 100),(101,some 17)] (by intro b h;exact SX.bU h rfl) ?_ ?_ rfl
     ·repeat(first|exact trivial|refine⟨⟨_,rfl,SX.aG.same rfl⟩,?_⟩)
     ·exact⟨SX.ay.eq rfl rfl rfl,SX.ay.same rfl rfl,ay.node rfl rfl (aB.own rfl),ay.node rfl rfl (aB.own rfl),SX.ay.row rfl rfl rfl rfl,SX.ay.row rfl rfl (by simp) (bF (aH _).symm),trivial⟩)
  |false=>
   have c4:=dI o ht;rw[if_neg (by rw[ht];decide)]at hq1
   cases ht2:isS l a2 [59]with
   |true=>
    have g5:=bG ht2;rw[if_pos ht2]at hq1;obtain⟨bb,hbb⟩:∃b,Hide (b=true):=⟨_,⟨rfl⟩⟩;have c5:aj prog 387 [.ptr 29 0,.v (str [59])] [(29,PG l a2 o)] ⟨.v (.bool bb),[(29,.ent (PG l (a2+1) o))]⟩:=by rw[hbb.out];exact dS o hl ht2
    refine SX.goM ?_;refine WP.yG 17 (ps:=[29]) hB rfl rfl ?_;refine W.ajr ?_ rfl hbb.out;refine SX.goM ?_;exact W.next ⟨rs++[.mk 15 [] (r++[k])],[],a2+1,qf⟩ ⟨hq1,by dsimp only;exact⟨by omega,by omega,by omega,by simp;omega⟩⟩ (by dsimp only;omega)
     (by
      refine SX.St.aZ [(100,some 38),(101,none)] (by intro b h;exact SX.bU h rfl) ?_ ?_ rfl
      ·repeat(first|exact trivial|refine⟨⟨_,rfl,SX.aG.same rfl⟩,?_⟩)
      ·exact⟨SX.ay.eq rfl rfl rfl,SX.ay.same rfl rfl,ay.node rfl rfl (aB.own rfl),ay.node rfl rfl (aB.nil rfl),SX.ay.row rfl rfl (by simp) (bF (yN r k)),SX.ay.dF rfl,trivial⟩)
   |false=>
    rw[if_neg (by rw[ht2];decide)]at hq1
    obtain⟨bb,hbb⟩:∃b,Hide (b=false):=⟨_,⟨rfl⟩⟩;have c5:aj prog 387 [.ptr 29 0,.v (str [59])] [(29,PG l a2 o)] ⟨.v (.bool bb),[(29,.ent (PG l a2 o))]⟩:=by rw[hbb.out];exact dI o ht2
    cases ht3:isS l a2 [93]with
    |true=>
     rw[if_pos ht3]at hq1;have c6:=jJ o hl ht3;refine SX.goM ?_;refine WP.yG 17 (ps:=[29]) hB rfl rfl ?_;refine W.aau ?_ rfl hbb.out;refine SX.goM ?_;subst hq1;refine aN.pF 25 (ps:=[29]) ?_;exact aM (ak.aX rfl rfl rfl) (bD rfl rfl (by simp[Res.nd]) (bF (yN r k))) ⟨rfl,trivial⟩
    |false=>
     rw[if_neg (by rw[ht3];decide)]at hq1
     have c6:=kQ o ht3;refine SX.goM ?_;refine WP.yG 17 (ps:=[29]) hB rfl rfl ?_;refine W.aau ?_ rfl hbb.out;refine SX.goM ?_;subst hq1;refine aN.pF 25 (ps:=[29]) ?_;exact aM (ak.aX rfl rfl rfl) (bD rfl rfl (by simp[Res.nd]) (bF (yN r k))) ⟨rfl,trivial⟩
theorem g_par{l:List Tok}{m:Nat}{X:Gr}(hl:l.length≤1000000)(hs:GOK 388 l m X){a o:Nat}(hm:m≤a)(ha:a≤l.length)(ho:o≤600):CR rNd 576 [.ptr 81 0] [(81,PP)] l a o (thenS l (X a o) o [41]):=by
 have h3:=hs a o hm ha ho;cases hr2:X a o with
 |bad e p n2 a2 o2=>
  rw[hr2]at h3;have c3:=h3.bad;have c4:=je l a2 o2 e p [41];show aj _ _ _ _ _;refine aj.fnF func576 results576 ntmps576 rfl rfl rfl rfl (fun w0 T B E0 hB=>?_)
  refine SX.goM ?_;exact aM (ak.aX rfl rfl rfl) (AV0.imp.refl _) ⟨rfl,rfl,trivial⟩
 |ok n2 a2=>
  rw[hr2]at h3;have c3:=h3.ok;unfold thenS
  dsimp only
  cases ht:isS l a2 [41]with
  |true=>
   have c4:=jJ o hl ht;rw[if_pos rfl];show aj _ _ _ _ _;refine aj.fnF func576 results576 ntmps576 rfl rfl rfl rfl (fun w0 T B E0 hB=>?_)
   refine SX.goM ?_;exact aM (ak.aX rfl rfl rfl) (AV0.imp.refl _) ⟨rfl,rfl,trivial⟩
  |false=>
   have c4:=kQ o ht;rw[if_neg (by decide)]
   show aj _ _ _ _ _;refine aj.fnF func576 results576 ntmps576 rfl rfl rfl rfl (fun w0 T B E0 hB=>?_)
   refine SX.goM ?_;exact aM (ak.aX rfl rfl rfl) (AV0.imp.refl _) ⟨rfl,rfl,trivial⟩
theorem g_call{l:List Tok}{m:Nat}{X:Gr}{t:Tok}(hl:l.length≤1000000)(hs:GOK 388 l m X)(hA:Adv 1 l m X){a o:Nat}(hm:m≤a)(ha:a≤l.length)(ho:o≤600):CR rNd 574 [.ptr 82 0,.ptr 81 0] [(81,PP),(82,KB t)] l a o (iH (fun n=> .mk 13 t.text n.kids) (jD l X [41] a o)):=by
 have h3:=alv (e:=[41]) hl hs hA hm ha ho;cases hr2:jD l X [41] a o with
 |bad e p n2 a2 o2=>
  rw[hr2]at h3;have c3:=h3.bad;show aj _ _ _ _ _;refine aj.fnF func574 results574 ntmps574 rfl rfl rfl rfl (fun w0 T B E0 hB=>?_)
  refine SX.goM ?_;exact aM (ak.aX rfl rfl rfl) (AV0.imp.refl _) ⟨rfl,rfl,rfl,trivial⟩
 |ok n2 a2=>
  rw[hr2]at h3;have c3:=h3.ok;show aj _ _ _ _ _;refine aj.fnF func574 results574 ntmps574 rfl rfl rfl rfl (fun w0 T B E0 hB=>?_)
  refine SX.goM ?_;exact aM (ak.aX rfl rfl rfl) (AV0.imp.refl _) ⟨rfl,rfl,rfl,trivial⟩
theorem g_set{l:List Tok}{m:Nat}{X:Gr}(hl:l.length≤1000000)(hs:GOK 388 l m X)(hA:Adv 1 l m X){a o:Nat}(hm:m≤a)(ha:a≤l.length)(ho:o≤600):CR rNd 578 [.ptr 81 0] [(81,PP)] l a o (iH (fun n=> .mk 16 [] n.kids) (jD l X [125] a o)):=by
 have h3:=alv (e:=[125]) hl hs hA hm ha ho;cases hr2:jD l X [125] a o with
 |bad e p n2 a2 o2=>
  rw[hr2]at h3;have c3:=h3.bad;show aj _ _ _ _ _;refine aj.fnF func578 results578 ntmps578 rfl rfl rfl rfl (fun w0 T B E0 hB=>?_)
  refine SX.goM ?_;exact aM (ak.aX rfl rfl rfl) (AV0.imp.refl _) ⟨rfl,rfl,trivial⟩
 |ok n2 a2=>
  rw[hr2]at h3;have c3:=h3.ok;show aj _ _ _ _ _;refine aj.fnF func578 results578 ntmps578 rfl rfl rfl rfl (fun w0 T B E0 hB=>?_)
  refine SX.goM ?_;exact aM (ak.aX rfl rfl rfl) (AV0.imp.refl _) ⟨rfl,rfl,trivial⟩
theorem arK{l:List Tok}{m:Nat}{X:Gr}{N:Nd}(hl:l.length≤1000000)(hs:GOK 388 l m X)(hA:Adv 1 l m X){a o:Nat}(hm:m≤a)(ha:a≤l.length)(ho:o≤600):CR rNd 564 [.ptr 83 0,.ptr 81 0] [(81,PP),(83,NB N)] l a o (rY l X N a o):=by
 have mark:aaO 7:=⟨⟩;have h3:=hs a o hm ha ho;have h4:=hA a o hm ha;unfold rY;cases hr2:X a o with
 |bad e p n2 a2 o2=>
  rw[hr2]at h3;have c3:=h3.bad;have c4:=dB l a2 o2 e p [44];have c5:=je l a2 o2 e p [93];show aj _ _ _ _ _;refine aj.fnF func564 results564 ntmps564 rfl rfl rfl rfl (fun w0 T B E0 hB=>?_)
  refine SX.goM ?_;refine aN.pF 7 (ps:=[29,81,83]) ?_;exact aM (ak.aX rfl rfl rfl) (bD rfl rfl rfl (by first|(simp only[List.flatMap_cons,List.flatMap_nil,aH,List.append_nil];done)|(simp only[List.flatMap_cons,List.flatMap_nil,aH,List.append_nil];rfl))) ⟨rfl,rfl,rfl,trivial⟩
 |ok n2 a2=>
  rw[hr2]at h3 h4;have c3:=h3.ok;obtain⟨j1,j2,j3⟩:=h4
  dsimp only
  cases ht:isS l a2 [44]with
  |false=>
   have c4:=dI o ht;rw[if_neg (by decide)]
   unfold thenS
   dsimp only
   cases ht2:isS l a2 [93]with
   |true=>
    have c5:=jJ o hl ht2;rw[if_pos rfl];show aj _ _ _ _ _;refine aj.fnF func564 results564 ntmps564 rfl rfl rfl rfl (fun w0 T B E0 hB=>?_)
    refine SX.goM ?_;refine aN.pF 7 (ps:=[29,81,83]) ?_;exact aM (ak.aX rfl rfl rfl) (bD rfl rfl rfl (by first|(simp only[List.flatMap_cons,List.flatMap_nil,aH,List.append_nil];done)|(simp only[List.flatMap_cons,List.flatMap_nil,aH,List.append_nil];rfl))) ⟨rfl,rfl,rfl,trivial⟩
   |false=>
    have c5:=kQ o ht2;rw[if_neg (by decide)]
    show aj _ _ _ _ _;refine aj.fnF func564 results564 ntmps564 rfl rfl rfl rfl (fun w0 T B E0 hB=>?_)
    refine SX.goM ?_;refine aN.pF 7 (ps:=[29,81,83]) ?_;exact aM (ak.aX rfl rfl rfl) (bD rfl rfl rfl (by first|(simp only[List.flatMap_cons,List.flatMap_nil,aH,List.append_nil];done)|(simp only[List.flatMap_cons,List.flatMap_nil,aH,List.append_nil];rfl))) ⟨rfl,rfl,rfl,trivial⟩
  |true=>
   have c4:=dS o hl ht;have g5:=bG ht;rw[if_pos rfl];have h5:=hs (a2+1) o (by omega) (by omega) ho
   cases hr3:X (a2+1) o with
   |bad e p n3 a3 o3=>
    rw[hr3]at h5;have c6:=h5.bad;have c5:=je l a3 o3 e p [93];show aj _ _ _ _ _;refine aj.fnF func564 results564 ntmps564 rfl rfl rfl rfl (fun w0 T B E0 hB=>?_)
    refine SX.goM ?_;refine aN.pF 16 (ps:=[29,81,83]) ?_;exact aM (ak.aX rfl rfl rfl) (bD rfl rfl rfl (by first|(simp only[List.flatMap_cons,List.flatMap_nil,aH,List.append_nil,List.append_assoc];done)|(simp only[List.flatMap_cons,List.flatMap_nil,aH,List.append_nil,List.append_assoc];rfl))) ⟨rfl,rfl,rfl,trivial⟩
   |ok n3 a3=>
    rw[hr3]at h5;have c6:=h5.ok;unfold thenS iH
    dsimp only
    cases ht2:isS l a3 [93]with
    |true=>
     have c5:=jJ o hl ht2;rw[if_pos rfl];show aj _ _ _ _ _;refine aj.fnF func564 results564 ntmps564 rfl rfl rfl rfl (fun w0 T B E0 hB=>?_)
     refine SX.goM ?_;refine aN.pF 16 (ps:=[29,81,83]) ?_;exact aM (ak.aX rfl rfl rfl) (bD rfl rfl rfl (by first|(simp only[List.flatMap_cons,List.flatMap_nil,aH,List.append_nil,List.append_assoc];done)|(simp only[List.flatMap_cons,List.flatMap_nil,aH,List.append_nil,List.append_assoc];rfl))) ⟨rfl,rfl,rfl,trivial⟩
    |false=>
     have c5:=kQ o ht2;rw[if_neg (by decide)]
     show aj _ _ _ _ _;refine aj.fnF func564 results564 ntmps564 rfl rfl rfl rfl (fun w0 T B E0 hB=>?_)
     refine SX.goM ?_;refine aN.pF 16 (ps:=[29,81,83]) ?_;exact aM (ak.aX rfl rfl rfl) (bD rfl rfl rfl (by first|(simp only[List.flatMap_cons,List.flatMap_nil,aH,List.append_nil,List.append_assoc];done)|(simp only[List.flatMap_cons,List.flatMap_nil,aH,List.append_nil,List.append_assoc];rfl))) ⟨rfl,rfl,rfl,trivial⟩
theorem aqF{l:List Tok}:GE 563 l:=by
 intro a o e p;have nm1:Named 1 81:=⟨⟩;have c1:=aee l a o e p;refine aj.fnF func563 results563 ntmps563 rfl rfl rfl rfl (fun w0 T B E0 hB=>?_)
 refine SX.goM ?_
 try(refine SX.WP.aD ?_;refine SX.goM ?_)
 exact aM (ak.aX rfl rfl rfl) (AV0.imp.refl _) ⟨rfl,trivial⟩
theorem asU{l:List Tok}{m:Nat}{X:Gr}(hl:l.length≤1000000)(hs:GOK 388 l (m+1) X)(hA:Adv 1 l (m+1) X):GOK 563 l m (oZ 600 l X):=by
 intro a o hm ha ho;have nm1:Named 1 81:=⟨⟩;have nm2:Named 3 82:=⟨⟩;unfold oZ;cases hg:l[a]? with
 |none=>
  have hge:l.length≤a:=List.getElem?_eq_none_iff.1 hg
  have c1:=u6 l a o;show aj _ _ _ _ _;refine aj.fnF func563 results563 ntmps563 rfl rfl rfl rfl (fun w0 T B E0 hB=>?_)
  refine SX.goM ?_
  try(refine SX.WP.aD ?_;refine SX.goM ?_)
  exact aM (ak.aX rfl rfl rfl) (AV0.imp.refl _) ⟨rfl,trivial⟩
 |some t=>
  have hlt:a < l.length:=(List.getElem?_eq_some_iff.1 hg).1
  obtain⟨tk,tt,tp⟩:=t
  dsimp only
  by_cases hk:tk=1
  ·rw[if_pos hk];show aj _ _ _ _ _;refine aj.fnF func563 results563 ntmps563 rfl rfl rfl rfl (fun w0 T B E0 hB=>?_)
   refine SX.goM ?_
   try(refine SX.WP.aD ?_;refine SX.goM ?_)
   exact aM (ak.aX rfl rfl rfl) (oM rfl rfl) ⟨rfl,trivial⟩
  ·rw[if_neg hk];have c1:=qP l a o;cases hn:mD l a with
   |true=>
    rw[hn]at c1;rw[if_pos rfl];cases ht:isS l (a+1) [40]with
    |true=>
     have c2:=dS o hl ht;have g5:=bG ht;rw[if_pos rfl];have h1:=ate (f:=574) (l:=l) (t:=⟨tk,tt,tp⟩) (a:=a+2) (o:=o) (k:=fun a o=>iH (fun n=> .mk 13 tt n.kids) (jD l X [41] a o)) ho (fun h=>⟨g_call hl hs hA (by omega) (by omega) (by omega),(iJ (c':=0) (s':=0) (rA hA (by omega) (by omega)) (fun n=>by rw[vQ];omega)).open.mono (by omega)⟩)
     cases hr:ins 600 (fun a o=>iH (fun n=> .mk 13 tt n.kids) (jD l X [41] a o)) (a+2) o with
     |bad e p n a' o'=>
      rw[hr]at h1;have c3:=h1.bad;show aj _ _ _ _ _;refine aj.fnF func563 results563 ntmps563 rfl rfl rfl rfl (fun w0 T B E0 hB=>?_)
      refine SX.goM ?_
      try(refine SX.WP.aD ?_;refine SX.goM ?_)
      exact aM (ak.aX rfl rfl rfl) (AV0.imp.refl _) ⟨rfl,trivial⟩
     |ok n a'=>
      rw[hr]at h1;have c3:=h1.ok;show aj _ _ _ _ _;refine aj.fnF func563 results563 ntmps563 rfl rfl rfl rfl (fun w0 T B E0 hB=>?_)
      refine SX.goM ?_
      try(refine SX.WP.aD ?_;refine SX.goM ?_)
      exact aM (ak.aX rfl rfl rfl) (AV0.imp.refl _) ⟨rfl,trivial⟩
    |false=>
     have c2:=dI o ht;rw[if_neg (by decide)]
     show aj _ _ _ _ _;refine aj.fnF func563 results563 ntmps563 rfl rfl rfl rfl (fun w0 T B E0 hB=>?_)
     refine SX.goM ?_
     try(refine SX.WP.aD ?_;refine SX.goM ?_)
     exact aM (ak.aX rfl rfl rfl) (oM rfl rfl) ⟨rfl,trivial⟩
   |false=>
    rw[hn]at c1;rw[if_neg (by decide)]
    cases ht:isS l a [40]with
    |true=>
     have c2:=dS o hl ht;rw[if_pos rfl];have h1:=adI (f:=576) (l:=l) (a:=a+1) (o:=o) (k:=fun a o=>thenS l (X a o) o [41]) ho (fun h=>⟨g_par hl hs (by omega) (by omega) (by omega),(nL (hA _ _ (by omega) (by omega))).open.mono (by omega)⟩)
     cases hr:ins 600 (fun a o=>thenS l (X a o) o [41]) (a+1) o with
     |bad e p n a' o'=>
      rw[hr]at h1;have c3:=h1.bad;show aj _ _ _ _ _;refine aj.fnF func563 results563 ntmps563 rfl rfl rfl rfl (fun w0 T B E0 hB=>?_)
      refine SX.goM ?_
      try(refine SX.WP.aD ?_;refine SX.goM ?_)
      exact aM (ak.aX rfl rfl rfl) (AV0.imp.refl _) ⟨rfl,trivial⟩
     |ok n a'=>
      rw[hr]at h1;have c3:=h1.ok;show aj _ _ _ _ _;refine aj.fnF func563 results563 ntmps563 rfl rfl rfl rfl (fun w0 T B E0 hB=>?_)
      refine SX.goM ?_
      try(refine SX.WP.aD ?_;refine SX.goM ?_)
      exact aM (ak.aX rfl rfl rfl) (AV0.imp.refl _) ⟨rfl,trivial⟩
    |false=>
     have c2:=dI o ht;rw[if_neg (by decide)]
     cases ht2:isS l a [91]with
     |true=>
      have c3:=dS o hl ht2;rw[if_pos rfl];have h1:=atd (f:=577) (l:=l) (a:=a+1) (o:=o) (k:=fun a o=>qF l X (l.length+1) [] [] a o) ho (fun h=>⟨g_mat hl hs hA (by omega) (by omega) (by omega),(yV hA _ _ _ _ _ (by omega) (by omega)).open.mono (by omega)⟩)
      cases hr:ins 600 (fun a o=>qF l X (l.length+1) [] [] a o) (a+1) o with
      |bad e p n a' o'=>
       rw[hr]at h1;have c4:=h1.bad;show aj _ _ _ _ _;refine aj.fnF func563 results563 ntmps563 rfl rfl rfl rfl (fun w0 T B E0 hB=>?_)
       refine SX.goM ?_
       try(refine SX.WP.aD ?_;refine SX.goM ?_)
       exact aM (ak.aX rfl rfl rfl) (AV0.imp.refl _) ⟨rfl,trivial⟩
      |ok n a'=>
       rw[hr]at h1;have c4:=h1.ok;show aj _ _ _ _ _;refine aj.fnF func563 results563 ntmps563 rfl rfl rfl rfl (fun w0 T B E0 hB=>?_)
       refine SX.goM ?_
       try(refine SX.WP.aD ?_;refine SX.goM ?_)
       exact aM (ak.aX rfl rfl rfl) (AV0.imp.refl _) ⟨rfl,trivial⟩
     |false=>
      have c3:=dI o ht2;rw[if_neg (by decide)]
      cases ht3:isS l a [123]with
      |true=>
       have c4:=dS o hl ht3;rw[if_pos rfl];have h1:=adI (f:=578) (l:=l) (a:=a+1) (o:=o) (k:=fun a o=>iH (fun n=> .mk 16 [] n.kids) (jD l X [125] a o)) ho (fun h=>⟨g_set hl hs hA (by omega) (by omega) (by omega),(iJ (c':=0) (s':=0) (rA hA (by omega) (by omega)) (fun n=>by rw[vQ];omega)).open.mono (by omega)⟩)
       cases hr:ins 600 (fun a o=>iH (fun n=> .mk 16 [] n.kids) (jD l X [125] a o)) (a+1) o with
       |bad e p n a' o'=>
        rw[hr]at h1;have c5:=h1.bad;show aj _ _ _ _ _;refine aj.fnF func563 results563 ntmps563 rfl rfl rfl rfl (fun w0 T B E0 hB=>?_)
        refine SX.goM ?_
        try(refine SX.WP.aD ?_;refine SX.goM ?_)
        exact aM (ak.aX rfl rfl rfl) (AV0.imp.refl _) ⟨rfl,trivial⟩
       |ok n a'=>
        rw[hr]at h1;have c5:=h1.ok;show aj _ _ _ _ _;refine aj.fnF func563 results563 ntmps563 rfl rfl rfl rfl (fun w0 T B E0 hB=>?_)
        refine SX.goM ?_
        try(refine SX.WP.aD ?_;refine SX.goM ?_)
        exact aM (ak.aX rfl rfl rfl) (AV0.imp.refl _) ⟨rfl,trivial⟩
      |false=>
       have c4:=dI o ht3;rw[if_neg (by decide)]
       have c5:=u6 l a o;show aj _ _ _ _ _;refine aj.fnF func563 results563 ntmps563 rfl rfl rfl rfl (fun w0 T B E0 hB=>?_)
       refine SX.goM ?_
       try(refine SX.WP.aD ?_;refine SX.goM ?_)
       exact aM (ak.aX rfl rfl rfl) (AV0.imp.refl _) ⟨rfl,trivial⟩
theorem apT{l:List Tok}:GE 552 l:=by
 intro a o e p;have nm1:Named 1 81:=⟨⟩;have nm2:Named 3 83:=⟨⟩;have c1:=aqF (l:=l) a o e p;have c2:=dB l a o e p [91];refine aj.fnF func552 results552 ntmps552 rfl rfl rfl rfl (fun w0 T B E0 hB=>?_)
 refine SX.goM ?_
 try(refine SX.WP.aD ?_;refine SX.goM ?_)
 refine W.loop (fun _:Unit=>True) (fun _=>[(1,.ptr 81 0),(2,.ptr 2 0),(3,.ptr 83 0)]) (fun _=>[(29,PE l a o e p),(2,NZ),(81,PP),(83,NB nd0)]) (fun _=>0) () trivial (fun _ _=>?_)
 refine SX.goM ?_
 try(refine SX.WP.aD ?_;refine SX.goM ?_)
 exact aM (ak.aX rfl rfl rfl) (AV0.imp.refl _) ⟨rfl,trivial⟩
structure PoS where
 n:Nd
 a:Nat
 o:Nat
 b:Option (Nat×Nat)
 f:Nat
def poS(l:List Tok)(X:Gr)(q:PoS):Res:=match q.b with
 |none=>sj 600 l X q.f q.n q.a q.o
 |some (e,p)=> .bad e p q.n q.a q.o
theorem as7{l:List Tok}{m:Nat}{X:Gr}(hl:l.length≤1000000)(hs:GOK 388 l (m+1) X)(hA:Adv 1 l (m+1) X):GOK 552 l m (oP 600 l X):=by
 intro a o hm ha ho;have nm1:Named 1 81:=⟨⟩;have nm2:Named 3 83:=⟨⟩;have h1:=asU hl hs hA a o hm ha ho;have h2:=aeU (K:=600) hA a o hm ha;unfold oP;cases hr:oZ 600 l X a o with
 |bad e p n a' o'=>
  rw[hr]at h1;have c1:=h1.bad;have c2:=dB l a' o' e p [91];show aj _ _ _ _ _;refine aj.fnF func552 results552 ntmps552 rfl rfl rfl rfl (fun w0 T B E0 hB=>?_)
  refine SX.goM ?_
  try(refine SX.WP.aD ?_;refine SX.goM ?_)
  refine W.loop (fun _:Unit=>True) (fun _=>[(1,.ptr 81 0),(2,.ptr 2 0),(3,.ptr 83 0)]) (fun _=>[(29,PE l a' o' e p),(2,NZ),(81,PP),(83,NB n)]) (fun _=>0) () trivial (fun _ _=>?_)
  refine SX.goM ?_
  try(refine SX.WP.aD ?_;refine SX.goM ?_)
  exact aM (ak.aX rfl rfl rfl) (AV0.imp.refl _) ⟨rfl,trivial⟩
 |ok n a'=>
  rw[hr]at h1 h2;have c1:=h1.ok;obtain⟨g1,g2,g3⟩:=h2;have g4:=lD n
  dsimp only
  generalize hR:sj 600 l X (l.length+1) n a' o=R;refine CR.of ?_;refine aj.fnF func552 results552 ntmps552 rfl rfl rfl rfl (fun w0 T B E0 hB=>?_)
  refine SX.goM ?_
  try(refine SX.WP.aD ?_;refine SX.goM ?_)
  refine W.loop (fun q:PoS=>poS l X q=R∧(q.b=none→q.o=o∧m≤q.a∧q.a≤l.length∧l.length < q.a+q.f)) (fun _=>[(1,.ptr 81 0),(2,.ptr 2 0),(3,.ptr 83 0)]) (fun q=>[(29,PS l q.a q.o q.b),(2,NZ),(81,PP),(83,NB q.n)]) (fun q=>match q.b with|none=>l.length+1 - q.a|some _=>0) ⟨n,a',o,none,l.length+1⟩ ⟨hR,fun _=>by dsimp only;exact⟨rfl,by omega,by omega,by omega⟩⟩ (fun q hq=>?_)
  obtain⟨qn,qa,qo,qb,qf⟩:=q;obtain⟨hq1,hq2⟩:=hq
  dsimp only at hq1 hq2
  cases qb with
  |some b=>
   obtain⟨e,p⟩:=b;have c2:=dB l qa qo e p [91];show WP _ _ _ (fD [(1,.ptr 81 0),(2,.ptr 2 0),(3,.ptr 83 0)] [(29,PE l qa qo e p),(2,NZ),(81,PP),(83,NB qn)]) _;refine SX.goM ?_
   try(refine SX.WP.aD ?_;refine SX.goM ?_)
   subst hq1;exact aM (ak.aX rfl rfl rfl) (AV0.imp.refl _) ⟨rfl,trivial⟩
  |none=>
   obtain⟨rfl,b1,b2,b3⟩:=hq2 rfl;obtain⟨qf,rfl⟩:∃k,qf=k+1:=⟨qf - 1,by omega⟩
   have hq1:sj 600 l X (qf+1) qn qa qo=R:=hq1;unfold sj at hq1;show WP _ _ _ (fD [(1,.ptr 81 0),(2,.ptr 2 0),(3,.ptr 83 0)] [(29,PG l qa qo),(2,NZ),(81,PP),(83,NB qn)]) _;cases ht:isS l qa [91]with
   |true=>
    have c2:=dS qo hl ht;have g5:=bG ht;rw[if_pos ht]at hq1;have h5:=asn (f:=564) (l:=l) (N:=qn) (a:=qa+1) (o:=qo) (k:=rY l X qn) ho (fun h=>⟨arK hl hs hA (by omega) (by omega) (by omega),(aah hA (by omega) (by omega)).open.mono (by omega)⟩)
    have h6:=mF (K:=600) (g:=rY l X qn) (a:=qa+1) (o:=qo) (Nat.le_refl _) (aah (n:=qn) (o:=qo+1) hA (by omega) (by omega))
    cases hr2:ins 600 (rY l X qn) (qa+1) qo with
    |bad e p k a2 o2=>
     rw[hr2]at h5 hq1;have c3:=h5.bad;refine SX.goM ?_
     try(refine SX.WP.aD ?_;refine SX.goM ?_)
     exact W.next ⟨k,a2,o2,some (e,p),0⟩ ⟨hq1,fun h=>by cases h⟩ (by dsimp only;omega)
    |ok k a2=>
     rw[hr2]at h5 hq1 h6;have c3:=h5.ok;obtain⟨j1,j2,j3⟩:=h6;refine SX.goM ?_
     try(refine SX.WP.aD ?_;refine SX.goM ?_)
     exact W.next ⟨k,a2,qo,none,qf⟩ ⟨hq1,fun h=>by dsimp only;exact⟨rfl,by omega,by omega,by omega⟩⟩ (by dsimp only;omega)
   |false=>
    have c2:=dI qo ht;rw[if_neg (by rw[ht];decide)]at hq1
    refine SX.goM ?_
    try(refine SX.WP.aD ?_;refine SX.goM ?_)
    subst hq1;exact aM (ak.aX rfl rfl rfl) (AV0.imp.refl _) ⟨rfl,trivial⟩
theorem yQ{l:List Tok}:GE 388 l:=arR (at6 (aq6 (ge_un (ath apT))))
theorem ar1{l:List Tok}(hl:l.length≤1000000):∀(n m:Nat),l.length+1≤m+n→GOK 388 l m (lev 600 l n).1∧GOK 501 l m (lev 600 l n).2
 |0,m,h=>⟨fun a o hm ha=>by omega,fun a o hm ha=>by omega⟩
 |n+1,m,h=>by
  obtain⟨h1,h2⟩:=ar1 hl n (m+1) (by omega)
  obtain⟨a1,a2⟩:=yD 600 l n (m+1) (by omega)
  have u:GOK 501 l m (unG 600 l (lev 600 l n).1 (lev 600 l n).2):=g_un hl (g_pow hl (as7 hl h1 a1) (ach a1) h2) h2 a2;have au:=an8 (K:=600) a1 a2;exact⟨g_exp hl (g_sum hl (asZ hl u au) au) au,u⟩
end
section
section
variable(K:Nat)(l:List Tok)
def pq(S:Gr):Nat→List Nd→Gr
 |0,_=>fun a o=> .bad 4 a nd0 a o
 |f+1,ks=>fun a o=>if isS l a [125]then .ok (.mk 22 [] ks) (a+1)else match S a o with
  | .bad e p n a' o'=> .bad e p (.mk 22 [] (ks++[n])) a' o'
  | .ok n a'=>pq S f (ks++[n]) a' o
def amY(S:Gr):Gr:=fun a o=>if isS l a [123]then ins K (fun a o=>pq l S (l.length+1) [] a o) (a+1) o else .bad 4 a nd0 a (o+1)
def ifG(E B:Gr):Gr:=fun a o=>match E a o with
 | .bad e p n a' o'=> .bad e p (.mk 20 [] [n,nd0]) a' (o'+1)
 | .ok n a'=>match B a' o with
  | .bad e p b a2 o2=> .bad e p (.mk 20 [] [n,b]) a2 o2
  | .ok b a2=>if isS l a2 [101,108,115,101]then iH (fun c=> .mk 20 [] [n,b,c]) (B (a2+1) o)else .ok (.mk 20 [] [n,b]) a2
def an5(E B:Gr):Gr:=fun a o=>if mD l a then
  (if isS l (a+1) [61]then(match E (a+2) o with
   | .bad e p n a' o'=> .bad e p (.mk 21 (txt l a) [n,nd0,nd0]) a' (o'+1)
   | .ok n a'=>if isS l a' [46,46]then(match E (a'+1) o with
     | .bad e p n2 a2 o2=> .bad e p (.mk 21 (txt l a) [n,n2,nd0]) a2 (o2+1)
     | .ok n2 a2=>iH (fun b=> .mk 21 (txt l a) [n,n2,b]) (B a2 o))
    else .bad 4 a' (.mk 21 (txt l a) [n,nd0,nd0]) a' (o+1))
  else .bad 4 (a+1) (.mk 21 (txt l a) [nd0,nd0,nd0]) (a+1) (o+1))
 else .bad 4 a (.mk 21 [] [nd0,nd0,nd0]) a (o+1)
def stG(E B:Gr):Gr:=fun a o=>if isS l a [105,102]then ifG l E B (a+1) o
 else if isS l a [102,111,114]then an5 l E B (a+1) o
 else if mD l a&&isS l (a+1) [61]then thenS l (iH (fun n=> .mk 18 (txt l a) [n]) (E (a+2) o)) o [59]
 else thenS l (iH (fun n=> .mk 19 [] [n]) (E a o)) o [59]
def afU:Nat→Gr
 |0=>fun a o=> .bad 4 a nd0 a o
 |n+1=>stG l (lev K l (l.length+1)).1 (amY K l (afU n))
end
theorem zx{l:List Tok}{m:Nat}{S:Gr}(h:Adv 2 l m S):∀(f:Nat) (ks:List Nd) (a o:Nat),m≤a→a≤l.length→lG (iW ks) 0 2 l a o (pq l S f ks a o)
 |0,ks,a,o,hm,ha=>lu (by omega)
 |f+1,ks,a,o,hm,ha=>by
  unfold pq
  split
  ·rename_i hs;have:=bG hs;exact⟨by rw[eF];omega,by omega,by omega⟩
  ·have h1:=h a o hm ha;cases hr:S a o with
   |bad e p n a' o'=>rw[hr]at h1;exact h1
   |ok n a'=>
    rw[hr]at h1;obtain⟨h1,h3,h2⟩:=h1;have hh:=zx h f (ks++[n]) a' o (by omega) h2
    refine hh.mono (Nat.le_refl _) (by omega) ?_
    rw[dV,aT,bK];omega
theorem aiR{K:Nat}{l:List Tok}{m:Nat}{S:Gr}(h:Adv 2 l (m+1) S):Adv 2 l m (amY K l S):=by
 intro a o hm ha;unfold amY
 split
 ·rename_i hs;have:=bG hs;have hh:=mF (K:=K) (g:=fun a o=>pq l S (l.length+1) [] a o) (a:=a+1) (o:=o) (by omega) (zx h (l.length+1) [] (a+1) (o+1) (by omega) (by omega))
  exact hh.mono (Nat.le_refl _) (by omega) (by rw[bK];omega)
 ·exact⟨by omega,by omega⟩
theorem arM{l:List Tok}{m:Nat}{E B:Gr}(he:Adv 1 l m E)(hb:Adv 2 l m B){a o:Nat}(hm:m≤a)(ha:a≤l.length):lG 1 0 2 l a o (ifG l E B a o):=by
 have h1:=he a o hm ha;unfold ifG;cases hr:E a o with
 |bad e p n a' o'=>rw[hr]at h1;exact⟨by have:=h1.1;omega,by have:=h1.2;omega⟩
 |ok n a'=>
  rw[hr]at h1;obtain⟨h1,h3,h2⟩:=h1;have h4:=hb a' o (by omega) h2
  dsimp only
  cases hr2:B a' o with
  |bad e p n a' o'=>rw[hr2]at h4;exact h4
  |ok b a2=>
   rw[hr2]at h4;obtain⟨h4,h6,h5⟩:=h4
   dsimp only
   split
   ·rename_i hs;have:=bG hs;have hh:=iJ (f:=fun c=>Nd.mk 20 [] [n,b,c]) (c':=0) (s':=1+cnt n+cnt b) (hb (a2+1) o (by omega) (by omega)) (fun k=>by rw[eF,aT,aT,aT,bK];omega)
    exact hh.mono (Nat.le_refl _) (by omega) (by omega)
   ·exact⟨by rw[eF,aT,aT,bK];omega,by omega,h5⟩
theorem apQ{l:List Tok}{m:Nat}{E B:Gr}(he:Adv 1 l m E)(hb:Adv 2 l m B){a o:Nat}(hm:m≤a)(ha:a≤l.length):lG 0 0 2 l a o (an5 l E B a o):=by
 unfold an5
 split
 ·split
  ·rename_i hs;have:=bG hs;have h1:=he (a+2) o (by omega) (by omega)
   cases hr:E (a+2) o with
   |bad e p n a' o'=>rw[hr]at h1;exact⟨by have:=h1.1;omega,by have:=h1.2;omega⟩
   |ok n a'=>
    rw[hr]at h1;obtain⟨h1,h3,h2⟩:=h1
    dsimp only
    split
    ·rename_i hs2;have:=bG hs2;have h4:=he (a'+1) o (by omega) (by omega)
     cases hr2:E (a'+1) o with
     |bad e p n a' o'=>rw[hr2]at h4;exact⟨by have:=h4.1;omega,by have:=h4.2;omega⟩
     |ok n2 a2=>
      rw[hr2]at h4;obtain⟨h4,h6,h5⟩:=h4;have hh:=iJ (f:=fun b=>Nd.mk 21 (txt l a) [n,n2,b]) (c':=0) (s':=1+cnt n+cnt n2) (hb a2 o (by omega) h5) (fun k=>by rw[eF,aT,aT,aT,bK];omega)
      exact hh.mono (Nat.le_refl _) (by omega) (by omega)
    ·exact⟨by omega,by omega⟩
  ·exact⟨by omega,by omega⟩
 ·exact⟨by omega,by omega⟩
theorem atn{l:List Tok}{m:Nat}{E B:Gr}(he:Adv 1 l m E)(hb:Adv 2 l (m+1) B):Adv 2 l m (stG l E B):=by
 have he':Adv 1 l (m+1) E:=fun a o hm ha=>he a o (by omega) ha
 intro a o hm ha;unfold stG
 split
 ·rename_i hs;have:=bG hs;exact(arM he' hb (o:=o) (by omega) (by omega)).mono (Nat.le_refl _) (by omega) (by omega)
 ·split
  ·rename_i hs;have:=bG hs;exact(apQ he' hb (o:=o) (by omega) (by omega)).mono (Nat.le_refl _) (by omega) (by omega)
  ·split
   ·rename_i hs;rw[Bool.and_eq_true]at hs;have:=bG hs.2;have hh:=nL (t:=[59]) (iJ (f:=fun n=>Nd.mk 18 (txt l a) [n]) (c':=0) (s':=1) (he (a+2) o (by omega) (by omega)) (fun k=>by rw[eF,aT,bK];omega))
    exact hh.mono (by omega) (by omega) (by omega)
   ·have hh:=nL (t:=[59]) (iJ (f:=fun n=>Nd.mk 19 [] [n]) (c':=0) (s':=1) (he a o hm ha) (fun k=>by rw[eF,aT,bK];omega))
    exact hh.mono (by omega) (by omega) (by omega)
theorem uU(K:Nat)(l:List Tok):∀(n m:Nat),l.length+1≤m+n→Adv 2 l m (afU K l n)
 |0,m,h=>fun a o hm ha=>by omega
 |n+1,m,h=>atn (fun a o hm ha=>(yD K l (l.length+1) m (by omega)).1 a o hm ha) (aiR fun a o hm ha=>uU K l n (m+1) (by omega) a o (by omega) ha)
attribute [local irreducible] IntKind.wrap Go1 Reg WP aR aU bR bO aN aF ak aj aY Sat
def boS(l:List Tok)(S:Gr)(q:LiS):Res:=match q.b with
 |none=>pq l S q.f q.ks q.a q.o
 |some (e,p)=> .bad e p (.mk 22 [] q.ks) q.a q.o
theorem arN{l:List Tok}{m:Nat}{S:Gr}(hl:l.length≤1000000)(hs:GOK 292 l m S)(hA:Adv 2 l m S){a o:Nat}(hm:m≤a)(ha:a≤l.length)(ho:o≤600):
  CR rNd 452 [.ptr 81 0] [(81,PP)] l a o (pq l S (l.length+1) [] a o):=by
 generalize hR:pq l S (l.length+1) [] a o=R;refine CR.of ?_;refine aj.fnF func452 results452 ntmps452 rfl rfl rfl rfl (fun w0 T B E0 hB=>?_)
 refine SX.goM ?_
 try(refine SX.WP.aD ?_;refine SX.goM ?_)
 refine W.loop (fun q:LiS=>boS l S q=R∧(q.b=none→q.o=o∧m≤q.a∧q.a≤l.length∧l.length < q.a+q.f∧q.ks.length≤q.a)) (fun _=>[(0,.ptr 81 0),(1,.ptr 1 0),(2,.ptr 2 0)]) (fun q=>[(29,PS l q.a q.o q.b),(81,PP),(1,NZ),(2,NG 22 100),(100,NR q.ks)]) (fun q=>match q.b with|none=>l.length+1 - q.a|some _=>0) ⟨[],a,o,none,l.length+1⟩ ⟨hR,fun _=>by dsimp only;exact⟨rfl,by omega,by omega,by omega,Nat.zero_le _⟩⟩ (fun q hq=>?_)
  (by
   refine SX.St.aZ [(100,none)] (by intro b h;exact SX.bU h rfl) ?_ ?_ rfl
   ·repeat(first|exact trivial|refine⟨⟨_,rfl,SX.aG.same rfl⟩,?_⟩)
   ·exact⟨SX.ay.same rfl rfl,SX.ay.same rfl rfl,SX.ay.same rfl rfl,ay.node rfl rfl (aB.nil rfl),SX.ay.dF rfl,trivial⟩)
 obtain⟨qk,qa,qo,qb,qf⟩:=q;obtain⟨hq1,hq2⟩:=hq
 dsimp only at hq1 hq2
 cases qb with
 |some b=>
  obtain⟨ee,p⟩:=b;show WP _ _ _ (fD [(0,.ptr 81 0),(1,.ptr 1 0),(2,.ptr 2 0)] [(29,PE l qa qo ee p),(81,PP),(1,NZ),(2,NG 22 100),(100,NR qk)]) _;refine SX.goM ?_
  try(refine SX.WP.aD ?_;refine SX.goM ?_)
  subst hq1;refine aN.pF 100 (ps:=[29,81]) ?_;exact aM (ak.aX rfl rfl rfl) (bD rfl rfl rfl rfl) ⟨rfl,rfl,trivial⟩
 |none=>
  obtain⟨rfl,b1,b2,b3,b4⟩:=hq2 rfl;obtain⟨qf,rfl⟩:∃k,qf=k+1:=⟨qf - 1,by omega⟩
  show WP _ _ _ (fD [(0,.ptr 81 0),(1,.ptr 1 0),(2,.ptr 2 0)] [(29,PG l qa qo),(81,PP),(1,NZ),(2,NG 22 100),(100,NR qk)]) _;have hq1:pq l S (qf+1) qk qa qo=R:=hq1;unfold pq at hq1;cases ht:isS l qa [125]with
  |true=>
   rw[if_pos ht]at hq1;have c3:=dS qo hl ht;refine SX.goM ?_
   try(refine SX.WP.aD ?_;refine SX.goM ?_)
   subst hq1;refine aN.pF 100 (ps:=[29,81]) ?_;exact aM (ak.aX rfl rfl rfl) (bD rfl rfl rfl rfl) ⟨rfl,rfl,trivial⟩
  |false=>
   rw[if_neg (by rw[ht];decide)]at hq1
   have c3:=dI qo ht;have h3:=hs qa qo (by omega) (by omega) ho
   have h4:=hA qa qo (by omega) (by omega)
   cases hr2:S qa qo with
   |bad c p k a2 o2=>
    rw[hr2]at h3 hq1;have c4:=h3.bad;refine SX.goM ?_
    try(refine SX.WP.aD ?_;refine SX.goM ?_)
    exact W.next ⟨qk++[k],a2,o2,some (c,p),0⟩ ⟨hq1,fun h=>by cases h⟩ (by dsimp only;omega)
     (by
      refine SX.St.aZ [(100,some 19)] (by intro b h;exact SX.bU h rfl) ?_ ?_ rfl
      ·repeat(first|exact trivial|refine⟨⟨_,rfl,SX.aG.same rfl⟩,?_⟩)
      ·exact⟨SX.ay.eq rfl rfl rfl,SX.ay.same rfl rfl,SX.ay.same rfl rfl,ay.node rfl rfl (aB.own rfl),SX.ay.row rfl rfl (by simp) (bF (aH _).symm),trivial⟩)
   |ok k a2=>
    rw[hr2]at h3 hq1 h4;have c4:=h3.ok;obtain⟨j1,j2,j3⟩:=h4;have j4:=lD k;refine SX.goM ?_
    try(refine SX.WP.aD ?_;refine SX.goM ?_)
    exact W.next ⟨qk++[k],a2,qo,none,qf⟩ ⟨hq1,fun h=>by dsimp only;exact⟨rfl,by omega,by omega,by omega,by simp;omega⟩⟩ (by dsimp only;omega)
     (by
      refine SX.St.aZ [(100,some 19)] (by intro b h;exact SX.bU h rfl) ?_ ?_ rfl
      ·repeat(first|exact trivial|refine⟨⟨_,rfl,SX.aG.same rfl⟩,?_⟩)
      ·exact⟨SX.ay.eq rfl rfl rfl,SX.ay.same rfl rfl,SX.ay.same rfl rfl,ay.node rfl rfl (aB.own rfl),SX.ay.row rfl rfl (by simp) (bF (aH _).symm),trivial⟩)
theorem g_blk{l:List Tok}{m:Nat}{S:Gr}(hl:l.length≤1000000)(hs:GOK 292 l (m+1) S)(hA:Adv 2 l (m+1) S):GOK 389 l m (amY 600 l S):=by
 intro a o hm ha ho;have nm1:Named 1 81:=⟨⟩;unfold amY;cases ht:isS l a [123]with
 |true=>
  rw[if_pos rfl];have c1:=jJ o hl ht;have g5:=bG ht;have h1:=adI (f:=452) (l:=l) (a:=a+1) (o:=o) (k:=fun a o=>pq l S (l.length+1) [] a o) ho (fun h=>⟨arN hl hs hA (by omega) (by omega) (by omega),(zx hA _ _ _ _ (by omega) (by omega)).open.mono (by omega)⟩)
  cases hr:ins 600 (fun a o=>pq l S (l.length+1) [] a o) (a+1) o with
  |bad e p n a' o'=>
   rw[hr]at h1;have c3:=h1.bad;show aj _ _ _ _ _;refine aj.fnF func389 results389 ntmps389 rfl rfl rfl rfl (fun w0 T B E0 hB=>?_)
   refine SX.goM ?_
   try(refine SX.WP.aD ?_;refine SX.goM ?_)
   exact aM (ak.aX rfl rfl rfl) (AV0.imp.refl _) ⟨rfl,trivial⟩
  |ok n a'=>
   rw[hr]at h1;have c3:=h1.ok;show aj _ _ _ _ _;refine aj.fnF func389 results389 ntmps389 rfl rfl rfl rfl (fun w0 T B E0 hB=>?_)
   refine SX.goM ?_
   try(refine SX.WP.aD ?_;refine SX.goM ?_)
   exact aM (ak.aX rfl rfl rfl) (AV0.imp.refl _) ⟨rfl,trivial⟩
 |false=>
  rw[if_neg (by decide)]
  have c1:=kQ o ht;have c2:=alS (f:=452) (l:=l) (a:=a) (o:=o) (e:=4) (p:=a) (by omega)
  show aj _ _ _ _ _;refine aj.fnF func389 results389 ntmps389 rfl rfl rfl rfl (fun w0 T B E0 hB=>?_)
  refine SX.goM ?_
  try(refine SX.WP.aD ?_;refine SX.goM ?_)
  exact aM (ak.aX rfl rfl rfl) (AV0.imp.refl _) ⟨rfl,trivial⟩
theorem wD(l:List Tok)(a:Nat){o:Nat}(e p:Nat)(ho:o≤1000000):aj prog 389 [.ptr 29 0] [(29,PE l a o e p)] ⟨rNd nd0,[(29,.ent (PE l a (o+1) e p))]⟩:=by
 have nm1:Named 1 81:=⟨⟩;have c1:=je l a o e p [123];have c2:=alS (f:=452) (l:=l) (a:=a) (o:=o) (e:=e) (p:=p) ho;refine aj.fnF func389 results389 ntmps389 rfl rfl rfl rfl (fun w0 T B E0 hB=>?_)
 refine SX.goM ?_
 try(refine SX.WP.aD ?_;refine SX.goM ?_)
 exact aM (ak.aX rfl rfl rfl) (AV0.imp.refl _) ⟨rfl,trivial⟩
end
section
attribute [local irreducible] IntKind.wrap Go1 Reg WP aR aU bR bO aN aF ak aj aY Sat
theorem g_if{l:List Tok}{m:Nat}{X S:Gr}(hl:l.length≤1000000)(hs:GOK 388 l m X)(hA:Adv 1 l m X)(hb:GOK 389 l m S)(bA:Adv 2 l m S){a o:Nat}(hm:m≤a+1)(ha:a≤l.length)(ho:o≤600)(hi:isS l a [105,102]=true):
  CR rNd 292 [.ptr 29 0] [] l a o (ifG l X S (a+1) o):=by
 have mark:aaO 14:=⟨⟩;have g5:=bG hi;have k1:=dS o hl hi;have h1:=hs (a+1) o hm (by omega) ho
 have h2:=hA (a+1) o hm (by omega)
 unfold ifG;cases hr:X (a+1) o with
 |bad e p n a' o'=>
  rw[hr]at h1 h2;have k2:=h1.bad;obtain⟨j1,j2⟩:=h2;have k3:=wD l a' (o:=o') e p (by omega)
  have k4:=dB l a' (o'+1) e p [101,108,115,101];show aj _ _ _ _ _;refine aj.fnF func292 results292 ntmps292 rfl rfl rfl rfl (fun w0 T B E0 hB=>?_)
  refine SX.goM ?_;refine aN.pF 21 (ps:=[29]) ?_;exact aM (ak.aX rfl rfl rfl) (bD rfl rfl rfl (by first|(simp only[List.flatMap_cons,List.flatMap_nil,aH,List.append_nil,List.append_assoc];done)|(simp only[List.flatMap_cons,List.flatMap_nil,aH,List.append_nil,List.append_assoc];rfl))) ⟨rfl,trivial⟩
 |ok n a'=>
  rw[hr]at h1 h2;have k2:=h1.ok;obtain⟨j1,j2,j3⟩:=h2;have h3:=hb a' o (by omega) j3 ho
  have h4:=bA a' o (by omega) j3
  dsimp only
  cases hr2:S a' o with
  |bad e p b a2 o2=>
   rw[hr2]at h3;have k3:=h3.bad;have k4:=dB l a2 o2 e p [101,108,115,101];show aj _ _ _ _ _;refine aj.fnF func292 results292 ntmps292 rfl rfl rfl rfl (fun w0 T B E0 hB=>?_)
   refine SX.goM ?_;refine aN.pF 21 (ps:=[29]) ?_;exact aM (ak.aX rfl rfl rfl) (bD rfl rfl rfl (by first|(simp only[List.flatMap_cons,List.flatMap_nil,aH,List.append_nil,List.append_assoc];done)|(simp only[List.flatMap_cons,List.flatMap_nil,aH,List.append_nil,List.append_assoc];rfl))) ⟨rfl,trivial⟩
  |ok b a2=>
   rw[hr2]at h3 h4;have k3:=h3.ok;obtain⟨i1,i2,i3⟩:=h4
   dsimp only
   cases ht:isS l a2 [101,108,115,101]with
   |false=>
    rw[if_neg (by decide)]
    have k4:=dI o ht;show aj _ _ _ _ _;refine aj.fnF func292 results292 ntmps292 rfl rfl rfl rfl (fun w0 T B E0 hB=>?_)
    refine SX.goM ?_;refine aN.pF 21 (ps:=[29]) ?_;exact aM (ak.aX rfl rfl rfl) (bD rfl rfl rfl (by first|(simp only[List.flatMap_cons,List.flatMap_nil,aH,List.append_nil,List.append_assoc];done)|(simp only[List.flatMap_cons,List.flatMap_nil,aH,List.append_nil,List.append_assoc];rfl))) ⟨rfl,trivial⟩
   |true=>
    rw[if_pos rfl];have k4:=dS o hl ht;have g6:=bG ht;have h5:=hb (a2+1) o (by omega) (by omega) ho
    cases hr3:S (a2+1) o with
    |bad e p c a3 o3=>
     rw[hr3]at h5;have k5:=h5.bad;show aj _ _ _ _ _;refine aj.fnF func292 results292 ntmps292 rfl rfl rfl rfl (fun w0 T B E0 hB=>?_)
     refine SX.goM ?_;refine aN.pF 30 (ps:=[29]) ?_;exact aM (ak.aX rfl rfl rfl) (bD rfl rfl rfl (by first|(simp only[List.flatMap_cons,List.flatMap_nil,aH,List.append_nil,List.append_assoc];done)|(simp only[List.flatMap_cons,List.flatMap_nil,aH,List.append_nil,List.append_assoc];rfl))) ⟨rfl,trivial⟩
    |ok c a3=>
     rw[hr3]at h5;have k5:=h5.ok;show aj _ _ _ _ _;refine aj.fnF func292 results292 ntmps292 rfl rfl rfl rfl (fun w0 T B E0 hB=>?_)
     refine SX.goM ?_;refine aN.pF 30 (ps:=[29]) ?_;exact aM (ak.aX rfl rfl rfl) (bD rfl rfl rfl (by first|(simp only[List.flatMap_cons,List.flatMap_nil,aH,List.append_nil,List.append_assoc];done)|(simp only[List.flatMap_cons,List.flatMap_nil,aH,List.append_nil,List.append_assoc];rfl))) ⟨rfl,trivial⟩
theorem g_for{l:List Tok}{m:Nat}{X S:Gr}(hl:l.length≤1000000)(hs:GOK 388 l m X)(hA:Adv 1 l m X)(hb:GOK 389 l m S){a o:Nat}(hm:m≤a+1)(ha:a≤l.length)(ho:o≤600)(hf:isS l a [105,102]=false)(hi:isS l a [102,111,114]=true):
  CR rNd 292 [.ptr 29 0] [] l a o (an5 l X S (a+1) o):=by
 have g5:=bG hi;have k0:=dI o hf;have k1:=dS o hl hi;unfold an5;cases hn:mD l (a+1)with
 |false=>
  rw[if_neg (by decide)]
  have k2:=aq8 o hn;have k3:=je l (a+1) o 4 (a+1) [61];have k4:=yQ (l:=l) (a+1) o 4 (a+1);have k5:=je l (a+1) o 4 (a+1) [46,46];have k6:=wD l (a+1) (o:=o) 4 (a+1) (by omega)
  show aj _ _ _ _ _;refine aj.fnF func292 results292 ntmps292 rfl rfl rfl rfl (fun w0 T B E0 hB=>?_)
  refine SX.goM ?_;exact aM (ak.aX rfl rfl rfl) (bD rfl rfl rfl (by first|(simp only[List.flatMap_cons,List.flatMap_nil,aH,List.append_nil,List.append_assoc];done)|(simp only[List.flatMap_cons,List.flatMap_nil,aH,List.append_nil,List.append_assoc];rfl))) ⟨rfl,trivial⟩
 |true=>
  rw[if_pos rfl];have k2:=ahw o hl hn;have g6:=adD hn;cases ht:isS l (a+1+1) [61]with
  |false=>
   rw[if_neg (by decide)]
   have k3:=kQ o ht;have k4:=yQ (l:=l) (a+1+1) o 4 (a+1+1);have k5:=je l (a+1+1) o 4 (a+1+1) [46,46];have k6:=wD l (a+1+1) (o:=o) 4 (a+1+1) (by omega)
   show aj _ _ _ _ _;refine aj.fnF func292 results292 ntmps292 rfl rfl rfl rfl (fun w0 T B E0 hB=>?_)
   refine SX.goM ?_;exact aM (ak.aX rfl rfl rfl) (bD rfl rfl rfl (by first|(simp only[List.flatMap_cons,List.flatMap_nil,aH,List.append_nil,List.append_assoc];done)|(simp only[List.flatMap_cons,List.flatMap_nil,aH,List.append_nil,List.append_assoc];rfl))) ⟨rfl,trivial⟩
  |true=>
   rw[if_pos rfl];have k3:=jJ o hl ht;have g7:=bG ht;have h1:=hs (a+1+2) o (by omega) (by omega) ho
   have h2:=hA (a+1+2) o (by omega) (by omega)
   cases hr:X (a+1+2) o with
   |bad e p n a' o'=>
    rw[hr]at h1 h2;have k4:=h1.bad;obtain⟨j1,j2⟩:=h2;have k5:=je l a' o' e p [46,46];have k6:=yQ (l:=l) a' o' e p;have k7:=wD l a' (o:=o') e p (by omega)
    show aj _ _ _ _ _;refine aj.fnF func292 results292 ntmps292 rfl rfl rfl rfl (fun w0 T B E0 hB=>?_)
    refine SX.goM ?_;exact aM (ak.aX rfl rfl rfl) (bD rfl rfl rfl (by first|(simp only[List.flatMap_cons,List.flatMap_nil,aH,List.append_nil,List.append_assoc];done)|(simp only[List.flatMap_cons,List.flatMap_nil,aH,List.append_nil,List.append_assoc];rfl))) ⟨rfl,trivial⟩
   |ok n a'=>
    rw[hr]at h1 h2;have k4:=h1.ok;obtain⟨j1,j2,j3⟩:=h2
    dsimp only
    cases ht2:isS l a' [46,46]with
    |false=>
     rw[if_neg (by decide)]
     have k5:=kQ o ht2;have k6:=yQ (l:=l) a' o 4 a';have k7:=wD l a' (o:=o) 4 a' (by omega)
     show aj _ _ _ _ _;refine aj.fnF func292 results292 ntmps292 rfl rfl rfl rfl (fun w0 T B E0 hB=>?_)
     refine SX.goM ?_;exact aM (ak.aX rfl rfl rfl) (bD rfl rfl rfl (by first|(simp only[List.flatMap_cons,List.flatMap_nil,aH,List.append_nil,List.append_assoc];done)|(simp only[List.flatMap_cons,List.flatMap_nil,aH,List.append_nil,List.append_assoc];rfl))) ⟨rfl,trivial⟩
    |true=>
     rw[if_pos rfl];have k5:=jJ o hl ht2;have g8:=bG ht2;have h3:=hs (a'+1) o (by omega) (by omega) ho
     have h4:=hA (a'+1) o (by omega) (by omega)
     cases hr2:X (a'+1) o with
     |bad e p n2 a2 o2=>
      rw[hr2]at h3 h4;have k6:=h3.bad;obtain⟨j1,j2⟩:=h4;have k7:=wD l a2 (o:=o2) e p (by omega)
      show aj _ _ _ _ _;refine aj.fnF func292 results292 ntmps292 rfl rfl rfl rfl (fun w0 T B E0 hB=>?_)
      refine SX.goM ?_;exact aM (ak.aX rfl rfl rfl) (bD rfl rfl rfl (by first|(simp only[List.flatMap_cons,List.flatMap_nil,aH,List.append_nil,List.append_assoc];done)|(simp only[List.flatMap_cons,List.flatMap_nil,aH,List.append_nil,List.append_assoc];rfl))) ⟨rfl,trivial⟩
     |ok n2 a2=>
      rw[hr2]at h3 h4;have k6:=h3.ok;obtain⟨i1,i2,i3⟩:=h4
      dsimp only
      have h5:=hb a2 o (by omega) i3 ho
      cases hr3:S a2 o with
      |bad e p c a3 o3=>
       rw[hr3]at h5;have k7:=h5.bad;show aj _ _ _ _ _;refine aj.fnF func292 results292 ntmps292 rfl rfl rfl rfl (fun w0 T B E0 hB=>?_)
       refine SX.goM ?_;exact aM (ak.aX rfl rfl rfl) (bD rfl rfl rfl (by first|(simp only[List.flatMap_cons,List.flatMap_nil,aH,List.append_nil,List.append_assoc];done)|(simp only[List.flatMap_cons,List.flatMap_nil,aH,List.append_nil,List.append_assoc];rfl))) ⟨rfl,trivial⟩
      |ok c a3=>
       rw[hr3]at h5;have k7:=h5.ok;show aj _ _ _ _ _;refine aj.fnF func292 results292 ntmps292 rfl rfl rfl rfl (fun w0 T B E0 hB=>?_)
       refine SX.goM ?_;exact aM (ak.aX rfl rfl rfl) (bD rfl rfl rfl (by first|(simp only[List.flatMap_cons,List.flatMap_nil,aH,List.append_nil,List.append_assoc];done)|(simp only[List.flatMap_cons,List.flatMap_nil,aH,List.append_nil,List.append_assoc];rfl))) ⟨rfl,trivial⟩
def HT(l:List Tok):Prop:=∀(i:Nat) (t:Tok),l[i]? =some t→t.text=[61]→t.kind≠1
theorem anw{l:List Tok}(hT:HT l){a:Nat}{t:Tok}(ht:l[a]? =some t):isS l a [61]=decide (t.text=[61]):=by
 unfold isS;rw[ht]
 dsimp only
 by_cases h:t.text=[61]
 ·simp[h,hT a t ht h]
 ·simp[h]
theorem g_let{l:List Tok}{m:Nat}{X:Gr}(hl:l.length≤1000000)(hT:HT l)(hs:GOK 388 l m X)(hA:Adv 1 l m X){a o:Nat}(hm:m≤a+2)(ha:a≤l.length)(ho:o≤600)(hf:isS l a [105,102]=false)(hi:isS l a [102,111,114]=false)(hn:mD l a=true)(he:isS l (a+1) [61]=true):
  CR rNd 292 [.ptr 29 0] [] l a o (thenS l (iH (fun n=> .mk 18 (txt l a) [n]) (X (a+2) o)) o [59]):=by
 have k0:=dI o hf;have k1:=dI o hi;have k2:=qP l a o;rw[hn]at k2;have k3:=ahw o hl hn;have k4:=jJ o hl he;have g5:=bG he;obtain⟨⟨tk,tt,tp⟩,ht⟩:∃t,l[a+1]? =some t:=⟨_,zq2 g5⟩
 rw[anw hT ht]at he
 dsimp only at he
 have h1:=hs (a+2) o (by omega) (by omega) ho
 cases hr:X (a+2) o with
 |bad e p n a' o'=>
  rw[hr]at h1;have k5:=h1.bad;have k6:=je l a' o' e p [59];show aj _ _ _ _ _;refine aj.fnF func292 results292 ntmps292 rfl rfl rfl rfl (fun w0 T B E0 hB=>?_)
  refine SX.goM ?_;exact aM (ak.aX rfl rfl rfl) (bD rfl rfl rfl (by first|(simp only[List.flatMap_cons,List.flatMap_nil,aH,List.append_nil,List.append_assoc];done)|(simp only[List.flatMap_cons,List.flatMap_nil,aH,List.append_nil,List.append_assoc];rfl))) ⟨rfl,trivial⟩
 |ok n a'=>
  rw[hr]at h1;have k5:=h1.ok;unfold thenS iH
  dsimp only
  cases ht2:isS l a' [59]with
  |true=>
   rw[if_pos rfl];have k6:=jJ o hl ht2;show aj _ _ _ _ _;refine aj.fnF func292 results292 ntmps292 rfl rfl rfl rfl (fun w0 T B E0 hB=>?_)
   refine SX.goM ?_;exact aM (ak.aX rfl rfl rfl) (bD rfl rfl rfl (by first|(simp only[List.flatMap_cons,List.flatMap_nil,aH,List.append_nil,List.append_assoc];done)|(simp only[List.flatMap_cons,List.flatMap_nil,aH,List.append_nil,List.append_assoc];rfl))) ⟨rfl,trivial⟩
  |false=>
   rw[if_neg (by decide)]
   have k6:=kQ o ht2;show aj _ _ _ _ _;refine aj.fnF func292 results292 ntmps292 rfl rfl rfl rfl (fun w0 T B E0 hB=>?_)
   refine SX.goM ?_;exact aM (ak.aX rfl rfl rfl) (bD rfl rfl rfl (by first|(simp only[List.flatMap_cons,List.flatMap_nil,aH,List.append_nil,List.append_assoc];done)|(simp only[List.flatMap_cons,List.flatMap_nil,aH,List.append_nil,List.append_assoc];rfl))) ⟨rfl,trivial⟩
theorem as6{l:List Tok}{m:Nat}{X:Gr}(hl:l.length≤1000000)(hT:HT l)(hs:GOK 388 l m X){a o:Nat}(hm:m≤a)(ha:a≤l.length)(ho:o≤600)(hf:isS l a [105,102]=false)(hi:isS l a [102,111,114]=false)(hn:(mD l a&&isS l (a+1) [61])=false):
  CR rNd 292 [.ptr 29 0] [] l a o (thenS l (iH (fun n=> .mk 19 [] [n]) (X a o)) o [59]):=by
 have k0:=dI o hf;have k1:=dI o hi;have k2:=qP l a o;have h1:=hs a o hm ha ho
 -- what is behind,whatever it be
 have key:∀{n a' o'} {b:Option (Nat×Nat)},aj prog 388 [.ptr 29 0] [(29,PG l a o)] ⟨rNd n,[(29,.ent (PS l a' o' b))]⟩→∀{a2 o2 b2},aj prog 391 [.ptr 29 0,.v (str [59])] [(29,PS l a' o' b)] ⟨.tup [],[(29,.ent (PS l a2 o2 b2))]⟩→
   aj prog 292 [.ptr 29 0] [(29,PG l a o)] ⟨rNd (.mk 19 [] [n]),[(29,.ent (PS l a2 o2 b2))]⟩:=by
  intro n a' o' b k5 a2 o2 b2 k6;cases hn1:mD l a with
  |false=>
   rw[hn1]at k2;show aj _ _ _ _ _;refine aj.fnF func292 results292 ntmps292 rfl rfl rfl rfl (fun w0 T B E0 hB=>?_)
   refine SX.goM ?_;exact aM (ak.aX rfl rfl rfl) (bD rfl rfl rfl (by first|(simp only[List.flatMap_cons,List.flatMap_nil,aH,List.append_nil,List.append_assoc];done)|(simp only[List.flatMap_cons,List.flatMap_nil,aH,List.append_nil,List.append_assoc];rfl))) ⟨rfl,trivial⟩
  |true=>
   rw[hn1]at k2 hn;have he:isS l (a+1) [61]=false:=by simpa using hn
   by_cases hlt:a+1 < l.length
   ·obtain⟨⟨tk,tt,tp⟩,ht⟩:∃t,l[a+1]? =some t:=⟨_,zq2 hlt⟩
    rw[anw hT ht]at he
    dsimp only at he
    show aj _ _ _ _ _;refine aj.fnF func292 results292 ntmps292 rfl rfl rfl rfl (fun w0 T B E0 hB=>?_)
    refine SX.goM ?_;exact aM (ak.aX rfl rfl rfl) (bD rfl rfl rfl (by first|(simp only[List.flatMap_cons,List.flatMap_nil,aH,List.append_nil,List.append_assoc];done)|(simp only[List.flatMap_cons,List.flatMap_nil,aH,List.append_nil,List.append_assoc];rfl))) ⟨rfl,trivial⟩
   ·have g6:=adD hn1;show aj _ _ _ _ _;refine aj.fnF func292 results292 ntmps292 rfl rfl rfl rfl (fun w0 T B E0 hB=>?_)
    refine SX.goM ?_;exact aM (ak.aX rfl rfl rfl) (bD rfl rfl rfl (by first|(simp only[List.flatMap_cons,List.flatMap_nil,aH,List.append_nil,List.append_assoc];done)|(simp only[List.flatMap_cons,List.flatMap_nil,aH,List.append_nil,List.append_assoc];rfl))) ⟨rfl,trivial⟩
 cases hr:X a o with
 |bad e p n a' o'=>
  rw[hr]at h1;exact key (b:=some (e,p)) h1.bad (b2:=some (e,p)) (je l a' o' e p [59])
 |ok n a'=>
  rw[hr]at h1;unfold thenS iH
  dsimp only
  cases ht2:isS l a' [59]with
  |true=>
   rw[if_pos rfl];exact key (b:=none) h1.ok (b2:=none) (jJ o hl ht2)
  |false=>
   rw[if_neg (by decide)]
   exact key (b:=none) h1.ok (b2:=some (4,a')) (kQ o ht2)
theorem g_st{l:List Tok}{m:Nat}{X S:Gr}(hl:l.length≤1000000)(hT:HT l)(hs:GOK 388 l m X)(hA:Adv 1 l m X)(hb:GOK 389 l (m+1) S)(bA:Adv 2 l (m+1) S):GOK 292 l m (stG l X S):=by
 intro a o hm ha ho;have hs':GOK 388 l (m+1) X:=fun a o hm ha=>hs a o (by omega) ha
 have hA':Adv 1 l (m+1) X:=fun a o hm ha=>hA a o (by omega) ha
 unfold stG;cases h1:isS l a [105,102]with
 |true=>exact g_if hl hs' hA' hb bA (by omega) ha ho h1
 |false=>
  cases h2:isS l a [102,111,114]with
  |true=>exact g_for hl hs' hA' hb (by omega) ha ho h1 h2
  |false=>
   cases h3:mD l a&&isS l (a+1) [61]with
   |true=>
    have h4:=h3;rw[Bool.and_eq_true]at h4;exact g_let hl hT hs' hA' (by omega) ha ho h1 h2 h4.1 h4.2
   |false=>exact as6 hl hT hs hm ha ho h1 h2 h3
theorem ao0{l:List Tok}(hl:l.length≤1000000)(hT:HT l):∀(n m:Nat),l.length+1≤m+n→GOK 292 l m (afU 600 l n)
 |0,m,h=>fun a o hm ha=>by omega
 |n+1,m,h=>g_st hl hT (fun a o hm ha ho=>(ar1 hl (l.length+1) m (by omega)).1 a o hm ha ho) (fun a o hm ha=>(yD 600 l (l.length+1) m (by omega)).1 a o hm ha) (g_blk hl (fun a o hm ha ho=>ao0 hl hT n (m+1) (by omega) a o (by omega) ha ho) (fun a o hm ha=>uU 600 l n (m+1) (by omega) a o (by omega) ha)) (aiR fun a o hm ha=>uU 600 l n (m+1) (by omega) a o (by omega) ha)
end
section
section
theorem asM(n:Nd):cnt n=1+iW n.kids:=by cases n;rw[eF];rfl
theorem xg:∀L:List Nd,iW (L.flatMap Nd.kids)+L.length=iW L
 |[]=>by simp[bK]
 |k::ks=>by rw[List.flatMap_cons,dV,aT,asM,List.length_cons,←xg ks];omega
theorem ajR(L:List Nd)(j:Nat):iW ((L.take j).flatMap Nd.kids)≤iW L:=by
 have h1:=xg (L.take j);have h2:iW (L.take j++L.drop j)=iW L:=by rw[List.take_append_drop]
 rw[dV]at h2;omega
theorem aed(L:List Nd)(j:Nat):((L.take j).flatMap Nd.kids).length≤iW L:=Nat.le_trans (uE _) (ajR L j)
theorem abu{L:List Nd}{j:Nat}{n:Nd}(h:L[j]? =some n):(L.take (j+1)).flatMap Nd.kids=(L.take j).flatMap Nd.kids++n.kids:=by
 rw[List.take_add_one,h];simp
mutual
def dep:Nd→Nat
 | .mk _ _ ks=>if ks.isEmpty then 0 else 1+jU ks
def jU:List Nd→Nat
 |[]=>0
 |k::ks=>max (dep k) (jU ks)
end
theorem kU:jU []=0:=by rw[jU]
theorem kC(k:Nd)(ks:List Nd):jU (k::ks)=max (dep k) (jU ks):=by rw[jU]
theorem aa1(n:Nd):dep n=if n.kids.isEmpty then 0 else 1+jU n.kids:=by cases n;rw[dep];rfl
theorem xO:∀ks ms:List Nd,jU (ks++ms)=max (jU ks) (jU ms)
 |[],ms=>by simp[kU]
 |k::ks,ms=>by rw[List.cons_append,kC,kC,xO ks ms];omega
theorem abw:∀L:List Nd,jU L=if L.flatMap Nd.kids=[]then 0 else 1+jU (L.flatMap Nd.kids)
 |[]=>by simp[kU]
 |k::ks=>by
  rw[kC,aa1,abw ks,List.flatMap_cons,xO];cases hk:k.kids with
  |nil=>simp[kU]
  |cons a b=>
   by_cases h:ks.flatMap Nd.kids=[]
   ·simp[h,kU]
   ·simp[h,Nat.add_max_add_left]
theorem ad3:∀L:List Nd,jU L≤iW L
 |[]=>by simp[kU]
 | .mk o t ks::ms=>by
  have h1:=ad3 ks;have h2:=ad3 ms;rw[kC,aT,eF,dep]
  split <;> omega
attribute [local irreducible] IntKind.wrap Go1 Reg WP aR aU bR bO aN aF ak aj aY Sat
def ndE(n:Nd):List CA:=caN n
instance:dH ndE 3:=⟨fun n=>rfl⟩
theorem aij(l:List Nd):AV.r (aA 3 ndC l)=AV.r (aA 3 ndE l):=by rw[show ndC=ndE from funext aH]
structure DeS where
 n:Nat
 L:List Nd
 out:Nat
instance atF(l:List Nd):Con prog 293 [.r (aA 3 ndC l)] (iW l≤1000000000) (.v (.int .i64 (jU l:Int))):=⟨fun hl=>by
 have hd:=ad3 l;have hrow:=aij l;refine ah.fnF func293 results293 ntmps293 rfl rfl rfl (by simp[AV.ids,AV0.ids,Atom.ids]) rfl (fun w0 T B E0 hB=>?_)
 refine SX.goM ?_;refine W.loop (fun q:DeS=>(q.L≠[]→jU l=q.n+jU q.L)∧(q.L=[]→jU l=q.out)∧iW q.L+q.n≤iW l∧q.out≤q.n) (fun q=>[(3,.r (aA 3 ndE q.L)),(4,.v (.int .i64 (q.out:Int))),(5,.v (.int .i64 (q.n:Int)))]) (fun _=>[]) (fun q=>iW q.L) ⟨0,l,0⟩ ⟨fun _=>by dsimp only;omega,fun h=>by dsimp only at*;subst h;exact kU,by dsimp only;omega,Nat.le_refl _⟩ (fun q hq=>?_)
 obtain⟨n,L,out⟩:=q
 dsimp only at hq
 obtain⟨h1,h2,h3,h4⟩:=hq;show WP _ _ _ (fD [(3,.r (aA 3 ndE L)),(4,.v (.int .i64 (out:Int))),(5,.v (.int .i64 (n:Int)))] []) _;have hlen:=uE L;refine SX.goM ?_;refine W.mH (fun(j:Nat) (M:List Nd)=>j≤L.length∧M=(L.take j).flatMap Nd.kids) (fun j M=>[(3,.r (aA 3 ndE L)),(4,.v (.int .i64 (out:Int))),(5,.v (.int .i64 (n:Int))),(6,.own 100),(12,.r (aA 3 ndE L)),(13,.v (.int .i64 (L.length:Int))),(14,.v (.int .i64 (j:Int)))]) (fun j M=>[(100,NR M)]) (fun j _=>L.length - j) 0 [] ⟨Nat.zero_le _,rfl⟩ (fun j M ⟨hj,hM⟩=>?_)
 have hm:=aed L j;rw[←hM]at hm;by_cases hlt:j < L.length
 ·obtain⟨k,hk⟩:∃k,L[j]? =some k:=⟨_,zq2 hlt⟩
  have hm2:=aed L (j+1);rw[abu hk,←hM,List.length_append]at hm2;refine SX.goM ?_;exact W.lS (j+1) (M++k.kids) ⟨by omega,by rw[hM,abu hk]⟩ (by omega)
   (by
    refine SX.St.aZ [(100,some 21)] (by intro b h;cases h) ?_ ?_ rfl
    ·repeat(first|exact trivial|refine⟨⟨_,rfl,SX.aG.same rfl⟩,?_⟩|refine⟨⟨_,rfl,SX.aG.own rfl⟩,?_⟩)
    ·exact⟨SX.ay.row rfl rfl (by simp) (by simp),trivial⟩)
 ·have hrow2:=aij M;refine WP.freeze 100 hB rfl ?_;have hj:L.take j=L:=List.take_of_length_le (by omega)
  rw[hj]at hM;have hdf:=abw L;have hcf:=xg L;rw[←hM]at hdf hcf;by_cases h0:L.length=0
  ·have hL:=List.eq_nil_of_length_eq_zero h0;refine SX.goM ?_;exact gM (by rw[h2 hL])
  ·have hL:L≠[]:=fun e=>h0 (by rw[e];rfl)
   refine SX.goM ?_;exact W.next ⟨n+1,M,n⟩ ⟨fun h=>by dsimp only at*;rw[if_neg h]at hdf;have:=h1 hL;omega,fun h=>by dsimp only at*;rw[if_pos h]at hdf;have:=h1 hL;omega,by dsimp only;omega,by dsimp only;omega⟩ (by dsimp only;omega)
    (SX.St.aZ [] (by intro b h;cases h) ⟨⟨_,rfl,SX.aG.eq hrow2 rfl⟩,⟨_,rfl,SX.aG.same rfl⟩,⟨_,rfl,SX.aG.same rfl⟩,trivial⟩ trivial rfl)⟩
structure CoS where
 L:List Nd
 c:Nat
end
section
def tQ(l:List Tok)(S:Gr):Nat→List Nd→Gr
 |0,_=>fun a o=> .bad 4 a nd0 a o
 |f+1,ks=>fun a o=>if a < l.length then(match S a o with
  | .bad e p n a' o'=> .bad e p (.mk 0 [] (ks++[n])) a' o'
  | .ok n a'=>tQ l S f (ks++[n]) a' o)
  else .ok (.mk 0 [] ks) a
def afA(l:List Tok):Res:=tQ l (afU 600 l (l.length+1)) (l.length+1) [] 0 0
def aj8(ks:List Nd)(d:Int):List Nd×Nat×Nat:=if d < (jU ks:Int)then([],0,8)else(ks,0,0)
def sU(l:List Tok)(d:Int):List Nd×Nat×Nat:=
 if d < 0∨200 < d then([],0,1)else
 if l.all gY then(match afA l with
  | .bad e p _ _ _=>([],p,e)
  | .ok n _=>aj8 n.kids d)
 else([],0,1)
abbrev tupP(r:List Nd×Nat×Nat):AV:= .tup [.one (.c (.sat (aA 3 ndC r.1))),.one (.c (.val (.int .i64 (r.2.1:Int)))),.one (.c (.val (.int .i64 (r.2.2:Int))))]
theorem ap0{t:Tok}(h:gY t=true)(ht:t.text=[61]):t.kind≠1:=by
 intro hk;have hs:srt 61=5:=by unfold srt;decide
 have hn:num [61]=false:=by unfold num dgL;simp[hs]
 unfold gY at h;rw[if_pos hk,ht,hn]at h;cases h
theorem ht_of{l:List Tok}(h:l.all gY=true):HT l:=fun i t ht he=>ap0 (List.all_eq_true.1 h t (zq4 ht)) he
def prS(l:List Tok)(S:Gr)(q:LiS):Res:=match q.b with
 |none=>tQ l S q.f q.ks q.a q.o
 |some (e,p)=> .bad e p (.mk 0 [] q.ks) q.a q.o
attribute [local irreducible] IntKind.wrap Go1 Reg WP aR aU bR bO aN aF ak aj aY Sat
theorem aqk(l:List Tok)(d:Int)(hl:l.length≤1000000)(ht:∀t∈l,t.text.length≤9223372036854775807):ah prog 185 [.r (aA 3 aaK l),.v (.int .i64 d)] (tupP (sU l d)):=by
 unfold sU;by_cases hd:d < 0∨200 < d
 ·rw[if_pos hd];by_cases h0:d < 0
  ·refine ah.fnF func185 results185 ntmps185 rfl rfl rfl (by simp[AV.ids,AV0.ids,Atom.ids]) rfl (fun w0 T B E0 hB=>?_)
   refine SX.goM ?_;refine vg (ak.tmp rfl) (ak.tmp rfl) (ak.tmp rfl) imp_nil (AV0.imp.refl _) (AV0.imp.refl _)
  ·refine ah.fnF func185 results185 ntmps185 rfl rfl rfl (by simp[AV.ids,AV0.ids,Atom.ids]) rfl (fun w0 T B E0 hB=>?_)
   refine SX.goM ?_;refine vg (ak.tmp rfl) (ak.tmp rfl) (ak.tmp rfl) imp_nil (AV0.imp.refl _) (AV0.imp.refl _)
 ·rw[if_neg hd];generalize hV:(if l.all gY then(match afA l with
   | .bad e p _ _ _=>(([],p,e):List Nd×Nat×Nat)
   | .ok n _=>aj8 n.kids d)else([],0,1))=V
  refine ah.fnF func185 results185 ntmps185 rfl rfl rfl (by simp[AV.ids,AV0.ids,Atom.ids]) rfl (fun w0 T B E0 hB=>?_)
  refine SX.goM ?_;refine W.loop (fun k:Nat=>k≤l.length∧∀i t,i < k→l[i]? =some t→gY t=true) (fun k=>[(0,.r (aA 3 aaK l)),(1,.v (.int .i64 d)),(17,.r (aA 3 aaK l)),(18,.v (.int .i64 (l.length:Int))),(19,.v (.int .i64 (k:Int)))]) (fun _=>[]) (fun k=>l.length - k) 0 ⟨Nat.zero_le _,fun i t h=>by omega⟩ (fun k ⟨hk,hT⟩=>?_)
  by_cases hlt:k < l.length
  ·obtain⟨⟨tk,tt,tp⟩,htk⟩:∃t,l[k]? =some t:=⟨_,zq2 hlt⟩
   have htt:tt.length≤9223372036854775807:=ht _ (zq4 htk);have cI:ah prog 291 [.agg (tokA ⟨tk,tt,tp⟩)] (.v (.bool (gY ⟨tk,tt,tp⟩))):=(asC ⟨tk,tt,tp⟩).h htt;cases hi:gY ⟨tk,tt,tp⟩with
   |false=>
    rw[hi]at cI;have hall:l.all gY=false:=by
     rw[List.all_eq_false];exact⟨_,zq4 htk,by rw[hi];decide⟩
    rw[hall,if_neg (by decide)]at hV
    refine SX.goM ?_;subst hV;refine vg (ak.tmp rfl) (ak.tmp rfl) (ak.tmp rfl) imp_nil (AV0.imp.refl _) (AV0.imp.refl _)
   |true=>
    rw[hi]at cI;refine SX.goM ?_;refine W.next (k+1) ⟨by omega,fun i t h1 h2=>?_⟩ (by omega)
    by_cases e:i=k
    ·subst e;rw[htk]at h2;cases h2;exact hi
    ·exact hT i t (by omega) h2
  ·have hall:l.all gY=true:=by
    rw[List.all_eq_true];intro t htm;obtain⟨i,hi⟩:=List.getElem?_of_mem htm
    exact hT i t (by have:=(List.getElem?_eq_some_iff.1 hi).1;omega) hi
   rw[hall,if_pos rfl]at hV;have gs:=ao0 hl (ht_of hall) (l.length+1) 0 (by omega)
   have ga:=uU 600 l (l.length+1) 0 (by omega)
   unfold afA at hV;generalize afU 600 l (l.length+1)=S at hV gs ga;generalize hR:tQ l S (l.length+1) [] 0 0=R at hV;refine SX.goM ?_;refine W.loop (fun q:LiS=>prS l S q=R∧(q.b=none→q.o=0∧q.a≤l.length∧l.length < q.a+q.f∧iW q.ks≤q.a)) (fun _=>[(0,.r (aA 3 aaK l)),(1,.v (.int .i64 d)),(9,.ptr 29 0),(10,.own 100)]) (fun q=>[(29,PS l q.a q.o q.b),(100,NR q.ks)]) (fun q=>match q.b with|none=>l.length+1 - q.a|some _=>0) ⟨[],0,0,none,l.length+1⟩ ⟨hR,fun _=>by dsimp only;exact⟨rfl,by omega,by omega,by rw[bK];omega⟩⟩ (fun q hq=>?_)
    (by
     refine SX.St.aZ [(100,none)] (by intro b h;cases h) ?_ ?_ rfl
     ·repeat(first|exact trivial|refine⟨⟨_,rfl,SX.aG.same rfl⟩,?_⟩|refine⟨⟨_,rfl,SX.aG.nil rfl⟩,?_⟩)
     ·exact⟨SX.ay.eq rfl rfl rfl,SX.ay.dF rfl,trivial⟩)
   obtain⟨qk,qa,qo,qb,qf⟩:=q;obtain⟨hq1,hq2⟩:=hq
   dsimp only at hq1 hq2
   cases qb with
   |some b=>
    obtain⟨ee,p⟩:=b;show WP _ _ _ (fD [(0,.r (aA 3 aaK l)),(1,.v (.int .i64 d)),(9,.ptr 29 0),(10,.own 100)] [(29,PE l qa qo ee p),(100,NR qk)]) _;refine SX.goM ?_;subst hq1;subst hV;refine vg (ak.tmp rfl) (ak.tmp rfl) (ak.tmp rfl) imp_nil (AV0.imp.refl _) (AV0.imp.refl _)
   |none=>
    obtain⟨rfl,b2,b3,b4⟩:=hq2 rfl;obtain⟨qf,rfl⟩:∃k,qf=k+1:=⟨qf - 1,by omega⟩
    show WP _ _ _ (fD [(0,.r (aA 3 aaK l)),(1,.v (.int .i64 d)),(9,.ptr 29 0),(10,.own 100)] [(29,PG l qa 0),(100,NR qk)]) _;have hq1:tQ l S (qf+1) qk qa 0=R:=hq1;unfold tQ at hq1;have hlk:=uE qk;by_cases hlt2:qa < l.length
    ·rw[if_pos hlt2]at hq1;have h3:=gs qa 0 (by omega) (by omega) (by omega)
     have h4:=ga qa 0 (by omega) (by omega)
     cases hr2:S qa 0 with
     |bad c p k a2 o2=>
      rw[hr2]at h3 hq1;have c4:=h3.bad;refine SX.goM ?_;exact W.next ⟨qk++[k],a2,o2,some (c,p),0⟩ ⟨hq1,fun h=>by cases h⟩ (by dsimp only;omega)
       (by
        refine SX.St.aZ [(100,some 48)] (by intro b h;cases h) ?_ ?_ rfl
        ·repeat(first|exact trivial|refine⟨⟨_,rfl,SX.aG.same rfl⟩,?_⟩|refine⟨⟨_,rfl,SX.aG.own rfl⟩,?_⟩)
        ·exact⟨SX.ay.eq rfl rfl rfl,SX.ay.row rfl rfl (by simp) (bF (aH _).symm),trivial⟩)
     |ok k a2=>
      rw[hr2]at h3 hq1 h4;have c4:=h3.ok;obtain⟨j1,j2,j3⟩:=h4;have j4:=lD k;refine SX.goM ?_;exact W.next ⟨qk++[k],a2,0,none,qf⟩ ⟨hq1,fun h=>by dsimp only;exact⟨rfl,by omega,by omega,by rw[dV,aT,bK];omega⟩⟩ (by dsimp only;omega)
       (by
        refine SX.St.aZ [(100,some 48)] (by intro b h;cases h) ?_ ?_ rfl
        ·repeat(first|exact trivial|refine⟨⟨_,rfl,SX.aG.same rfl⟩,?_⟩|refine⟨⟨_,rfl,SX.aG.own rfl⟩,?_⟩)
        ·exact⟨SX.ay.eq rfl rfl rfl,SX.ay.row rfl rfl (by simp) (bF (aH _).symm),trivial⟩)
    ·rw[if_neg hlt2]at hq1;have cD:ah prog 293 [.r (aA 3 ndC qk)] (.v (.int .i64 (jU qk:Int))):=Con.use (by omega)
     refine WP.freeze 100 hB rfl ?_;subst hq1;have hV:aj8 qk d=V:=hV;unfold aj8 at hV;by_cases hdd:d < (jU qk:Int)
     ·rw[if_pos hdd]at hV;refine SX.goM ?_;subst hV;refine vg (ak.tmp rfl) (ak.tmp rfl) (ak.tmp rfl) imp_nil (AV0.imp.refl _) (AV0.imp.refl _)
     ·rw[if_neg hdd]at hV;refine SX.goM ?_;subst hV;refine vg (ak.tmp rfl) (ak.tmp rfl) (ak.tmp rfl) (AV0.imp.refl _) (AV0.imp.refl _) (AV0.imp.refl _)
end
end
section
attribute [local irreducible] IntKind.wrap Go1 Reg WP aR aU bR bO aN aF ak aj aY Sat
abbrev tupQ(x:List Nd)(p e:Nat):AV:= .tup [.one (.c (.sat (aA 3 ndC x))),.one (.c (.val (.int .i64 (p:Int)))),.one (.c (.val (.int .i64 (e:Int))))]
theorem agR{l:List Tok}{d:Int}{x:List Nd}{p e:Nat}(hl:l.length≤1000000)(ht:∀t∈l,t.text.length≤9223372036854775807)(h:sU l d=(x,p,e)):ah prog 185 [.r (aA 3 aaK l),.v (.int .i64 d)] (tupQ x p e):=by
 have:=aqk l d hl ht;rw[h]at this;exact this
end
section
abbrev Wrd:=Int×List UInt8
abbrev sg(s:List UInt8):Wrd:=(3,s)
def kt(t:Tok):Wrd:=(t.kind,t.text)
def aat(s:Wrd):List (List Wrd)→List Wrd
 |[]=>[]
 |[x]=>x
 |x::y::r=>x++s::aat s (y::r)
def tx(k:Int)(t:List UInt8):Bool:=gY ⟨k,t,0⟩&&!ownB t
def manyB(o:Int)(n:Nat):Bool:=if o=13∨o=16 then true else if o=17 then decide (n=2∨n=3)else if o=3 then decide (n=1)else decide (4≤o∧o≤12)&&decide (n=2)
mutual
def okE:Nd→Bool
 | .mk o t ks=>if o=1∨o=2 then tx o t&&ks.isEmpty
   else if o=14 then decide (t=[])&&(!ks.isEmpty&&okRL ks)
   else manyB o ks.length&&(if o=13 then tx 2 t else decide (t=[]))&&okEL ks
def okEL:List Nd→Bool
 |[]=>true
 |k::ks=>okE k&&okEL ks
def okR:Nd→Bool
 | .mk o t ks=>decide (o=15)&&decide (t=[])&&!ks.isEmpty&&okEL ks
def okRL:List Nd→Bool
 |[]=>true
 |k::ks=>okR k&&okRL ks
end
def rst(l:List Tok)(a:Nat):List Wrd:=(l.map kt).drop a
def hS(r:List Wrd)(s:List UInt8):Bool:=match r with
 |[]=>false
 |w::_=>!decide (w.1=1)&&decide (w.2=s)
def hN(r:List Wrd):Bool:=match r with
 |[]=>false
 |w::_=>decide (w.1=2)&&!ownB w.2
theorem adp(l:List Tok)(a:Nat):(rst l a).head? =(l[a]?).map kt:=by
 unfold rst;rw[List.head?_drop,List.getElem?_map]
theorem bL(l:List Tok)(a:Nat)(s:List UInt8):isS l a s=hS (rst l a) s:=by
 have h:=adp l a;unfold isS hS;cases hl:l[a]? with
 |none=>rw[hl]at h;cases hr:rst l a with|nil=>rfl|cons w r=>rw[hr]at h;cases h
 |some t=>
  rw[hl]at h;cases hr:rst l a with
  |nil=>rw[hr]at h;cases h
  |cons w r=>rw[hr]at h;simp at h;rw[h];rfl
theorem zy(l:List Tok)(a:Nat):mD l a=hN (rst l a):=by
 have h:=adp l a;unfold mD hN;cases hl:l[a]? with
 |none=>rw[hl]at h;cases hr:rst l a with|nil=>rfl|cons w r=>rw[hr]at h;cases h
 |some t=>
  rw[hl]at h;cases hr:rst l a with
  |nil=>rw[hr]at h;cases h
  |cons w r=>rw[hr]at h;simp at h;rw[h];rfl
theorem aeK{l:List Tok}{a:Nat}{w:Wrd}{r:List Wrd}(h:rst l a=w::r):∃t,l[a]? =some t∧t.kind=w.1∧t.text=w.2:=by
 have h1:=adp l a;rw[h]at h1;cases hl:l[a]? with
 |none=>rw[hl]at h1;cases h1
 |some t=>rw[hl]at h1;simp at h1;exact⟨t,rfl,by rw[h1];rfl,by rw[h1];rfl⟩
theorem aqE{l:List Tok}{a:Nat}{w:Wrd}{r:List Wrd}(h:rst l a=w::r):txt l a=w.2:=by
 obtain⟨t,h1,_,h2⟩:=aeK h;unfold txt;rw[h1];exact h2
theorem mK{l:List Tok}{a:Nat}{w:Wrd}{r:List Wrd}(h:rst l a=w::r):rst l (a+1)=r:=by
 unfold rst at h ⊢;rw[←List.drop_drop,h];rfl
theorem jC{l:List Tok}{a:Nat}{u r:List Wrd}(h:rst l a=u++r):rst l (a+u.length)=r:=by
 unfold rst at h ⊢;rw[←List.drop_drop,h,List.drop_left' rfl]
theorem aib{l:List Tok}{a:Nat}{u:List Wrd}(h:rst l a=u)(h0:u≠[]):a+u.length=l.length:=by
 have h1:(rst l a).length=l.length - a:=by unfold rst;rw[List.length_drop,zq5]
 rw[h]at h1;have:u.length≠0:=by simpa using h0
 omega
def aem(r:List Wrd):Prop:=∀s∈([[91],[94],[42],[47],[43],[45],[61,61],[33,61],[60],[60,61],[40]]:List (List UInt8)),hS r s=false
theorem rG{s:List UInt8}(h:s∉([[91],[94],[42],[47],[43],[45],[61,61],[33,61],[60],[60,61],[40]]:List (List UInt8)))(r:List Wrd):aem (sg s::r):=fun x hx=>by
 show (!decide ((3:Int)=1)&&decide (s=x))=false;have:s≠x:=fun e=>h (e▸hx)
 simp[this]
theorem ani{k:Nd}{ks:List Nd}(h:k∈ks):dep k≤jU ks:=by
 induction ks with
 |nil=>cases h
 |cons x ks ih=>
  rw[kC];rcases List.mem_cons.1 h with rfl|h
  ·omega
  ·have:=ih h;omega
section
inductive EC:Nd→Prop
 |num (t:List UInt8) (h:tx 1 t=true):EC (.mk 1 t [])
 |nam (t:List UInt8) (h:tx 2 t=true):EC (.mk 2 t [])
 |call (t:List UInt8) (ks:List Nd) (h:tx 2 t=true) (hk:∀k∈ks,okE k=true):EC (.mk 13 t ks)
 |mat (ks:List Nd) (h0:ks≠[]) (hk:∀x∈ks,okR x=true):EC (.mk 14 [] ks)
 |list (ks:List Nd) (hk:∀k∈ks,okE k=true):EC (.mk 16 [] ks)
 |item (k k1:Nd) (h:okE k=true) (h1:okE k1=true):EC (.mk 17 [] [k,k1])
 |item2 (k k1 k2:Nd) (h:okE k=true) (h1:okE k1=true) (h2:okE k2=true):EC (.mk 17 [] [k,k1,k2])
 |minus (k:Nd) (h:okE k=true):EC (.mk 3 [] [k])
 |op (o:Int) (k k2:Nd) (ho:4≤o∧o≤12) (h:okE k=true) (h2:okE k2=true):EC (.mk o [] [k,k2])
theorem acS{k:Nd}{o:Int}{t:List UInt8}{ks:List Nd}(h:k∈ks):dep k+1≤dep (.mk o t ks):=by
 have:=ani h;rw[dep];cases ks with
 |nil=>cases h
 |cons=>rw[if_neg (by simp)];omega
theorem akc{t:List UInt8}(h:tx 2 t=true):∃c m,t=c::m∧97≤c.toNat∧c.toNat≤122:=by
 unfold tx at h;rw[Bool.and_eq_true,adU]at h;obtain⟨_,c,m,h1,h2⟩:=abX (show nam t=true from h.1)
 exact⟨c,m,h1,(srt3 c).1 h2⟩
theorem ar6{t:List UInt8}(h:tx 2 t=true){c:UInt8}{m:List UInt8}(hc:¬(97≤c.toNat∧c.toNat≤122)):t≠c::m:=by
 obtain⟨c',m',rfl,h1⟩:=akc h;intro e;cases e;exact hc h1
theorem anb{k:Int}{t:List UInt8}(h:tx k t=true):ownB t=false:=by
 unfold tx at h;rw[Bool.and_eq_true]at h;simpa using h.2
theorem ahd{t:List UInt8}(h:tx 2 t=true)(r:List Wrd):hN ((2,t)::r)=true:=by
 show (decide ((2:Int)=2)&&!ownB t)=true;rw[anb h];rfl
section
variable{K:Nat}{l:List Tok}{X U:Gr}{a o a':Nat}{n:Nd}
theorem afW{k:Gr}(h:o+1≤K)(hk:k a (o+1)= .ok n a'):ins K k a o= .ok n a':=by
 unfold ins;rw[if_neg (by omega),hk]
theorem aq3(h:oZ K l X a o= .ok n a')(h1:hS (rst l a') [91]=false):oP K l X a o= .ok n a':=by
 unfold oP;rw[h];show sj K l X (l.length+1) n a' o=_;unfold sj;rw[bL,h1];rfl
theorem atl(h:oP K l X a o= .ok n a')(h1:hS (rst l a') [94]=false):abf K l X U a o= .ok n a':=by
 unfold abf;rw[h];show (if isS l a' [94]then _ else _)=_
 rw[bL,h1];rfl
theorem un_of(h:abf K l X U a o= .ok n a')(h1:hS (rst l a) [45]=false):unG K l X U a o= .ok n a':=by
 unfold unG;rw[bL,h1,if_neg (by decide)];exact h
theorem aas{S:Gr}{s1 s2:List UInt8}{x y:Nat}(h:S a o= .ok n a')(h1:hS (rst l a') s1=false)(h2:hS (rst l a') s2=false):abk l S s1 x s2 y a o= .ok n a':=by
 unfold abk;rw[h];show jg l S s1 x s2 y (l.length+1) n a' o=_;unfold jg;rw[bL,h1,bL,h2];rfl
theorem aoA{S:Gr}{s1 s2:List UInt8}{x y:Nat}{m:Nd}{a2:Nat}(h:S a o= .ok n a')(h0:hS (rst l a') s1=false)(h1:hS (rst l a') s2=true)(h2:S (a'+1) o= .ok m a2)(h3:hS (rst l a2) s1=false)(h4:hS (rst l a2) s2=false):abk l S s1 x s2 y a o= .ok (.mk y [] [n,m]) a2:=by
 have hlt:=bG (l:=l) (a:=a') (s:=s2) (by rw[bL,h1])
 unfold abk;rw[h];show jg l S s1 x s2 y (l.length+1) n a' o=_;unfold jg;rw[bL,h0,if_neg (by decide),bL,h1,if_pos rfl,h2]
 show jg l S s1 x s2 y l.length _ a2 o=_;obtain⟨k,hk⟩:∃k,l.length=k+1:=⟨l.length - 1,by omega⟩
 rw[hk];unfold jg;rw[bL,h3,bL,h4];rfl
theorem agl(h:nN l U a o= .ok n a')(h1:hS (rst l a') [61,61]=false)(h2:hS (rst l a') [33,61]=false)(h3:hS (rst l a') [60]=false)(h4:hS (rst l a') [60,61]=false):aaW l U a o= .ok n a':=by
 unfold aaW;rw[h];show (if isS l a' [61,61]then _ else if isS l a' [33,61]then _ else if isS l a' [60]then _ else if isS l a' [60,61]then _ else _)=_
 rw[bL,h1,bL,h2,bL,h3,bL,h4];rfl
theorem qz{w:Wrd}{r:List Wrd}(h:rst l a=w::r):oZ K l X a o=if w.1=1 then .ok (.mk 1 w.2 []) (a+1)
  else if hN (w::r)then(if hS r [40]then ins K (fun a o=>iH (fun n=> .mk 13 w.2 n.kids) (jD l X [41] a o)) (a+2) o else .ok (.mk 2 w.2 []) (a+1))
  else if hS (w::r) [40]then ins K (fun a o=>thenS l (X a o) o [41]) (a+1) o
  else if hS (w::r) [91]then ins K (fun a o=>qF l X (l.length+1) [] [] a o) (a+1) o
  else if hS (w::r) [123]then ins K (fun a o=>iH (fun n=> .mk 16 [] n.kids) (jD l X [125] a o)) (a+1) o
  else .bad 4 a nd0 a o:=by
 obtain⟨t,h1,h2,h3⟩:=aeK h;unfold oZ;rw[h1];show (if t.kind=1 then _ else _)=_
 rw[zy,bL,bL,bL,bL,h,mK h,h2,h3]
theorem afm(h:oZ K l X a o= .ok n a')(h0:hS (rst l a) [45]=false)(h1:hS (rst l a') [91]=false)(h2:hS (rst l a') [94]=false):unG K l X U a o= .ok n a':=un_of (atl (aq3 h h1) h2) h0
end
end
end
end Go.Proofs.YtjnhnbgpifohjaaGreatDoor