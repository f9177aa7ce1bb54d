import Derived.Test.YtegehclknhmkgaaGreatDoorS12
set_option linter.unusedVariables false
set_option linter.unusedSimpArgs false
open Go.Proofs.Tryz
namespace Go.Proofs.YtegehclknhmkgaaGreatDoor
open Go.RowKit SX
section
attribute [local irreducible] IntKind.wrap Go1 Reg WP aS aT bR bO aQ aC ak aj aX Sat
theorem ay.node{st:St}{ρ:List (Nat×Option Nat)}{b c:Nat}{x:Value}{s:Value}{o:Atom}(h:st.hp b= .ent (.box 86 [.c (.val x),.c (.val s),o]))(hf:fresh ρ [b]=true)(hi:aD ρ o (.own c)):ay st ρ b (.box 86 [.c (.val x),.c (.val s),.own c]):=
 ay.mh h hf ⟨aD.same rfl,aD.same rfl,hi,trivial⟩
abbrev NG(x:Int)(c:Nat):Ent:= .box 86 [.c (.val (.int .i64 x)),.c (.val (.string ByteArray.empty)),.own c]
structure MaS where
 rs:List Nd
 r:List Nd
 a:Nat
 f:Nat
theorem yT(r:List Nd)(k:Nd):([CA.val (.int .i64 15),.val (.string ByteArray.empty),.sat (aM 3 (r.length+1) (r.flatMap ndC++caN k))]:List CA)=ndC (.mk 15 [] (r++[k])):=by
 rw[alZ];show _=[CA.val (.int .i64 15),.val (.string ByteArray.empty),.sat (aM 3 (r++[k]).length ((r++[k]).flatMap ndC))];rw[←bF (aH k).symm,List.length_append];rfl
theorem g_mat{l:List Tok}{m:Nat}{X:Gr}(hl:l.length≤1000000)(hs:GOK 134 l m X)(hA:Adv 1 l m X){a o:Nat}(hm:m≤a)(ha:a≤l.length)(ho:o≤600):
  CR rNd 521 [.ptr 29 0] [] l a o (qc l X (l.length+1) [] [] a o):=by
 generalize hR:qc l X (l.length+1) [] [] a o=R;refine CR.of ?_;refine aj.fnF func521 results521 ntmps521 rfl rfl rfl rfl (fun w0 T B E0 hB=>?_)
 refine SX.goM ?_;refine W.loop (fun q:MaS=>qc l X q.f q.rs q.r q.a o=R∧m≤q.a∧q.a≤l.length∧l.length < q.a+q.f∧q.rs.length+q.r.length≤q.a) (fun _=>[(0,.ptr 29 0),(2,.ptr 2 0),(3,.ptr 3 0),(4,.ptr 4 0)]) (fun q=>[(29,PG l q.a o),(2,NZ),(3,NG 14 100),(4,NG 15 101),(100,NR q.rs),(101,NR q.r)]) (fun q=>l.length+1 - q.a) ⟨[],[],a,l.length+1⟩ ⟨hR,by dsimp only;exact⟨by omega,by omega,by omega,Nat.zero_le _⟩⟩ (fun q hq=>?_)
  (by
   refine SX.St.aY [(100,none),(101,none)] (by intro b h;exact SX.dB h rfl) ?_ ?_ rfl
   ·repeat(first|exact trivial|refine⟨⟨_,rfl,SX.aG.same rfl⟩,?_⟩)
   ·exact⟨SX.ay.same rfl rfl,SX.ay.same rfl rfl,ay.node rfl rfl (aD.nil rfl),ay.node rfl rfl (aD.nil rfl),SX.ay.bV rfl,SX.ay.bV rfl,trivial⟩)
 obtain⟨rs,r,qa,qf⟩:=q
 dsimp only at hq
 obtain⟨hq1,b1,b2,b3,b4⟩:=hq;obtain⟨qf,rfl⟩:∃k,qf=k+1:=⟨qf - 1,by omega⟩
 unfold qc at hq1;show WP _ _ _ (fP [(0,.ptr 29 0),(2,.ptr 2 0),(3,.ptr 3 0),(4,.ptr 4 0)] [(29,PG l qa o),(2,NZ),(3,NG 14 100),(4,NG 15 101),(100,NR rs),(101,NR r)]) _;have h3:=hs qa o (by omega) (by omega) ho
 have h4:=hA qa o (by omega) (by omega)
 cases hr2:X qa o with
 |bad c p k a2 o2=>
  rw[hr2]at h3 hq1;have c3:=h3.bad;have c4:=dD l a2 o2 c p [44];have c6:=iZ l a2 o2 c p [93];obtain⟨bb,hbb⟩:∃b,Hide (b=false):=⟨_,⟨rfl⟩⟩;have c5:aj prog 133 [.ptr 29 0,.v (str [59])] [(29,PE l a2 o2 c p)] ⟨.v (.bool bb),[(29,.ent (PE l a2 o2 c p))]⟩:=by rw[hbb.out];exact dD l a2 o2 c p [59]
  refine SX.goM ?_;refine WP.yP 17 (ps:=[29]) hB rfl rfl ?_;refine W.aaX ?_ rfl hbb.out;refine SX.goM ?_;subst hq1;refine aQ.pI 25 (ps:=[29]) ?_;exact aP (ak.aZ rfl rfl rfl) (bC rfl rfl (by simp[Res.nd]) (bF (yT r k))) ⟨rfl,trivial⟩
 |ok k a2=>
  rw[hr2]at h3 hq1 h4;have c3:=h3.ok;obtain⟨j1,j2,j3⟩:=h4;have j4:=kV k
  dsimp only at hq1
  cases ht:isS l a2 [44]with
  |true=>
   have c4:=dV o hl ht;have g5:=bI ht;rw[if_pos ht]at hq1;refine SX.goM ?_;exact W.next ⟨rs,r++[k],a2+1,qf⟩ ⟨hq1,by dsimp only;exact⟨by omega,by omega,by omega,by simp;omega⟩⟩ (by dsimp only;omega)
    (by
     refine SX.St.aY [(100,some 100),(101,some 17)] (by intro b h;exact SX.dB h rfl) ?_ ?_ rfl
     ·repeat(first|exact trivial|refine⟨⟨_,rfl,SX.aG.same rfl⟩,?_⟩)
     ·exact⟨SX.ay.eq rfl rfl rfl,SX.ay.same rfl rfl,ay.node rfl rfl (aD.own rfl),ay.node rfl rfl (aD.own rfl),SX.ay.row rfl rfl rfl rfl,SX.ay.row rfl rfl (by simp) (bF (aH _).symm),trivial⟩)
  |false=>
   have c4:=dJ o ht;rw[if_neg (by rw[ht];decide)]at hq1
   cases ht2:isS l a2 [59]with
   |true=>
    have g5:=bI ht2;rw[if_pos ht2]at hq1;obtain⟨bb,hbb⟩:∃b,Hide (b=true):=⟨_,⟨rfl⟩⟩;have c5:aj prog 133 [.ptr 29 0,.v (str [59])] [(29,PG l a2 o)] ⟨.v (.bool bb),[(29,.ent (PG l (a2+1) o))]⟩:=by rw[hbb.out];exact dV o hl ht2
    refine SX.goM ?_;refine WP.yP 17 (ps:=[29]) hB rfl rfl ?_;refine W.aji ?_ rfl hbb.out;refine SX.goM ?_;exact W.next ⟨rs++[.mk 15 [] (r++[k])],[],a2+1,qf⟩ ⟨hq1,by dsimp only;exact⟨by omega,by omega,by omega,by simp;omega⟩⟩ (by dsimp only;omega)
     (by
      refine SX.St.aY [(100,some 38),(101,none)] (by intro b h;exact SX.dB h rfl) ?_ ?_ rfl
      ·repeat(first|exact trivial|refine⟨⟨_,rfl,SX.aG.same rfl⟩,?_⟩)
      ·exact⟨SX.ay.eq rfl rfl rfl,SX.ay.same rfl rfl,ay.node rfl rfl (aD.own rfl),ay.node rfl rfl (aD.nil rfl),SX.ay.row rfl rfl (by simp) (bF (yT r k)),SX.ay.bV rfl,trivial⟩)
   |false=>
    rw[if_neg (by rw[ht2];decide)]at hq1
    obtain⟨bb,hbb⟩:∃b,Hide (b=false):=⟨_,⟨rfl⟩⟩;have c5:aj prog 133 [.ptr 29 0,.v (str [59])] [(29,PG l a2 o)] ⟨.v (.bool bb),[(29,.ent (PG l a2 o))]⟩:=by rw[hbb.out];exact dJ o ht2
    cases ht3:isS l a2 [93]with
    |true=>
     rw[if_pos ht3]at hq1;have c6:=jA o hl ht3;refine SX.goM ?_;refine WP.yP 17 (ps:=[29]) hB rfl rfl ?_;refine W.aaX ?_ rfl hbb.out;refine SX.goM ?_;subst hq1;refine aQ.pI 25 (ps:=[29]) ?_;exact aP (ak.aZ rfl rfl rfl) (bC rfl rfl (by simp[Res.nd]) (bF (yT r k))) ⟨rfl,trivial⟩
    |false=>
     rw[if_neg (by rw[ht3];decide)]at hq1
     have c6:=kg o ht3;refine SX.goM ?_;refine WP.yP 17 (ps:=[29]) hB rfl rfl ?_;refine W.aaX ?_ rfl hbb.out;refine SX.goM ?_;subst hq1;refine aQ.pI 25 (ps:=[29]) ?_;exact aP (ak.aZ rfl rfl rfl) (bC rfl rfl (by simp[Res.nd]) (bF (yT r k))) ⟨rfl,trivial⟩
theorem g_par{l:List Tok}{m:Nat}{X:Gr}(hl:l.length≤1000000)(hs:GOK 134 l m X){a o:Nat}(hm:m≤a)(ha:a≤l.length)(ho:o≤600):CR rNd 520 [.ptr 81 0] [(81,PP)] l a o (thenS l (X a o) o [41]):=by
 have h3:=hs a o hm ha ho;cases hr2:X a o with
 |bad e p n2 a2 o2=>
  rw[hr2]at h3;have c3:=h3.bad;have c4:=iZ l a2 o2 e p [41];show aj _ _ _ _ _;refine aj.fnF func520 results520 ntmps520 rfl rfl rfl rfl (fun w0 T B E0 hB=>?_)
  refine SX.goM ?_;exact aP (ak.aZ rfl rfl rfl) (AV0.imp.refl _) ⟨rfl,rfl,trivial⟩
 |ok n2 a2=>
  rw[hr2]at h3;have c3:=h3.ok;unfold thenS
  dsimp only
  cases ht:isS l a2 [41]with
  |true=>
   have c4:=jA o hl ht;rw[if_pos rfl];show aj _ _ _ _ _;refine aj.fnF func520 results520 ntmps520 rfl rfl rfl rfl (fun w0 T B E0 hB=>?_)
   refine SX.goM ?_;exact aP (ak.aZ rfl rfl rfl) (AV0.imp.refl _) ⟨rfl,rfl,trivial⟩
  |false=>
   have c4:=kg o ht;rw[if_neg (by decide)]
   show aj _ _ _ _ _;refine aj.fnF func520 results520 ntmps520 rfl rfl rfl rfl (fun w0 T B E0 hB=>?_)
   refine SX.goM ?_;exact aP (ak.aZ rfl rfl rfl) (AV0.imp.refl _) ⟨rfl,rfl,trivial⟩
theorem g_call{l:List Tok}{m:Nat}{X:Gr}{t:Tok}(hl:l.length≤1000000)(hs:GOK 134 l m X)(hA:Adv 1 l m X){a o:Nat}(hm:m≤a)(ha:a≤l.length)(ho:o≤600):CR rNd 518 [.ptr 82 0,.ptr 81 0] [(81,PP),(82,KB t)] l a o (gW (fun n=> .mk 13 t.text n.kids) (jm l X [41] a o)):=by
 have h3:=am3 (e:=[41]) hl hs hA hm ha ho;cases hr2:jm l X [41] a o with
 |bad e p n2 a2 o2=>
  rw[hr2]at h3;have c3:=h3.bad;show aj _ _ _ _ _;refine aj.fnF func518 results518 ntmps518 rfl rfl rfl rfl (fun w0 T B E0 hB=>?_)
  refine SX.goM ?_;exact aP (ak.aZ rfl rfl rfl) (AV0.imp.refl _) ⟨rfl,rfl,rfl,trivial⟩
 |ok n2 a2=>
  rw[hr2]at h3;have c3:=h3.ok;show aj _ _ _ _ _;refine aj.fnF func518 results518 ntmps518 rfl rfl rfl rfl (fun w0 T B E0 hB=>?_)
  refine SX.goM ?_;exact aP (ak.aZ rfl rfl rfl) (AV0.imp.refl _) ⟨rfl,rfl,rfl,trivial⟩
theorem g_set{l:List Tok}{m:Nat}{X:Gr}(hl:l.length≤1000000)(hs:GOK 134 l m X)(hA:Adv 1 l m X){a o:Nat}(hm:m≤a)(ha:a≤l.length)(ho:o≤600):CR rNd 522 [.ptr 81 0] [(81,PP)] l a o (gW (fun n=> .mk 16 [] n.kids) (jm l X [125] a o)):=by
 have h3:=am3 (e:=[125]) hl hs hA hm ha ho;cases hr2:jm l X [125] a o with
 |bad e p n2 a2 o2=>
  rw[hr2]at h3;have c3:=h3.bad;show aj _ _ _ _ _;refine aj.fnF func522 results522 ntmps522 rfl rfl rfl rfl (fun w0 T B E0 hB=>?_)
  refine SX.goM ?_;exact aP (ak.aZ rfl rfl rfl) (AV0.imp.refl _) ⟨rfl,rfl,trivial⟩
 |ok n2 a2=>
  rw[hr2]at h3;have c3:=h3.ok;show aj _ _ _ _ _;refine aj.fnF func522 results522 ntmps522 rfl rfl rfl rfl (fun w0 T B E0 hB=>?_)
  refine SX.goM ?_;exact aP (ak.aZ rfl rfl rfl) (AV0.imp.refl _) ⟨rfl,rfl,trivial⟩
theorem asJ{l:List Tok}{m:Nat}{X:Gr}{N:Nd}(hl:l.length≤1000000)(hs:GOK 134 l m X)(hA:Adv 1 l m X){a o:Nat}(hm:m≤a)(ha:a≤l.length)(ho:o≤600):CR rNd 447 [.ptr 83 0,.ptr 81 0] [(81,PP),(83,NB N)] l a o (sD l X N a o):=by
 have mark:zO 7:=⟨⟩;have h3:=hs a o hm ha ho;have h4:=hA a o hm ha;unfold sD;cases hr2:X a o with
 |bad e p n2 a2 o2=>
  rw[hr2]at h3;have c3:=h3.bad;have c4:=dD l a2 o2 e p [44];have c5:=iZ l a2 o2 e p [93];show aj _ _ _ _ _;refine aj.fnF func447 results447 ntmps447 rfl rfl rfl rfl (fun w0 T B E0 hB=>?_)
  refine SX.goM ?_;refine aQ.pI 7 (ps:=[29,81,83]) ?_;exact aP (ak.aZ rfl rfl rfl) (bC rfl rfl rfl (by first|(simp only[List.flatMap_cons,List.flatMap_nil,aH,List.append_nil];done)|(simp only[List.flatMap_cons,List.flatMap_nil,aH,List.append_nil];rfl))) ⟨rfl,rfl,rfl,trivial⟩
 |ok n2 a2=>
  rw[hr2]at h3 h4;have c3:=h3.ok;obtain⟨j1,j2,j3⟩:=h4
  dsimp only
  cases ht:isS l a2 [44]with
  |false=>
   have c4:=dJ o ht;rw[if_neg (by decide)]
   unfold thenS
   dsimp only
   cases ht2:isS l a2 [93]with
   |true=>
    have c5:=jA o hl ht2;rw[if_pos rfl];show aj _ _ _ _ _;refine aj.fnF func447 results447 ntmps447 rfl rfl rfl rfl (fun w0 T B E0 hB=>?_)
    refine SX.goM ?_;refine aQ.pI 7 (ps:=[29,81,83]) ?_;exact aP (ak.aZ rfl rfl rfl) (bC rfl rfl rfl (by first|(simp only[List.flatMap_cons,List.flatMap_nil,aH,List.append_nil];done)|(simp only[List.flatMap_cons,List.flatMap_nil,aH,List.append_nil];rfl))) ⟨rfl,rfl,rfl,trivial⟩
   |false=>
    have c5:=kg o ht2;rw[if_neg (by decide)]
    show aj _ _ _ _ _;refine aj.fnF func447 results447 ntmps447 rfl rfl rfl rfl (fun w0 T B E0 hB=>?_)
    refine SX.goM ?_;refine aQ.pI 7 (ps:=[29,81,83]) ?_;exact aP (ak.aZ rfl rfl rfl) (bC rfl rfl rfl (by first|(simp only[List.flatMap_cons,List.flatMap_nil,aH,List.append_nil];done)|(simp only[List.flatMap_cons,List.flatMap_nil,aH,List.append_nil];rfl))) ⟨rfl,rfl,rfl,trivial⟩
  |true=>
   have c4:=dV o hl ht;have g5:=bI ht;rw[if_pos rfl];have h5:=hs (a2+1) o (by omega) (by omega) ho
   cases hr3:X (a2+1) o with
   |bad e p n3 a3 o3=>
    rw[hr3]at h5;have c6:=h5.bad;have c5:=iZ l a3 o3 e p [93];show aj _ _ _ _ _;refine aj.fnF func447 results447 ntmps447 rfl rfl rfl rfl (fun w0 T B E0 hB=>?_)
    refine SX.goM ?_;refine aQ.pI 16 (ps:=[29,81,83]) ?_;exact aP (ak.aZ rfl rfl rfl) (bC rfl rfl rfl (by first|(simp only[List.flatMap_cons,List.flatMap_nil,aH,List.append_nil,List.append_assoc];done)|(simp only[List.flatMap_cons,List.flatMap_nil,aH,List.append_nil,List.append_assoc];rfl))) ⟨rfl,rfl,rfl,trivial⟩
   |ok n3 a3=>
    rw[hr3]at h5;have c6:=h5.ok;unfold thenS gW
    dsimp only
    cases ht2:isS l a3 [93]with
    |true=>
     have c5:=jA o hl ht2;rw[if_pos rfl];show aj _ _ _ _ _;refine aj.fnF func447 results447 ntmps447 rfl rfl rfl rfl (fun w0 T B E0 hB=>?_)
     refine SX.goM ?_;refine aQ.pI 16 (ps:=[29,81,83]) ?_;exact aP (ak.aZ rfl rfl rfl) (bC rfl rfl rfl (by first|(simp only[List.flatMap_cons,List.flatMap_nil,aH,List.append_nil,List.append_assoc];done)|(simp only[List.flatMap_cons,List.flatMap_nil,aH,List.append_nil,List.append_assoc];rfl))) ⟨rfl,rfl,rfl,trivial⟩
    |false=>
     have c5:=kg o ht2;rw[if_neg (by decide)]
     show aj _ _ _ _ _;refine aj.fnF func447 results447 ntmps447 rfl rfl rfl rfl (fun w0 T B E0 hB=>?_)
     refine SX.goM ?_;refine aQ.pI 16 (ps:=[29,81,83]) ?_;exact aP (ak.aZ rfl rfl rfl) (bC rfl rfl rfl (by first|(simp only[List.flatMap_cons,List.flatMap_nil,aH,List.append_nil,List.append_assoc];done)|(simp only[List.flatMap_cons,List.flatMap_nil,aH,List.append_nil,List.append_assoc];rfl))) ⟨rfl,rfl,rfl,trivial⟩
theorem ari{l:List Tok}:GE 446 l:=by
 intro a o e p;have nm1:Named 1 81:=⟨⟩;have c1:=aep l a o e p;refine aj.fnF func446 results446 ntmps446 rfl rfl rfl rfl (fun w0 T B E0 hB=>?_)
 refine SX.goM ?_
 try(refine SX.WP.aF ?_;refine SX.goM ?_)
 exact aP (ak.aZ rfl rfl rfl) (AV0.imp.refl _) ⟨rfl,trivial⟩
theorem atH{l:List Tok}{m:Nat}{X:Gr}(hl:l.length≤1000000)(hs:GOK 134 l (m+1) X)(hA:Adv 1 l (m+1) X):GOK 446 l m (oZ 600 l X):=by
 intro a o hm ha ho;have nm1:Named 1 81:=⟨⟩;have nm2:Named 3 82:=⟨⟩;unfold oZ;cases hg:l[a]? with
 |none=>
  have hge:l.length≤a:=List.getElem?_eq_none_iff.1 hg
  have c1:=tH l a o;show aj _ _ _ _ _;refine aj.fnF func446 results446 ntmps446 rfl rfl rfl rfl (fun w0 T B E0 hB=>?_)
  refine SX.goM ?_
  try(refine SX.WP.aF ?_;refine SX.goM ?_)
  exact aP (ak.aZ rfl rfl rfl) (AV0.imp.refl _) ⟨rfl,trivial⟩
 |some t=>
  have hlt:a < l.length:=(List.getElem?_eq_some_iff.1 hg).1
  obtain⟨tk,tt,tp⟩:=t
  dsimp only
  by_cases hk:tk=1
  ·rw[if_pos hk];show aj _ _ _ _ _;refine aj.fnF func446 results446 ntmps446 rfl rfl rfl rfl (fun w0 T B E0 hB=>?_)
   refine SX.goM ?_
   try(refine SX.WP.aF ?_;refine SX.goM ?_)
   exact aP (ak.aZ rfl rfl rfl) (oU rfl rfl) ⟨rfl,trivial⟩
  ·rw[if_neg hk];have c1:=qL l a o;cases hn:mD l a with
   |true=>
    rw[hn]at c1;rw[if_pos rfl];cases ht:isS l (a+1) [40]with
    |true=>
     have c2:=dV o hl ht;have g5:=bI ht;rw[if_pos rfl];have h1:=atT (f:=518) (l:=l) (t:=⟨tk,tt,tp⟩) (a:=a+2) (o:=o) (k:=fun a o=>gW (fun n=> .mk 13 tt n.kids) (jm l X [41] a o)) ho (fun h=>⟨g_call hl hs hA (by omega) (by omega) (by omega),(iK (c':=0) (s':=0) (qX hA (by omega) (by omega)) (fun n=>by rw[vG];omega)).open.mono (by omega)⟩)
     cases hr:ins 600 (fun a o=>gW (fun n=> .mk 13 tt n.kids) (jm l X [41] a o)) (a+2) o with
     |bad e p n a' o'=>
      rw[hr]at h1;have c3:=h1.bad;show aj _ _ _ _ _;refine aj.fnF func446 results446 ntmps446 rfl rfl rfl rfl (fun w0 T B E0 hB=>?_)
      refine SX.goM ?_
      try(refine SX.WP.aF ?_;refine SX.goM ?_)
      exact aP (ak.aZ rfl rfl rfl) (AV0.imp.refl _) ⟨rfl,trivial⟩
     |ok n a'=>
      rw[hr]at h1;have c3:=h1.ok;show aj _ _ _ _ _;refine aj.fnF func446 results446 ntmps446 rfl rfl rfl rfl (fun w0 T B E0 hB=>?_)
      refine SX.goM ?_
      try(refine SX.WP.aF ?_;refine SX.goM ?_)
      exact aP (ak.aZ rfl rfl rfl) (AV0.imp.refl _) ⟨rfl,trivial⟩
    |false=>
     have c2:=dJ o ht;rw[if_neg (by decide)]
     show aj _ _ _ _ _;refine aj.fnF func446 results446 ntmps446 rfl rfl rfl rfl (fun w0 T B E0 hB=>?_)
     refine SX.goM ?_
     try(refine SX.WP.aF ?_;refine SX.goM ?_)
     exact aP (ak.aZ rfl rfl rfl) (oU rfl rfl) ⟨rfl,trivial⟩
   |false=>
    rw[hn]at c1;rw[if_neg (by decide)]
    cases ht:isS l a [40]with
    |true=>
     have c2:=dV o hl ht;rw[if_pos rfl];have h1:=ad1 (f:=520) (l:=l) (a:=a+1) (o:=o) (k:=fun a o=>thenS l (X a o) o [41]) ho (fun h=>⟨g_par hl hs (by omega) (by omega) (by omega),(nA (hA _ _ (by omega) (by omega))).open.mono (by omega)⟩)
     cases hr:ins 600 (fun a o=>thenS l (X a o) o [41]) (a+1) o with
     |bad e p n a' o'=>
      rw[hr]at h1;have c3:=h1.bad;show aj _ _ _ _ _;refine aj.fnF func446 results446 ntmps446 rfl rfl rfl rfl (fun w0 T B E0 hB=>?_)
      refine SX.goM ?_
      try(refine SX.WP.aF ?_;refine SX.goM ?_)
      exact aP (ak.aZ rfl rfl rfl) (AV0.imp.refl _) ⟨rfl,trivial⟩
     |ok n a'=>
      rw[hr]at h1;have c3:=h1.ok;show aj _ _ _ _ _;refine aj.fnF func446 results446 ntmps446 rfl rfl rfl rfl (fun w0 T B E0 hB=>?_)
      refine SX.goM ?_
      try(refine SX.WP.aF ?_;refine SX.goM ?_)
      exact aP (ak.aZ rfl rfl rfl) (AV0.imp.refl _) ⟨rfl,trivial⟩
    |false=>
     have c2:=dJ o ht;rw[if_neg (by decide)]
     cases ht2:isS l a [91]with
     |true=>
      have c3:=dV o hl ht2;rw[if_pos rfl];have h1:=atA (f:=521) (l:=l) (a:=a+1) (o:=o) (k:=fun a o=>qc l X (l.length+1) [] [] a o) ho (fun h=>⟨g_mat hl hs hA (by omega) (by omega) (by omega),(yY hA _ _ _ _ _ (by omega) (by omega)).open.mono (by omega)⟩)
      cases hr:ins 600 (fun a o=>qc l X (l.length+1) [] [] a o) (a+1) o with
      |bad e p n a' o'=>
       rw[hr]at h1;have c4:=h1.bad;show aj _ _ _ _ _;refine aj.fnF func446 results446 ntmps446 rfl rfl rfl rfl (fun w0 T B E0 hB=>?_)
       refine SX.goM ?_
       try(refine SX.WP.aF ?_;refine SX.goM ?_)
       exact aP (ak.aZ rfl rfl rfl) (AV0.imp.refl _) ⟨rfl,trivial⟩
      |ok n a'=>
       rw[hr]at h1;have c4:=h1.ok;show aj _ _ _ _ _;refine aj.fnF func446 results446 ntmps446 rfl rfl rfl rfl (fun w0 T B E0 hB=>?_)
       refine SX.goM ?_
       try(refine SX.WP.aF ?_;refine SX.goM ?_)
       exact aP (ak.aZ rfl rfl rfl) (AV0.imp.refl _) ⟨rfl,trivial⟩
     |false=>
      have c3:=dJ o ht2;rw[if_neg (by decide)]
      cases ht3:isS l a [123]with
      |true=>
       have c4:=dV o hl ht3;rw[if_pos rfl];have h1:=ad1 (f:=522) (l:=l) (a:=a+1) (o:=o) (k:=fun a o=>gW (fun n=> .mk 16 [] n.kids) (jm l X [125] a o)) ho (fun h=>⟨g_set hl hs hA (by omega) (by omega) (by omega),(iK (c':=0) (s':=0) (qX hA (by omega) (by omega)) (fun n=>by rw[vG];omega)).open.mono (by omega)⟩)
       cases hr:ins 600 (fun a o=>gW (fun n=> .mk 16 [] n.kids) (jm l X [125] a o)) (a+1) o with
       |bad e p n a' o'=>
        rw[hr]at h1;have c5:=h1.bad;show aj _ _ _ _ _;refine aj.fnF func446 results446 ntmps446 rfl rfl rfl rfl (fun w0 T B E0 hB=>?_)
        refine SX.goM ?_
        try(refine SX.WP.aF ?_;refine SX.goM ?_)
        exact aP (ak.aZ rfl rfl rfl) (AV0.imp.refl _) ⟨rfl,trivial⟩
       |ok n a'=>
        rw[hr]at h1;have c5:=h1.ok;show aj _ _ _ _ _;refine aj.fnF func446 results446 ntmps446 rfl rfl rfl rfl (fun w0 T B E0 hB=>?_)
        refine SX.goM ?_
        try(refine SX.WP.aF ?_;refine SX.goM ?_)
        exact aP (ak.aZ rfl rfl rfl) (AV0.imp.refl _) ⟨rfl,trivial⟩
      |false=>
       have c4:=dJ o ht3;rw[if_neg (by decide)]
       have c5:=tH l a o;show aj _ _ _ _ _;refine aj.fnF func446 results446 ntmps446 rfl rfl rfl rfl (fun w0 T B E0 hB=>?_)
       refine SX.goM ?_
       try(refine SX.WP.aF ?_;refine SX.goM ?_)
       exact aP (ak.aZ rfl rfl rfl) (AV0.imp.refl _) ⟨rfl,trivial⟩
theorem aq4{l:List Tok}:GE 350 l:=by
 intro a o e p;have nm1:Named 1 81:=⟨⟩;have nm2:Named 3 83:=⟨⟩;have c1:=ari (l:=l) a o e p;have c2:=dD l a o e p [91];refine aj.fnF func350 results350 ntmps350 rfl rfl rfl rfl (fun w0 T B E0 hB=>?_)
 refine SX.goM ?_
 try(refine SX.WP.aF ?_;refine SX.goM ?_)
 refine W.loop (fun _:Unit=>True) (fun _=>[(1,.ptr 81 0),(2,.ptr 2 0),(3,.ptr 83 0)]) (fun _=>[(29,PE l a o e p),(2,NZ),(81,PP),(83,NB nd0)]) (fun _=>0) () trivial (fun _ _=>?_)
 refine SX.goM ?_
 try(refine SX.WP.aF ?_;refine SX.goM ?_)
 exact aP (ak.aZ rfl rfl rfl) (AV0.imp.refl _) ⟨rfl,trivial⟩
structure PoS where
 n:Nd
 a:Nat
 o:Nat
 b:Option (Nat×Nat)
 f:Nat
def poS(l:List Tok)(X:Gr)(q:PoS):Res:=match q.b with
 |none=>su 600 l X q.f q.n q.a q.o
 |some (e,p)=> .bad e p q.n q.a q.o
theorem aud{l:List Tok}{m:Nat}{X:Gr}(hl:l.length≤1000000)(hs:GOK 134 l (m+1) X)(hA:Adv 1 l (m+1) X):GOK 350 l m (pE 600 l X):=by
 intro a o hm ha ho;have nm1:Named 1 81:=⟨⟩;have nm2:Named 3 83:=⟨⟩;have h1:=atH hl hs hA a o hm ha ho;have h2:=aeZ (K:=600) hA a o hm ha;unfold pE;cases hr:oZ 600 l X a o with
 |bad e p n a' o'=>
  rw[hr]at h1;have c1:=h1.bad;have c2:=dD l a' o' e p [91];show aj _ _ _ _ _;refine aj.fnF func350 results350 ntmps350 rfl rfl rfl rfl (fun w0 T B E0 hB=>?_)
  refine SX.goM ?_
  try(refine SX.WP.aF ?_;refine SX.goM ?_)
  refine W.loop (fun _:Unit=>True) (fun _=>[(1,.ptr 81 0),(2,.ptr 2 0),(3,.ptr 83 0)]) (fun _=>[(29,PE l a' o' e p),(2,NZ),(81,PP),(83,NB n)]) (fun _=>0) () trivial (fun _ _=>?_)
  refine SX.goM ?_
  try(refine SX.WP.aF ?_;refine SX.goM ?_)
  exact aP (ak.aZ rfl rfl rfl) (AV0.imp.refl _) ⟨rfl,trivial⟩
 |ok n a'=>
  rw[hr]at h1 h2;have c1:=h1.ok;obtain⟨g1,g2,g3⟩:=h2;have g4:=kV n
  dsimp only
  generalize hR:su 600 l X (l.length+1) n a' o=R;refine CR.of ?_;refine aj.fnF func350 results350 ntmps350 rfl rfl rfl rfl (fun w0 T B E0 hB=>?_)
  refine SX.goM ?_
  try(refine SX.WP.aF ?_;refine SX.goM ?_)
  refine W.loop (fun q:PoS=>poS l X q=R∧(q.b=none→q.o=o∧m≤q.a∧q.a≤l.length∧l.length < q.a+q.f)) (fun _=>[(1,.ptr 81 0),(2,.ptr 2 0),(3,.ptr 83 0)]) (fun q=>[(29,PS l q.a q.o q.b),(2,NZ),(81,PP),(83,NB q.n)]) (fun q=>match q.b with|none=>l.length+1 - q.a|some _=>0) ⟨n,a',o,none,l.length+1⟩ ⟨hR,fun _=>by dsimp only;exact⟨rfl,by omega,by omega,by omega⟩⟩ (fun q hq=>?_)
  obtain⟨qn,qa,qo,qb,qf⟩:=q;obtain⟨hq1,hq2⟩:=hq
  dsimp only at hq1 hq2
  cases qb with
  |some b=>
   obtain⟨e,p⟩:=b;have c2:=dD l qa qo e p [91];show WP _ _ _ (fP [(1,.ptr 81 0),(2,.ptr 2 0),(3,.ptr 83 0)] [(29,PE l qa qo e p),(2,NZ),(81,PP),(83,NB qn)]) _;refine SX.goM ?_
   try(refine SX.WP.aF ?_;refine SX.goM ?_)
   subst hq1;exact aP (ak.aZ rfl rfl rfl) (AV0.imp.refl _) ⟨rfl,trivial⟩
  |none=>
   obtain⟨rfl,b1,b2,b3⟩:=hq2 rfl;obtain⟨qf,rfl⟩:∃k,qf=k+1:=⟨qf - 1,by omega⟩
   have hq1:su 600 l X (qf+1) qn qa qo=R:=hq1;unfold su at hq1;show WP _ _ _ (fP [(1,.ptr 81 0),(2,.ptr 2 0),(3,.ptr 83 0)] [(29,PG l qa qo),(2,NZ),(81,PP),(83,NB qn)]) _;cases ht:isS l qa [91]with
   |true=>
    have c2:=dV qo hl ht;have g5:=bI ht;rw[if_pos ht]at hq1;have h5:=atZ (f:=447) (l:=l) (N:=qn) (a:=qa+1) (o:=qo) (k:=sD l X qn) ho (fun h=>⟨asJ hl hs hA (by omega) (by omega) (by omega),(aaJ hA (by omega) (by omega)).open.mono (by omega)⟩)
    have h6:=mH (K:=600) (g:=sD l X qn) (a:=qa+1) (o:=qo) (Nat.le_refl _) (aaJ (n:=qn) (o:=qo+1) hA (by omega) (by omega))
    cases hr2:ins 600 (sD l X qn) (qa+1) qo with
    |bad e p k a2 o2=>
     rw[hr2]at h5 hq1;have c3:=h5.bad;refine SX.goM ?_
     try(refine SX.WP.aF ?_;refine SX.goM ?_)
     exact W.next ⟨k,a2,o2,some (e,p),0⟩ ⟨hq1,fun h=>by cases h⟩ (by dsimp only;omega)
    |ok k a2=>
     rw[hr2]at h5 hq1 h6;have c3:=h5.ok;obtain⟨j1,j2,j3⟩:=h6;refine SX.goM ?_
     try(refine SX.WP.aF ?_;refine SX.goM ?_)
     exact W.next ⟨k,a2,qo,none,qf⟩ ⟨hq1,fun h=>by dsimp only;exact⟨rfl,by omega,by omega,by omega⟩⟩ (by dsimp only;omega)
   |false=>
    have c2:=dJ qo ht;rw[if_neg (by rw[ht];decide)]at hq1
    refine SX.goM ?_
    try(refine SX.WP.aF ?_;refine SX.goM ?_)
    subst hq1;exact aP (ak.aZ rfl rfl rfl) (AV0.imp.refl _) ⟨rfl,trivial⟩
theorem yV{l:List Tok}:GE 134 l:=aug (atv (ar0 (ge_un (atU aq4))))
theorem asz{l:List Tok}(hl:l.length≤1000000):∀(n m:Nat),l.length+1≤m+n→GOK 134 l m (lev 600 l n).1∧GOK 234 l m (lev 600 l n).2
 |0,m,h=>⟨fun a o hm ha=>by omega,fun a o hm ha=>by omega⟩
 |n+1,m,h=>by
  obtain⟨h1,h2⟩:=asz hl n (m+1) (by omega)
  obtain⟨a1,a2⟩:=zf 600 l n (m+1) (by omega)
  have u:GOK 234 l m (unG 600 l (lev 600 l n).1 (lev 600 l n).2):=g_un hl (g_pow hl (aud hl h1 a1) (abR a1) h2) h2 a2;have au:=anX (K:=600) a1 a2;exact⟨g_exp hl (g_sum hl (atd hl u au) au) au,u⟩
end
section
section
variable(K:Nat)(l:List Tok)
def p9(S:Gr):Nat→List Nd→Gr
 |0,_=>fun a o=> .bad 4 a nd0 a o
 |f+1,ks=>fun a o=>if isS l a [125]then .ok (.mk 22 [] ks) (a+1)else match S a o with
  | .bad e p n a' o'=> .bad e p (.mk 22 [] (ks++[n])) a' o'
  | .ok n a'=>p9 S f (ks++[n]) a' o
def alQ(S:Gr):Gr:=fun a o=>if isS l a [123]then ins K (fun a o=>p9 l S (l.length+1) [] a o) (a+1) o else .bad 4 a nd0 a (o+1)
def ifG(E B:Gr):Gr:=fun a o=>match E a o with
 | .bad e p n a' o'=> .bad e p (.mk 20 [] [n,nd0]) a' (o'+1)
 | .ok n a'=>match B a' o with
  | .bad e p b a2 o2=> .bad e p (.mk 20 [] [n,b]) a2 o2
  | .ok b a2=>if isS l a2 [101,108,115,101]then gW (fun c=> .mk 20 [] [n,b,c]) (B (a2+1) o)else .ok (.mk 20 [] [n,b]) a2
def amg(E B:Gr):Gr:=fun a o=>if mD l a then
  (if isS l (a+1) [61]then(match E (a+2) o with
   | .bad e p n a' o'=> .bad e p (.mk 21 (txt l a) [n,nd0,nd0]) a' (o'+1)
   | .ok n a'=>if isS l a' [46,46]then(match E (a'+1) o with
     | .bad e p n2 a2 o2=> .bad e p (.mk 21 (txt l a) [n,n2,nd0]) a2 (o2+1)
     | .ok n2 a2=>gW (fun b=> .mk 21 (txt l a) [n,n2,b]) (B a2 o))
    else .bad 4 a' (.mk 21 (txt l a) [n,nd0,nd0]) a' (o+1))
  else .bad 4 (a+1) (.mk 21 (txt l a) [nd0,nd0,nd0]) (a+1) (o+1))
 else .bad 4 a (.mk 21 [] [nd0,nd0,nd0]) a (o+1)
def stG(E B:Gr):Gr:=fun a o=>if isS l a [105,102]then ifG l E B (a+1) o
 else if isS l a [102,111,114]then amg l E B (a+1) o
 else if mD l a&&isS l (a+1) [61]then thenS l (gW (fun n=> .mk 18 (txt l a) [n]) (E (a+2) o)) o [59]
 else thenS l (gW (fun n=> .mk 19 [] [n]) (E a o)) o [59]
def ag0:Nat→Gr
 |0=>fun a o=> .bad 4 a nd0 a o
 |n+1=>stG l (lev K l (l.length+1)).1 (alQ K l (ag0 n))
end
theorem zX{l:List Tok}{m:Nat}{S:Gr}(h:Adv 2 l m S):∀(f:Nat) (ks:List Nd) (a o:Nat),m≤a→a≤l.length→lq (iE ks) 0 2 l a o (p9 l S f ks a o)
 |0,ks,a,o,hm,ha=>kT (by omega)
 |f+1,ks,a,o,hm,ha=>by
  unfold p9
  split
  ·rename_i hs;have:=bI hs;exact⟨by rw[eG];omega,by omega,by omega⟩
  ·have h1:=h a o hm ha;cases hr:S a o with
   |bad e p n a' o'=>rw[hr]at h1;exact h1
   |ok n a'=>
    rw[hr]at h1;obtain⟨h1,h3,h2⟩:=h1;have hh:=zX h f (ks++[n]) a' o (by omega) h2
    refine hh.mono (Nat.le_refl _) (by omega) ?_
    rw[dY,aU,bK];omega
theorem ajg{K:Nat}{l:List Tok}{m:Nat}{S:Gr}(h:Adv 2 l (m+1) S):Adv 2 l m (alQ K l S):=by
 intro a o hm ha;unfold alQ
 split
 ·rename_i hs;have:=bI hs;have hh:=mH (K:=K) (g:=fun a o=>p9 l S (l.length+1) [] a o) (a:=a+1) (o:=o) (by omega) (zX h (l.length+1) [] (a+1) (o+1) (by omega) (by omega))
  exact hh.mono (Nat.le_refl _) (by omega) (by rw[bK];omega)
 ·exact⟨by omega,by omega⟩
theorem aty{l:List Tok}{m:Nat}{E B:Gr}(he:Adv 1 l m E)(hb:Adv 2 l m B){a o:Nat}(hm:m≤a)(ha:a≤l.length):lq 1 0 2 l a o (ifG l E B a o):=by
 have h1:=he a o hm ha;unfold ifG;cases hr:E a o with
 |bad e p n a' o'=>rw[hr]at h1;exact⟨by have:=h1.1;omega,by have:=h1.2;omega⟩
 |ok n a'=>
  rw[hr]at h1;obtain⟨h1,h3,h2⟩:=h1;have h4:=hb a' o (by omega) h2
  dsimp only
  cases hr2:B a' o with
  |bad e p n a' o'=>rw[hr2]at h4;exact h4
  |ok b a2=>
   rw[hr2]at h4;obtain⟨h4,h6,h5⟩:=h4
   dsimp only
   split
   ·rename_i hs;have:=bI hs;have hh:=iK (f:=fun c=>Nd.mk 20 [] [n,b,c]) (c':=0) (s':=1+cnt n+cnt b) (hb (a2+1) o (by omega) (by omega)) (fun k=>by rw[eG,aU,aU,aU,bK];omega)
    exact hh.mono (Nat.le_refl _) (by omega) (by omega)
   ·exact⟨by rw[eG,aU,aU,bK];omega,by omega,h5⟩
theorem aq1{l:List Tok}{m:Nat}{E B:Gr}(he:Adv 1 l m E)(hb:Adv 2 l m B){a o:Nat}(hm:m≤a)(ha:a≤l.length):lq 0 0 2 l a o (amg l E B a o):=by
 unfold amg
 split
 ·split
  ·rename_i hs;have:=bI hs;have h1:=he (a+2) o (by omega) (by omega)
   cases hr:E (a+2) o with
   |bad e p n a' o'=>rw[hr]at h1;exact⟨by have:=h1.1;omega,by have:=h1.2;omega⟩
   |ok n a'=>
    rw[hr]at h1;obtain⟨h1,h3,h2⟩:=h1
    dsimp only
    split
    ·rename_i hs2;have:=bI hs2;have h4:=he (a'+1) o (by omega) (by omega)
     cases hr2:E (a'+1) o with
     |bad e p n a' o'=>rw[hr2]at h4;exact⟨by have:=h4.1;omega,by have:=h4.2;omega⟩
     |ok n2 a2=>
      rw[hr2]at h4;obtain⟨h4,h6,h5⟩:=h4;have hh:=iK (f:=fun b=>Nd.mk 21 (txt l a) [n,n2,b]) (c':=0) (s':=1+cnt n+cnt n2) (hb a2 o (by omega) h5) (fun k=>by rw[eG,aU,aU,aU,bK];omega)
      exact hh.mono (Nat.le_refl _) (by omega) (by omega)
    ·exact⟨by omega,by omega⟩
  ·exact⟨by omega,by omega⟩
 ·exact⟨by omega,by omega⟩
theorem auh{l:List Tok}{m:Nat}{E B:Gr}(he:Adv 1 l m E)(hb:Adv 2 l (m+1) B):Adv 2 l m (stG l E B):=by
 have he':Adv 1 l (m+1) E:=fun a o hm ha=>he a o (by omega) ha
 intro a o hm ha;unfold stG
 split
 ·rename_i hs;have:=bI hs;exact(aty he' hb (o:=o) (by omega) (by omega)).mono (Nat.le_refl _) (by omega) (by omega)
 ·split
  ·rename_i hs;have:=bI hs;exact(aq1 he' hb (o:=o) (by omega) (by omega)).mono (Nat.le_refl _) (by omega) (by omega)
  ·split
   ·rename_i hs;rw[Bool.and_eq_true]at hs;have:=bI hs.2;have hh:=nA (t:=[59]) (iK (f:=fun n=>Nd.mk 18 (txt l a) [n]) (c':=0) (s':=1) (he (a+2) o (by omega) (by omega)) (fun k=>by rw[eG,aU,bK];omega))
    exact hh.mono (by omega) (by omega) (by omega)
   ·have hh:=nA (t:=[59]) (iK (f:=fun n=>Nd.mk 19 [] [n]) (c':=0) (s':=1) (he a o hm ha) (fun k=>by rw[eG,aU,bK];omega))
    exact hh.mono (by omega) (by omega) (by omega)
theorem uh(K:Nat)(l:List Tok):∀(n m:Nat),l.length+1≤m+n→Adv 2 l m (ag0 K l n)
 |0,m,h=>fun a o hm ha=>by omega
 |n+1,m,h=>auh (fun a o hm ha=>(zf K l (l.length+1) m (by omega)).1 a o hm ha) (ajg fun a o hm ha=>uh K l n (m+1) (by omega) a o (by omega) ha)
attribute [local irreducible] IntKind.wrap Go1 Reg WP aS aT bR bO aQ aC ak aj aX Sat
def boS(l:List Tok)(S:Gr)(q:LiS):Res:=match q.b with
 |none=>p9 l S q.f q.ks q.a q.o
 |some (e,p)=> .bad e p (.mk 22 [] q.ks) q.a q.o
theorem aui{l:List Tok}{m:Nat}{S:Gr}(hl:l.length≤1000000)(hs:GOK 85 l m S)(hA:Adv 2 l m S){a o:Nat}(hm:m≤a)(ha:a≤l.length)(ho:o≤600):
  CR rNd 181 [.ptr 81 0] [(81,PP)] l a o (p9 l S (l.length+1) [] a o):=by
 generalize hR:p9 l S (l.length+1) [] a o=R;refine CR.of ?_;refine aj.fnF func181 results181 ntmps181 rfl rfl rfl rfl (fun w0 T B E0 hB=>?_)
 refine SX.goM ?_
 try(refine SX.WP.aF ?_;refine SX.goM ?_)
 refine W.loop (fun q:LiS=>boS l S q=R∧(q.b=none→q.o=o∧m≤q.a∧q.a≤l.length∧l.length < q.a+q.f∧q.ks.length≤q.a)) (fun _=>[(0,.ptr 81 0),(1,.ptr 1 0),(2,.ptr 2 0)]) (fun q=>[(29,PS l q.a q.o q.b),(81,PP),(1,NZ),(2,NG 22 100),(100,NR q.ks)]) (fun q=>match q.b with|none=>l.length+1 - q.a|some _=>0) ⟨[],a,o,none,l.length+1⟩ ⟨hR,fun _=>by dsimp only;exact⟨rfl,by omega,by omega,by omega,Nat.zero_le _⟩⟩ (fun q hq=>?_)
  (by
   refine SX.St.aY [(100,none)] (by intro b h;exact SX.dB h rfl) ?_ ?_ rfl
   ·repeat(first|exact trivial|refine⟨⟨_,rfl,SX.aG.same rfl⟩,?_⟩)
   ·exact⟨SX.ay.same rfl rfl,SX.ay.same rfl rfl,SX.ay.same rfl rfl,ay.node rfl rfl (aD.nil rfl),SX.ay.bV rfl,trivial⟩)
 obtain⟨qk,qa,qo,qb,qf⟩:=q;obtain⟨hq1,hq2⟩:=hq
 dsimp only at hq1 hq2
 cases qb with
 |some b=>
  obtain⟨ee,p⟩:=b;show WP _ _ _ (fP [(0,.ptr 81 0),(1,.ptr 1 0),(2,.ptr 2 0)] [(29,PE l qa qo ee p),(81,PP),(1,NZ),(2,NG 22 100),(100,NR qk)]) _;refine SX.goM ?_
  try(refine SX.WP.aF ?_;refine SX.goM ?_)
  subst hq1;refine aQ.pI 100 (ps:=[29,81]) ?_;exact aP (ak.aZ rfl rfl rfl) (bC rfl rfl rfl rfl) ⟨rfl,rfl,trivial⟩
 |none=>
  obtain⟨rfl,b1,b2,b3,b4⟩:=hq2 rfl;obtain⟨qf,rfl⟩:∃k,qf=k+1:=⟨qf - 1,by omega⟩
  show WP _ _ _ (fP [(0,.ptr 81 0),(1,.ptr 1 0),(2,.ptr 2 0)] [(29,PG l qa qo),(81,PP),(1,NZ),(2,NG 22 100),(100,NR qk)]) _;have hq1:p9 l S (qf+1) qk qa qo=R:=hq1;unfold p9 at hq1;cases ht:isS l qa [125]with
  |true=>
   rw[if_pos ht]at hq1;have c3:=dV qo hl ht;refine SX.goM ?_
   try(refine SX.WP.aF ?_;refine SX.goM ?_)
   subst hq1;refine aQ.pI 100 (ps:=[29,81]) ?_;exact aP (ak.aZ rfl rfl rfl) (bC rfl rfl rfl rfl) ⟨rfl,rfl,trivial⟩
  |false=>
   rw[if_neg (by rw[ht];decide)]at hq1
   have c3:=dJ qo ht;have h3:=hs qa qo (by omega) (by omega) ho
   have h4:=hA qa qo (by omega) (by omega)
   cases hr2:S qa qo with
   |bad c p k a2 o2=>
    rw[hr2]at h3 hq1;have c4:=h3.bad;refine SX.goM ?_
    try(refine SX.WP.aF ?_;refine SX.goM ?_)
    exact W.next ⟨qk++[k],a2,o2,some (c,p),0⟩ ⟨hq1,fun h=>by cases h⟩ (by dsimp only;omega)
     (by
      refine SX.St.aY [(100,some 19)] (by intro b h;exact SX.dB h rfl) ?_ ?_ rfl
      ·repeat(first|exact trivial|refine⟨⟨_,rfl,SX.aG.same rfl⟩,?_⟩)
      ·exact⟨SX.ay.eq rfl rfl rfl,SX.ay.same rfl rfl,SX.ay.same rfl rfl,ay.node rfl rfl (aD.own rfl),SX.ay.row rfl rfl (by simp) (bF (aH _).symm),trivial⟩)
   |ok k a2=>
    rw[hr2]at h3 hq1 h4;have c4:=h3.ok;obtain⟨j1,j2,j3⟩:=h4;have j4:=kV k;refine SX.goM ?_
    try(refine SX.WP.aF ?_;refine SX.goM ?_)
    exact W.next ⟨qk++[k],a2,qo,none,qf⟩ ⟨hq1,fun h=>by dsimp only;exact⟨rfl,by omega,by omega,by omega,by simp;omega⟩⟩ (by dsimp only;omega)
     (by
      refine SX.St.aY [(100,some 19)] (by intro b h;exact SX.dB h rfl) ?_ ?_ rfl
      ·repeat(first|exact trivial|refine⟨⟨_,rfl,SX.aG.same rfl⟩,?_⟩)
      ·exact⟨SX.ay.eq rfl rfl rfl,SX.ay.same rfl rfl,SX.ay.same rfl rfl,ay.node rfl rfl (aD.own rfl),SX.ay.row rfl rfl (by simp) (bF (aH _).symm),trivial⟩)
theorem g_blk{l:List Tok}{m:Nat}{S:Gr}(hl:l.length≤1000000)(hs:GOK 85 l (m+1) S)(hA:Adv 2 l (m+1) S):GOK 135 l m (alQ 600 l S):=by
 intro a o hm ha ho;have nm1:Named 1 81:=⟨⟩;unfold alQ;cases ht:isS l a [123]with
 |true=>
  rw[if_pos rfl];have c1:=jA o hl ht;have g5:=bI ht;have h1:=ad1 (f:=181) (l:=l) (a:=a+1) (o:=o) (k:=fun a o=>p9 l S (l.length+1) [] a o) ho (fun h=>⟨aui hl hs hA (by omega) (by omega) (by omega),(zX hA _ _ _ _ (by omega) (by omega)).open.mono (by omega)⟩)
  cases hr:ins 600 (fun a o=>p9 l S (l.length+1) [] a o) (a+1) o with
  |bad e p n a' o'=>
   rw[hr]at h1;have c3:=h1.bad;show aj _ _ _ _ _;refine aj.fnF func135 results135 ntmps135 rfl rfl rfl rfl (fun w0 T B E0 hB=>?_)
   refine SX.goM ?_
   try(refine SX.WP.aF ?_;refine SX.goM ?_)
   exact aP (ak.aZ rfl rfl rfl) (AV0.imp.refl _) ⟨rfl,trivial⟩
  |ok n a'=>
   rw[hr]at h1;have c3:=h1.ok;show aj _ _ _ _ _;refine aj.fnF func135 results135 ntmps135 rfl rfl rfl rfl (fun w0 T B E0 hB=>?_)
   refine SX.goM ?_
   try(refine SX.WP.aF ?_;refine SX.goM ?_)
   exact aP (ak.aZ rfl rfl rfl) (AV0.imp.refl _) ⟨rfl,trivial⟩
 |false=>
  rw[if_neg (by decide)]
  have c1:=kg o ht;have c2:=apJ (f:=181) (l:=l) (a:=a) (o:=o) (e:=4) (p:=a) (by omega)
  show aj _ _ _ _ _;refine aj.fnF func135 results135 ntmps135 rfl rfl rfl rfl (fun w0 T B E0 hB=>?_)
  refine SX.goM ?_
  try(refine SX.WP.aF ?_;refine SX.goM ?_)
  exact aP (ak.aZ rfl rfl rfl) (AV0.imp.refl _) ⟨rfl,trivial⟩
theorem wU(l:List Tok)(a:Nat){o:Nat}(e p:Nat)(ho:o≤1000000):aj prog 135 [.ptr 29 0] [(29,PE l a o e p)] ⟨rNd nd0,[(29,.ent (PE l a (o+1) e p))]⟩:=by
 have nm1:Named 1 81:=⟨⟩;have c1:=iZ l a o e p [123];have c2:=apJ (f:=181) (l:=l) (a:=a) (o:=o) (e:=e) (p:=p) ho;refine aj.fnF func135 results135 ntmps135 rfl rfl rfl rfl (fun w0 T B E0 hB=>?_)
 refine SX.goM ?_
 try(refine SX.WP.aF ?_;refine SX.goM ?_)
 exact aP (ak.aZ rfl rfl rfl) (AV0.imp.refl _) ⟨rfl,trivial⟩
end
section
attribute [local irreducible] IntKind.wrap Go1 Reg WP aS aT bR bO aQ aC ak aj aX Sat
theorem g_if{l:List Tok}{m:Nat}{X S:Gr}(hl:l.length≤1000000)(hs:GOK 134 l m X)(hA:Adv 1 l m X)(hb:GOK 135 l m S)(bA:Adv 2 l m S){a o:Nat}(hm:m≤a+1)(ha:a≤l.length)(ho:o≤600)(hi:isS l a [105,102]=true):
  CR rNd 85 [.ptr 29 0] [] l a o (ifG l X S (a+1) o):=by
 have mark:zO 14:=⟨⟩;have g5:=bI hi;have k1:=dV o hl hi;have h1:=hs (a+1) o hm (by omega) ho
 have h2:=hA (a+1) o hm (by omega)
 unfold ifG;cases hr:X (a+1) o with
 |bad e p n a' o'=>
  rw[hr]at h1 h2;have k2:=h1.bad;obtain⟨j1,j2⟩:=h2;have k3:=wU l a' (o:=o') e p (by omega)
  have k4:=dD l a' (o'+1) e p [101,108,115,101];show aj _ _ _ _ _;refine aj.fnF func85 results85 ntmps85 rfl rfl rfl rfl (fun w0 T B E0 hB=>?_)
  refine SX.goM ?_;refine aQ.pI 21 (ps:=[29]) ?_;exact aP (ak.aZ rfl rfl rfl) (bC rfl rfl rfl (by first|(simp only[List.flatMap_cons,List.flatMap_nil,aH,List.append_nil,List.append_assoc];done)|(simp only[List.flatMap_cons,List.flatMap_nil,aH,List.append_nil,List.append_assoc];rfl))) ⟨rfl,trivial⟩
 |ok n a'=>
  rw[hr]at h1 h2;have k2:=h1.ok;obtain⟨j1,j2,j3⟩:=h2;have h3:=hb a' o (by omega) j3 ho
  have h4:=bA a' o (by omega) j3
  dsimp only
  cases hr2:S a' o with
  |bad e p b a2 o2=>
   rw[hr2]at h3;have k3:=h3.bad;have k4:=dD l a2 o2 e p [101,108,115,101];show aj _ _ _ _ _;refine aj.fnF func85 results85 ntmps85 rfl rfl rfl rfl (fun w0 T B E0 hB=>?_)
   refine SX.goM ?_;refine aQ.pI 21 (ps:=[29]) ?_;exact aP (ak.aZ rfl rfl rfl) (bC rfl rfl rfl (by first|(simp only[List.flatMap_cons,List.flatMap_nil,aH,List.append_nil,List.append_assoc];done)|(simp only[List.flatMap_cons,List.flatMap_nil,aH,List.append_nil,List.append_assoc];rfl))) ⟨rfl,trivial⟩
  |ok b a2=>
   rw[hr2]at h3 h4;have k3:=h3.ok;obtain⟨i1,i2,i3⟩:=h4
   dsimp only
   cases ht:isS l a2 [101,108,115,101]with
   |false=>
    rw[if_neg (by decide)]
    have k4:=dJ o ht;show aj _ _ _ _ _;refine aj.fnF func85 results85 ntmps85 rfl rfl rfl rfl (fun w0 T B E0 hB=>?_)
    refine SX.goM ?_;refine aQ.pI 21 (ps:=[29]) ?_;exact aP (ak.aZ rfl rfl rfl) (bC rfl rfl rfl (by first|(simp only[List.flatMap_cons,List.flatMap_nil,aH,List.append_nil,List.append_assoc];done)|(simp only[List.flatMap_cons,List.flatMap_nil,aH,List.append_nil,List.append_assoc];rfl))) ⟨rfl,trivial⟩
   |true=>
    rw[if_pos rfl];have k4:=dV o hl ht;have g6:=bI ht;have h5:=hb (a2+1) o (by omega) (by omega) ho
    cases hr3:S (a2+1) o with
    |bad e p c a3 o3=>
     rw[hr3]at h5;have k5:=h5.bad;show aj _ _ _ _ _;refine aj.fnF func85 results85 ntmps85 rfl rfl rfl rfl (fun w0 T B E0 hB=>?_)
     refine SX.goM ?_;refine aQ.pI 30 (ps:=[29]) ?_;exact aP (ak.aZ rfl rfl rfl) (bC rfl rfl rfl (by first|(simp only[List.flatMap_cons,List.flatMap_nil,aH,List.append_nil,List.append_assoc];done)|(simp only[List.flatMap_cons,List.flatMap_nil,aH,List.append_nil,List.append_assoc];rfl))) ⟨rfl,trivial⟩
    |ok c a3=>
     rw[hr3]at h5;have k5:=h5.ok;show aj _ _ _ _ _;refine aj.fnF func85 results85 ntmps85 rfl rfl rfl rfl (fun w0 T B E0 hB=>?_)
     refine SX.goM ?_;refine aQ.pI 30 (ps:=[29]) ?_;exact aP (ak.aZ rfl rfl rfl) (bC rfl rfl rfl (by first|(simp only[List.flatMap_cons,List.flatMap_nil,aH,List.append_nil,List.append_assoc];done)|(simp only[List.flatMap_cons,List.flatMap_nil,aH,List.append_nil,List.append_assoc];rfl))) ⟨rfl,trivial⟩
theorem g_for{l:List Tok}{m:Nat}{X S:Gr}(hl:l.length≤1000000)(hs:GOK 134 l m X)(hA:Adv 1 l m X)(hb:GOK 135 l m S){a o:Nat}(hm:m≤a+1)(ha:a≤l.length)(ho:o≤600)(hf:isS l a [105,102]=false)(hi:isS l a [102,111,114]=true):
  CR rNd 85 [.ptr 29 0] [] l a o (amg l X S (a+1) o):=by
 have g5:=bI hi;have k0:=dJ o hf;have k1:=dV o hl hi;unfold amg;cases hn:mD l (a+1)with
 |false=>
  rw[if_neg (by decide)]
  have k2:=aqW o hn;have k3:=iZ l (a+1) o 4 (a+1) [61];have k4:=yV (l:=l) (a+1) o 4 (a+1);have k5:=iZ l (a+1) o 4 (a+1) [46,46];have k6:=wU l (a+1) (o:=o) 4 (a+1) (by omega)
  show aj _ _ _ _ _;refine aj.fnF func85 results85 ntmps85 rfl rfl rfl rfl (fun w0 T B E0 hB=>?_)
  refine SX.goM ?_;exact aP (ak.aZ rfl rfl rfl) (bC rfl rfl rfl (by first|(simp only[List.flatMap_cons,List.flatMap_nil,aH,List.append_nil,List.append_assoc];done)|(simp only[List.flatMap_cons,List.flatMap_nil,aH,List.append_nil,List.append_assoc];rfl))) ⟨rfl,trivial⟩
 |true=>
  rw[if_pos rfl];have k2:=ajC o hl hn;have g6:=adY hn;cases ht:isS l (a+1+1) [61]with
  |false=>
   rw[if_neg (by decide)]
   have k3:=kg o ht;have k4:=yV (l:=l) (a+1+1) o 4 (a+1+1);have k5:=iZ l (a+1+1) o 4 (a+1+1) [46,46];have k6:=wU l (a+1+1) (o:=o) 4 (a+1+1) (by omega)
   show aj _ _ _ _ _;refine aj.fnF func85 results85 ntmps85 rfl rfl rfl rfl (fun w0 T B E0 hB=>?_)
   refine SX.goM ?_;exact aP (ak.aZ rfl rfl rfl) (bC rfl rfl rfl (by first|(simp only[List.flatMap_cons,List.flatMap_nil,aH,List.append_nil,List.append_assoc];done)|(simp only[List.flatMap_cons,List.flatMap_nil,aH,List.append_nil,List.append_assoc];rfl))) ⟨rfl,trivial⟩
  |true=>
   rw[if_pos rfl];have k3:=jA o hl ht;have g7:=bI ht;have h1:=hs (a+1+2) o (by omega) (by omega) ho
   have h2:=hA (a+1+2) o (by omega) (by omega)
   cases hr:X (a+1+2) o with
   |bad e p n a' o'=>
    rw[hr]at h1 h2;have k4:=h1.bad;obtain⟨j1,j2⟩:=h2;have k5:=iZ l a' o' e p [46,46];have k6:=yV (l:=l) a' o' e p;have k7:=wU l a' (o:=o') e p (by omega)
    show aj _ _ _ _ _;refine aj.fnF func85 results85 ntmps85 rfl rfl rfl rfl (fun w0 T B E0 hB=>?_)
    refine SX.goM ?_;exact aP (ak.aZ rfl rfl rfl) (bC rfl rfl rfl (by first|(simp only[List.flatMap_cons,List.flatMap_nil,aH,List.append_nil,List.append_assoc];done)|(simp only[List.flatMap_cons,List.flatMap_nil,aH,List.append_nil,List.append_assoc];rfl))) ⟨rfl,trivial⟩
   |ok n a'=>
    rw[hr]at h1 h2;have k4:=h1.ok;obtain⟨j1,j2,j3⟩:=h2
    dsimp only
    cases ht2:isS l a' [46,46]with
    |false=>
     rw[if_neg (by decide)]
     have k5:=kg o ht2;have k6:=yV (l:=l) a' o 4 a';have k7:=wU l a' (o:=o) 4 a' (by omega)
     show aj _ _ _ _ _;refine aj.fnF func85 results85 ntmps85 rfl rfl rfl rfl (fun w0 T B E0 hB=>?_)
     refine SX.goM ?_;exact aP (ak.aZ rfl rfl rfl) (bC rfl rfl rfl (by first|(simp only[List.flatMap_cons,List.flatMap_nil,aH,List.append_nil,List.append_assoc];done)|(simp only[List.flatMap_cons,List.flatMap_nil,aH,List.append_nil,List.append_assoc];rfl))) ⟨rfl,trivial⟩
    |true=>
     rw[if_pos rfl];have k5:=jA o hl ht2;have g8:=bI ht2;have h3:=hs (a'+1) o (by omega) (by omega) ho
     have h4:=hA (a'+1) o (by omega) (by omega)
     cases hr2:X (a'+1) o with
     |bad e p n2 a2 o2=>
      rw[hr2]at h3 h4;have k6:=h3.bad;obtain⟨j1,j2⟩:=h4;have k7:=wU l a2 (o:=o2) e p (by omega)
      show aj _ _ _ _ _;refine aj.fnF func85 results85 ntmps85 rfl rfl rfl rfl (fun w0 T B E0 hB=>?_)
      refine SX.goM ?_;exact aP (ak.aZ rfl rfl rfl) (bC rfl rfl rfl (by first|(simp only[List.flatMap_cons,List.flatMap_nil,aH,List.append_nil,List.append_assoc];done)|(simp only[List.flatMap_cons,List.flatMap_nil,aH,List.append_nil,List.append_assoc];rfl))) ⟨rfl,trivial⟩
     |ok n2 a2=>
      rw[hr2]at h3 h4;have k6:=h3.ok;obtain⟨i1,i2,i3⟩:=h4
      dsimp only
      have h5:=hb a2 o (by omega) i3 ho
      cases hr3:S a2 o with
      |bad e p c a3 o3=>
       rw[hr3]at h5;have k7:=h5.bad;show aj _ _ _ _ _;refine aj.fnF func85 results85 ntmps85 rfl rfl rfl rfl (fun w0 T B E0 hB=>?_)
       refine SX.goM ?_;exact aP (ak.aZ rfl rfl rfl) (bC rfl rfl rfl (by first|(simp only[List.flatMap_cons,List.flatMap_nil,aH,List.append_nil,List.append_assoc];done)|(simp only[List.flatMap_cons,List.flatMap_nil,aH,List.append_nil,List.append_assoc];rfl))) ⟨rfl,trivial⟩
      |ok c a3=>
       rw[hr3]at h5;have k7:=h5.ok;show aj _ _ _ _ _;refine aj.fnF func85 results85 ntmps85 rfl rfl rfl rfl (fun w0 T B E0 hB=>?_)
       refine SX.goM ?_;exact aP (ak.aZ rfl rfl rfl) (bC rfl rfl rfl (by first|(simp only[List.flatMap_cons,List.flatMap_nil,aH,List.append_nil,List.append_assoc];done)|(simp only[List.flatMap_cons,List.flatMap_nil,aH,List.append_nil,List.append_assoc];rfl))) ⟨rfl,trivial⟩
def HT(l:List Tok):Prop:=∀(i:Nat) (t:Tok),l[i]? =some t→t.text=[61]→t.kind≠1
theorem aoF{l:List Tok}(hT:HT l){a:Nat}{t:Tok}(ht:l[a]? =some t):isS l a [61]=decide (t.text=[61]):=by
 unfold isS;rw[ht]
 dsimp only
 by_cases h:t.text=[61]
 ·simp[h,hT a t ht h]
 ·simp[h]
theorem g_let{l:List Tok}{m:Nat}{X:Gr}(hl:l.length≤1000000)(hT:HT l)(hs:GOK 134 l m X)(hA:Adv 1 l m X){a o:Nat}(hm:m≤a+2)(ha:a≤l.length)(ho:o≤600)(hf:isS l a [105,102]=false)(hi:isS l a [102,111,114]=false)(hn:mD l a=true)(he:isS l (a+1) [61]=true):
  CR rNd 85 [.ptr 29 0] [] l a o (thenS l (gW (fun n=> .mk 18 (txt l a) [n]) (X (a+2) o)) o [59]):=by
 have k0:=dJ o hf;have k1:=dJ o hi;have k2:=qL l a o;rw[hn]at k2;have k3:=ajC o hl hn;have k4:=jA o hl he;have g5:=bI he;obtain⟨⟨tk,tt,tp⟩,ht⟩:∃t,l[a+1]? =some t:=⟨_,zq2 g5⟩
 rw[aoF hT ht]at he
 dsimp only at he
 have h1:=hs (a+2) o (by omega) (by omega) ho
 cases hr:X (a+2) o with
 |bad e p n a' o'=>
  rw[hr]at h1;have k5:=h1.bad;have k6:=iZ l a' o' e p [59];show aj _ _ _ _ _;refine aj.fnF func85 results85 ntmps85 rfl rfl rfl rfl (fun w0 T B E0 hB=>?_)
  refine SX.goM ?_;exact aP (ak.aZ rfl rfl rfl) (bC rfl rfl rfl (by first|(simp only[List.flatMap_cons,List.flatMap_nil,aH,List.append_nil,List.append_assoc];done)|(simp only[List.flatMap_cons,List.flatMap_nil,aH,List.append_nil,List.append_assoc];rfl))) ⟨rfl,trivial⟩
 |ok n a'=>
  rw[hr]at h1;have k5:=h1.ok;unfold thenS gW
  dsimp only
  cases ht2:isS l a' [59]with
  |true=>
   rw[if_pos rfl];have k6:=jA o hl ht2;show aj _ _ _ _ _;refine aj.fnF func85 results85 ntmps85 rfl rfl rfl rfl (fun w0 T B E0 hB=>?_)
   refine SX.goM ?_;exact aP (ak.aZ rfl rfl rfl) (bC rfl rfl rfl (by first|(simp only[List.flatMap_cons,List.flatMap_nil,aH,List.append_nil,List.append_assoc];done)|(simp only[List.flatMap_cons,List.flatMap_nil,aH,List.append_nil,List.append_assoc];rfl))) ⟨rfl,trivial⟩
  |false=>
   rw[if_neg (by decide)]
   have k6:=kg o ht2;show aj _ _ _ _ _;refine aj.fnF func85 results85 ntmps85 rfl rfl rfl rfl (fun w0 T B E0 hB=>?_)
   refine SX.goM ?_;exact aP (ak.aZ rfl rfl rfl) (bC rfl rfl rfl (by first|(simp only[List.flatMap_cons,List.flatMap_nil,aH,List.append_nil,List.append_assoc];done)|(simp only[List.flatMap_cons,List.flatMap_nil,aH,List.append_nil,List.append_assoc];rfl))) ⟨rfl,trivial⟩
theorem atf{l:List Tok}{m:Nat}{X:Gr}(hl:l.length≤1000000)(hT:HT l)(hs:GOK 134 l m X){a o:Nat}(hm:m≤a)(ha:a≤l.length)(ho:o≤600)(hf:isS l a [105,102]=false)(hi:isS l a [102,111,114]=false)(hn:(mD l a&&isS l (a+1) [61])=false):
  CR rNd 85 [.ptr 29 0] [] l a o (thenS l (gW (fun n=> .mk 19 [] [n]) (X a o)) o [59]):=by
 have k0:=dJ o hf;have k1:=dJ o hi;have k2:=qL l a o;have h1:=hs a o hm ha ho
 -- what is behind,whatever it be
 have key:∀{n a' o'} {b:Option (Nat×Nat)},aj prog 134 [.ptr 29 0] [(29,PG l a o)] ⟨rNd n,[(29,.ent (PS l a' o' b))]⟩→∀{a2 o2 b2},aj prog 137 [.ptr 29 0,.v (str [59])] [(29,PS l a' o' b)] ⟨.tup [],[(29,.ent (PS l a2 o2 b2))]⟩→
   aj prog 85 [.ptr 29 0] [(29,PG l a o)] ⟨rNd (.mk 19 [] [n]),[(29,.ent (PS l a2 o2 b2))]⟩:=by
  intro n a' o' b k5 a2 o2 b2 k6;cases hn1:mD l a with
  |false=>
   rw[hn1]at k2;show aj _ _ _ _ _;refine aj.fnF func85 results85 ntmps85 rfl rfl rfl rfl (fun w0 T B E0 hB=>?_)
   refine SX.goM ?_;exact aP (ak.aZ rfl rfl rfl) (bC rfl rfl rfl (by first|(simp only[List.flatMap_cons,List.flatMap_nil,aH,List.append_nil,List.append_assoc];done)|(simp only[List.flatMap_cons,List.flatMap_nil,aH,List.append_nil,List.append_assoc];rfl))) ⟨rfl,trivial⟩
  |true=>
   rw[hn1]at k2 hn;have he:isS l (a+1) [61]=false:=by simpa using hn
   by_cases hlt:a+1 < l.length
   ·obtain⟨⟨tk,tt,tp⟩,ht⟩:∃t,l[a+1]? =some t:=⟨_,zq2 hlt⟩
    rw[aoF hT ht]at he
    dsimp only at he
    show aj _ _ _ _ _;refine aj.fnF func85 results85 ntmps85 rfl rfl rfl rfl (fun w0 T B E0 hB=>?_)
    refine SX.goM ?_;exact aP (ak.aZ rfl rfl rfl) (bC rfl rfl rfl (by first|(simp only[List.flatMap_cons,List.flatMap_nil,aH,List.append_nil,List.append_assoc];done)|(simp only[List.flatMap_cons,List.flatMap_nil,aH,List.append_nil,List.append_assoc];rfl))) ⟨rfl,trivial⟩
   ·have g6:=adY hn1;show aj _ _ _ _ _;refine aj.fnF func85 results85 ntmps85 rfl rfl rfl rfl (fun w0 T B E0 hB=>?_)
    refine SX.goM ?_;exact aP (ak.aZ rfl rfl rfl) (bC rfl rfl rfl (by first|(simp only[List.flatMap_cons,List.flatMap_nil,aH,List.append_nil,List.append_assoc];done)|(simp only[List.flatMap_cons,List.flatMap_nil,aH,List.append_nil,List.append_assoc];rfl))) ⟨rfl,trivial⟩
 cases hr:X a o with
 |bad e p n a' o'=>
  rw[hr]at h1;exact key (b:=some (e,p)) h1.bad (b2:=some (e,p)) (iZ l a' o' e p [59])
 |ok n a'=>
  rw[hr]at h1;unfold thenS gW
  dsimp only
  cases ht2:isS l a' [59]with
  |true=>
   rw[if_pos rfl];exact key (b:=none) h1.ok (b2:=none) (jA o hl ht2)
  |false=>
   rw[if_neg (by decide)]
   exact key (b:=none) h1.ok (b2:=some (4,a')) (kg o ht2)
theorem g_st{l:List Tok}{m:Nat}{X S:Gr}(hl:l.length≤1000000)(hT:HT l)(hs:GOK 134 l m X)(hA:Adv 1 l m X)(hb:GOK 135 l (m+1) S)(bA:Adv 2 l (m+1) S):GOK 85 l m (stG l X S):=by
 intro a o hm ha ho;have hs':GOK 134 l (m+1) X:=fun a o hm ha=>hs a o (by omega) ha
 have hA':Adv 1 l (m+1) X:=fun a o hm ha=>hA a o (by omega) ha
 unfold stG;cases h1:isS l a [105,102]with
 |true=>exact g_if hl hs' hA' hb bA (by omega) ha ho h1
 |false=>
  cases h2:isS l a [102,111,114]with
  |true=>exact g_for hl hs' hA' hb (by omega) ha ho h1 h2
  |false=>
   cases h3:mD l a&&isS l (a+1) [61]with
   |true=>
    have h4:=h3;rw[Bool.and_eq_true]at h4;exact g_let hl hT hs' hA' (by omega) ha ho h1 h2 h4.1 h4.2
   |false=>exact atf hl hT hs hm ha ho h1 h2 h3
theorem apB{l:List Tok}(hl:l.length≤1000000)(hT:HT l):∀(n m:Nat),l.length+1≤m+n→GOK 85 l m (ag0 600 l n)
 |0,m,h=>fun a o hm ha=>by omega
 |n+1,m,h=>g_st hl hT (fun a o hm ha ho=>(asz hl (l.length+1) m (by omega)).1 a o hm ha ho) (fun a o hm ha=>(zf 600 l (l.length+1) m (by omega)).1 a o hm ha) (g_blk hl (fun a o hm ha ho=>apB hl hT n (m+1) (by omega) a o (by omega) ha ho) (fun a o hm ha=>uh 600 l n (m+1) (by omega) a o (by omega) ha)) (ajg fun a o hm ha=>uh 600 l n (m+1) (by omega) a o (by omega) ha)
end
section
section
theorem atJ(n:Nd):cnt n=1+iE n.kids:=by cases n;rw[eG];rfl
theorem wX:∀L:List Nd,iE (L.flatMap Nd.kids)+L.length=iE L
 |[]=>by simp[bK]
 |k::ks=>by rw[List.flatMap_cons,dY,aU,atJ,List.length_cons,←wX ks];omega
theorem ak8(L:List Nd)(j:Nat):iE ((L.take j).flatMap Nd.kids)≤iE L:=by
 have h1:=wX (L.take j);have h2:iE (L.take j++L.drop j)=iE L:=by rw[List.take_append_drop]
 rw[dY]at h2;omega
theorem afW(L:List Nd)(j:Nat):((L.take j).flatMap Nd.kids).length≤iE L:=Nat.le_trans (uN _) (ak8 L j)
theorem acn{L:List Nd}{j:Nat}{n:Nd}(h:L[j]? =some n):(L.take (j+1)).flatMap Nd.kids=(L.take j).flatMap Nd.kids++n.kids:=by
 rw[List.take_add_one,h];simp
mutual
def dep:Nd→Nat
 | .mk _ _ ks=>if ks.isEmpty then 0 else 1+jS ks
def jS:List Nd→Nat
 |[]=>0
 |k::ks=>max (dep k) (jS ks)
end
theorem kF:jS []=0:=by rw[jS]
theorem jK(k:Nd)(ks:List Nd):jS (k::ks)=max (dep k) (jS ks):=by rw[jS]
theorem zD(n:Nd):dep n=if n.kids.isEmpty then 0 else 1+jS n.kids:=by cases n;rw[dep];rfl
theorem yc:∀ks ms:List Nd,jS (ks++ms)=max (jS ks) (jS ms)
 |[],ms=>by simp[kF]
 |k::ks,ms=>by rw[List.cons_append,jK,jK,yc ks ms];omega
theorem abU:∀L:List Nd,jS L=if L.flatMap Nd.kids=[]then 0 else 1+jS (L.flatMap Nd.kids)
 |[]=>by simp[kF]
 |k::ks=>by
  rw[jK,zD,abU ks,List.flatMap_cons,yc];cases hk:k.kids with
  |nil=>simp[kF]
  |cons a b=>
   by_cases h:ks.flatMap Nd.kids=[]
   ·simp[h,kF]
   ·simp[h,Nat.add_max_add_left]
theorem aef:∀L:List Nd,jS L≤iE L
 |[]=>by simp[kF]
 | .mk o t ks::ms=>by
  have h1:=aef ks;have h2:=aef ms;rw[jK,aU,eG,dep]
  split <;> omega
attribute [local irreducible] IntKind.wrap Go1 Reg WP aS aT bR bO aQ aC ak aj aX Sat
def ndE(n:Nd):List CA:=caN n
instance:dO ndE 3:=⟨fun n=>rfl⟩
theorem aix(l:List Nd):AV.r (aA 3 ndC l)=AV.r (aA 3 ndE l):=by rw[show ndC=ndE from funext aH]
structure DeS where
 n:Nat
 L:List Nd
 out:Nat
instance au5(l:List Nd):Con prog 86 [.r (aA 3 ndC l)] (iE l≤1000000000) (.v (.int .i64 (jS l:Int))):=⟨fun hl=>by
 have hd:=aef l;have hrow:=aix l;refine ah.fnF func86 results86 ntmps86 rfl rfl rfl (by simp[AV.ids,AV0.ids,Atom.ids]) rfl (fun w0 T B E0 hB=>?_)
 refine SX.goM ?_;refine W.loop (fun q:DeS=>(q.L≠[]→jS l=q.n+jS q.L)∧(q.L=[]→jS l=q.out)∧iE q.L+q.n≤iE l∧q.out≤q.n) (fun q=>[(3,.r (aA 3 ndE q.L)),(4,.v (.int .i64 (q.out:Int))),(5,.v (.int .i64 (q.n:Int)))]) (fun _=>[]) (fun q=>iE q.L) ⟨0,l,0⟩ ⟨fun _=>by dsimp only;omega,fun h=>by dsimp only at*;subst h;exact kF,by dsimp only;omega,Nat.le_refl _⟩ (fun q hq=>?_)
 obtain⟨n,L,out⟩:=q
 dsimp only at hq
 obtain⟨h1,h2,h3,h4⟩:=hq;show WP _ _ _ (fP [(3,.r (aA 3 ndE L)),(4,.v (.int .i64 (out:Int))),(5,.v (.int .i64 (n:Int)))] []) _;have hlen:=uN L;refine SX.goM ?_;refine W.mO (fun(j:Nat) (M:List Nd)=>j≤L.length∧M=(L.take j).flatMap Nd.kids) (fun j M=>[(3,.r (aA 3 ndE L)),(4,.v (.int .i64 (out:Int))),(5,.v (.int .i64 (n:Int))),(6,.own 100),(12,.r (aA 3 ndE L)),(13,.v (.int .i64 (L.length:Int))),(14,.v (.int .i64 (j:Int)))]) (fun j M=>[(100,NR M)]) (fun j _=>L.length - j) 0 [] ⟨Nat.zero_le _,rfl⟩ (fun j M ⟨hj,hM⟩=>?_)
 have hm:=afW L j;rw[←hM]at hm;by_cases hlt:j < L.length
 ·obtain⟨k,hk⟩:∃k,L[j]? =some k:=⟨_,zq2 hlt⟩
  have hm2:=afW L (j+1);rw[acn hk,←hM,List.length_append]at hm2;refine SX.goM ?_;exact W.lX (j+1) (M++k.kids) ⟨by omega,by rw[hM,acn hk]⟩ (by omega)
   (by
    refine SX.St.aY [(100,some 21)] (by intro b h;cases h) ?_ ?_ rfl
    ·repeat(first|exact trivial|refine⟨⟨_,rfl,SX.aG.same rfl⟩,?_⟩|refine⟨⟨_,rfl,SX.aG.own rfl⟩,?_⟩)
    ·exact⟨SX.ay.row rfl rfl (by simp) (by simp),trivial⟩)
 ·have hrow2:=aix M;refine WP.freeze 100 hB rfl ?_;have hj:L.take j=L:=List.take_of_length_le (by omega)
  rw[hj]at hM;have hdf:=abU L;have hcf:=wX L;rw[←hM]at hdf hcf;by_cases h0:L.length=0
  ·have hL:=List.eq_nil_of_length_eq_zero h0;refine SX.goM ?_;exact gK (by rw[h2 hL])
  ·have hL:L≠[]:=fun e=>h0 (by rw[e];rfl)
   refine SX.goM ?_;exact W.next ⟨n+1,M,n⟩ ⟨fun h=>by dsimp only at*;rw[if_neg h]at hdf;have:=h1 hL;omega,fun h=>by dsimp only at*;rw[if_pos h]at hdf;have:=h1 hL;omega,by dsimp only;omega,by dsimp only;omega⟩ (by dsimp only;omega)
    (SX.St.aY [] (by intro b h;cases h) ⟨⟨_,rfl,SX.aG.eq hrow2 rfl⟩,⟨_,rfl,SX.aG.same rfl⟩,⟨_,rfl,SX.aG.same rfl⟩,trivial⟩ trivial rfl)⟩
structure CoS where
 L:List Nd
 c:Nat
end
section
def u6(l:List Tok)(S:Gr):Nat→List Nd→Gr
 |0,_=>fun a o=> .bad 4 a nd0 a o
 |f+1,ks=>fun a o=>if a < l.length then(match S a o with
  | .bad e p n a' o'=> .bad e p (.mk 0 [] (ks++[n])) a' o'
  | .ok n a'=>u6 l S f (ks++[n]) a' o)
  else .ok (.mk 0 [] ks) a
def aft(l:List Tok):Res:=u6 l (ag0 600 l (l.length+1)) (l.length+1) [] 0 0
def alx(ks:List Nd)(d:Int):List Nd×Nat×Nat:=if d < (jS ks:Int)then([],0,8)else(ks,0,0)
def sH(l:List Tok)(d:Int):List Nd×Nat×Nat:=
 if d < 0∨200 < d then([],0,1)else
 if l.all gF then(match aft l with
  | .bad e p _ _ _=>([],p,e)
  | .ok n _=>alx n.kids d)
 else([],0,1)
abbrev tupP(r:List Nd×Nat×Nat):AV:= .tup [.one (.c (.sat (aA 3 ndC r.1))),.one (.c (.val (.int .i64 (r.2.1:Int)))),.one (.c (.val (.int .i64 (r.2.2:Int))))]
theorem aqj{t:Tok}(h:gF t=true)(ht:t.text=[61]):t.kind≠1:=by
 intro hk;have hs:srt 61=5:=by unfold srt;decide
 have hn:num [61]=false:=by unfold num dgL;simp[hs]
 unfold gF at h;rw[if_pos hk,ht,hn]at h;cases h
theorem ht_of{l:List Tok}(h:l.all gF=true):HT l:=fun i t ht he=>aqj (List.all_eq_true.1 h t (zq4 ht)) he
def prS(l:List Tok)(S:Gr)(q:LiS):Res:=match q.b with
 |none=>u6 l S q.f q.ks q.a q.o
 |some (e,p)=> .bad e p (.mk 0 [] q.ks) q.a q.o
attribute [local irreducible] IntKind.wrap Go1 Reg WP aS aT bR bO aQ aC ak aj aX Sat
theorem arF(l:List Tok)(d:Int)(hl:l.length≤1000000)(ht:∀t∈l,t.text.length≤9223372036854775807):ah prog 42 [.r (aA 3 aah l),.v (.int .i64 d)] (tupP (sH l d)):=by
 unfold sH;by_cases hd:d < 0∨200 < d
 ·rw[if_pos hd];by_cases h0:d < 0
  ·refine ah.fnF func42 results42 ntmps42 rfl rfl rfl (by simp[AV.ids,AV0.ids,Atom.ids]) rfl (fun w0 T B E0 hB=>?_)
   refine SX.goM ?_;refine vB (ak.tmp rfl) (ak.tmp rfl) (ak.tmp rfl) imp_nil (AV0.imp.refl _) (AV0.imp.refl _)
  ·refine ah.fnF func42 results42 ntmps42 rfl rfl rfl (by simp[AV.ids,AV0.ids,Atom.ids]) rfl (fun w0 T B E0 hB=>?_)
   refine SX.goM ?_;refine vB (ak.tmp rfl) (ak.tmp rfl) (ak.tmp rfl) imp_nil (AV0.imp.refl _) (AV0.imp.refl _)
 ·rw[if_neg hd];generalize hV:(if l.all gF then(match aft l with
   | .bad e p _ _ _=>(([],p,e):List Nd×Nat×Nat)
   | .ok n _=>alx n.kids d)else([],0,1))=V
  refine ah.fnF func42 results42 ntmps42 rfl rfl rfl (by simp[AV.ids,AV0.ids,Atom.ids]) rfl (fun w0 T B E0 hB=>?_)
  refine SX.goM ?_;refine W.loop (fun k:Nat=>k≤l.length∧∀i t,i < k→l[i]? =some t→gF t=true) (fun k=>[(0,.r (aA 3 aah l)),(1,.v (.int .i64 d)),(17,.r (aA 3 aah l)),(18,.v (.int .i64 (l.length:Int))),(19,.v (.int .i64 (k:Int)))]) (fun _=>[]) (fun k=>l.length - k) 0 ⟨Nat.zero_le _,fun i t h=>by omega⟩ (fun k ⟨hk,hT⟩=>?_)
  by_cases hlt:k < l.length
  ·obtain⟨⟨tk,tt,tp⟩,htk⟩:∃t,l[k]? =some t:=⟨_,zq2 hlt⟩
   have htt:tt.length≤9223372036854775807:=ht _ (zq4 htk);have cI:ah prog 84 [.agg (tokA ⟨tk,tt,tp⟩)] (.v (.bool (gF ⟨tk,tt,tp⟩))):=(atG ⟨tk,tt,tp⟩).h htt;cases hi:gF ⟨tk,tt,tp⟩with
   |false=>
    rw[hi]at cI;have hall:l.all gF=false:=by
     rw[List.all_eq_false];exact⟨_,zq4 htk,by rw[hi];decide⟩
    rw[hall,if_neg (by decide)]at hV
    refine SX.goM ?_;subst hV;refine vB (ak.tmp rfl) (ak.tmp rfl) (ak.tmp rfl) imp_nil (AV0.imp.refl _) (AV0.imp.refl _)
   |true=>
    rw[hi]at cI;refine SX.goM ?_;refine W.next (k+1) ⟨by omega,fun i t h1 h2=>?_⟩ (by omega)
    by_cases e:i=k
    ·subst e;rw[htk]at h2;cases h2;exact hi
    ·exact hT i t (by omega) h2
  ·have hall:l.all gF=true:=by
    rw[List.all_eq_true];intro t htm;obtain⟨i,hi⟩:=List.getElem?_of_mem htm
    exact hT i t (by have:=(List.getElem?_eq_some_iff.1 hi).1;omega) hi
   rw[hall,if_pos rfl]at hV;have gs:=apB hl (ht_of hall) (l.length+1) 0 (by omega)
   have ga:=uh 600 l (l.length+1) 0 (by omega)
   unfold aft at hV;generalize ag0 600 l (l.length+1)=S at hV gs ga;generalize hR:u6 l S (l.length+1) [] 0 0=R at hV;refine SX.goM ?_;refine W.loop (fun q:LiS=>prS l S q=R∧(q.b=none→q.o=0∧q.a≤l.length∧l.length < q.a+q.f∧iE q.ks≤q.a)) (fun _=>[(0,.r (aA 3 aah l)),(1,.v (.int .i64 d)),(9,.ptr 29 0),(10,.own 100)]) (fun q=>[(29,PS l q.a q.o q.b),(100,NR q.ks)]) (fun q=>match q.b with|none=>l.length+1 - q.a|some _=>0) ⟨[],0,0,none,l.length+1⟩ ⟨hR,fun _=>by dsimp only;exact⟨rfl,by omega,by omega,by rw[bK];omega⟩⟩ (fun q hq=>?_)
    (by
     refine SX.St.aY [(100,none)] (by intro b h;cases h) ?_ ?_ rfl
     ·repeat(first|exact trivial|refine⟨⟨_,rfl,SX.aG.same rfl⟩,?_⟩|refine⟨⟨_,rfl,SX.aG.nil rfl⟩,?_⟩)
     ·exact⟨SX.ay.eq rfl rfl rfl,SX.ay.bV rfl,trivial⟩)
   obtain⟨qk,qa,qo,qb,qf⟩:=q;obtain⟨hq1,hq2⟩:=hq
   dsimp only at hq1 hq2
   cases qb with
   |some b=>
    obtain⟨ee,p⟩:=b;show WP _ _ _ (fP [(0,.r (aA 3 aah l)),(1,.v (.int .i64 d)),(9,.ptr 29 0),(10,.own 100)] [(29,PE l qa qo ee p),(100,NR qk)]) _;refine SX.goM ?_;subst hq1;subst hV;refine vB (ak.tmp rfl) (ak.tmp rfl) (ak.tmp rfl) imp_nil (AV0.imp.refl _) (AV0.imp.refl _)
   |none=>
    obtain⟨rfl,b2,b3,b4⟩:=hq2 rfl;obtain⟨qf,rfl⟩:∃k,qf=k+1:=⟨qf - 1,by omega⟩
    show WP _ _ _ (fP [(0,.r (aA 3 aah l)),(1,.v (.int .i64 d)),(9,.ptr 29 0),(10,.own 100)] [(29,PG l qa 0),(100,NR qk)]) _;have hq1:u6 l S (qf+1) qk qa 0=R:=hq1;unfold u6 at hq1;have hlk:=uN qk;by_cases hlt2:qa < l.length
    ·rw[if_pos hlt2]at hq1;have h3:=gs qa 0 (by omega) (by omega) (by omega)
     have h4:=ga qa 0 (by omega) (by omega)
     cases hr2:S qa 0 with
     |bad c p k a2 o2=>
      rw[hr2]at h3 hq1;have c4:=h3.bad;refine SX.goM ?_;exact W.next ⟨qk++[k],a2,o2,some (c,p),0⟩ ⟨hq1,fun h=>by cases h⟩ (by dsimp only;omega)
       (by
        refine SX.St.aY [(100,some 48)] (by intro b h;cases h) ?_ ?_ rfl
        ·repeat(first|exact trivial|refine⟨⟨_,rfl,SX.aG.same rfl⟩,?_⟩|refine⟨⟨_,rfl,SX.aG.own rfl⟩,?_⟩)
        ·exact⟨SX.ay.eq rfl rfl rfl,SX.ay.row rfl rfl (by simp) (bF (aH _).symm),trivial⟩)
     |ok k a2=>
      rw[hr2]at h3 hq1 h4;have c4:=h3.ok;obtain⟨j1,j2,j3⟩:=h4;have j4:=kV k;refine SX.goM ?_;exact W.next ⟨qk++[k],a2,0,none,qf⟩ ⟨hq1,fun h=>by dsimp only;exact⟨rfl,by omega,by omega,by rw[dY,aU,bK];omega⟩⟩ (by dsimp only;omega)
       (by
        refine SX.St.aY [(100,some 48)] (by intro b h;cases h) ?_ ?_ rfl
        ·repeat(first|exact trivial|refine⟨⟨_,rfl,SX.aG.same rfl⟩,?_⟩|refine⟨⟨_,rfl,SX.aG.own rfl⟩,?_⟩)
        ·exact⟨SX.ay.eq rfl rfl rfl,SX.ay.row rfl rfl (by simp) (bF (aH _).symm),trivial⟩)
    ·rw[if_neg hlt2]at hq1;have cD:ah prog 86 [.r (aA 3 ndC qk)] (.v (.int .i64 (jS qk:Int))):=Con.use (by omega)
     refine WP.freeze 100 hB rfl ?_;subst hq1;have hV:alx qk d=V:=hV;unfold alx at hV;by_cases hdd:d < (jS qk:Int)
     ·rw[if_pos hdd]at hV;refine SX.goM ?_;subst hV;refine vB (ak.tmp rfl) (ak.tmp rfl) (ak.tmp rfl) imp_nil (AV0.imp.refl _) (AV0.imp.refl _)
     ·rw[if_neg hdd]at hV;refine SX.goM ?_;subst hV;refine vB (ak.tmp rfl) (ak.tmp rfl) (ak.tmp rfl) (AV0.imp.refl _) (AV0.imp.refl _) (AV0.imp.refl _)
end
end
section
attribute [local irreducible] IntKind.wrap Go1 Reg WP aS aT bR bO aQ aC ak aj aX Sat
abbrev tupQ(x:List Nd)(p e:Nat):AV:= .tup [.one (.c (.sat (aA 3 ndC x))),.one (.c (.val (.int .i64 (p:Int)))),.one (.c (.val (.int .i64 (e:Int))))]
theorem ag6{l:List Tok}{d:Int}{x:List Nd}{p e:Nat}(hl:l.length≤1000000)(ht:∀t∈l,t.text.length≤9223372036854775807)(h:sH l d=(x,p,e)):ah prog 42 [.r (aA 3 aah l),.v (.int .i64 d)] (tupQ x p e):=by
 have:=arF l d hl ht;rw[h]at this;exact this
end
section
abbrev Wrd:=Int×List UInt8
abbrev sg(s:List UInt8):Wrd:=(3,s)
def kt(t:Tok):Wrd:=(t.kind,t.text)
def abp(s:Wrd):List (List Wrd)→List Wrd
 |[]=>[]
 |[x]=>x
 |x::y::r=>x++s::abp s (y::r)
def tx(k:Int)(t:List UInt8):Bool:=gF ⟨k,t,0⟩&&!ownB t
def manyB(o:Int)(n:Nat):Bool:=if o=13∨o=16 then true else if o=17 then decide (n=2∨n=3)else if o=3 then decide (n=1)else decide (4≤o∧o≤12)&&decide (n=2)
mutual
def okE:Nd→Bool
 | .mk o t ks=>if o=1∨o=2 then tx o t&&ks.isEmpty
   else if o=14 then decide (t=[])&&(!ks.isEmpty&&okRL ks)
   else manyB o ks.length&&(if o=13 then tx 2 t else decide (t=[]))&&okEL ks
def okEL:List Nd→Bool
 |[]=>true
 |k::ks=>okE k&&okEL ks
def okR:Nd→Bool
 | .mk o t ks=>decide (o=15)&&decide (t=[])&&!ks.isEmpty&&okEL ks
def okRL:List Nd→Bool
 |[]=>true
 |k::ks=>okR k&&okRL ks
end
def rst(l:List Tok)(a:Nat):List Wrd:=(l.map kt).drop a
def hS(r:List Wrd)(s:List UInt8):Bool:=match r with
 |[]=>false
 |w::_=>!decide (w.1=1)&&decide (w.2=s)
def hN(r:List Wrd):Bool:=match r with
 |[]=>false
 |w::_=>decide (w.1=2)&&!ownB w.2
theorem adK(l:List Tok)(a:Nat):(rst l a).head? =(l[a]?).map kt:=by
 unfold rst;rw[List.head?_drop,List.getElem?_map]
theorem bL(l:List Tok)(a:Nat)(s:List UInt8):isS l a s=hS (rst l a) s:=by
 have h:=adK l a;unfold isS hS;cases hl:l[a]? with
 |none=>rw[hl]at h;cases hr:rst l a with|nil=>rfl|cons w r=>rw[hr]at h;cases h
 |some t=>
  rw[hl]at h;cases hr:rst l a with
  |nil=>rw[hr]at h;cases h
  |cons w r=>rw[hr]at h;simp at h;rw[h];rfl
theorem zW(l:List Tok)(a:Nat):mD l a=hN (rst l a):=by
 have h:=adK l a;unfold mD hN;cases hl:l[a]? with
 |none=>rw[hl]at h;cases hr:rst l a with|nil=>rfl|cons w r=>rw[hr]at h;cases h
 |some t=>
  rw[hl]at h;cases hr:rst l a with
  |nil=>rw[hr]at h;cases h
  |cons w r=>rw[hr]at h;simp at h;rw[h];rfl
theorem afS{l:List Tok}{a:Nat}{w:Wrd}{r:List Wrd}(h:rst l a=w::r):∃t,l[a]? =some t∧t.kind=w.1∧t.text=w.2:=by
 have h1:=adK l a;rw[h]at h1;cases hl:l[a]? with
 |none=>rw[hl]at h1;cases h1
 |some t=>rw[hl]at h1;simp at h1;exact⟨t,rfl,by rw[h1];rfl,by rw[h1];rfl⟩
theorem aqL{l:List Tok}{a:Nat}{w:Wrd}{r:List Wrd}(h:rst l a=w::r):txt l a=w.2:=by
 obtain⟨t,h1,_,h2⟩:=afS h;unfold txt;rw[h1];exact h2
theorem lV{l:List Tok}{a:Nat}{w:Wrd}{r:List Wrd}(h:rst l a=w::r):rst l (a+1)=r:=by
 unfold rst at h ⊢;rw[←List.drop_drop,h];rfl
theorem j5{l:List Tok}{a:Nat}{u r:List Wrd}(h:rst l a=u++r):rst l (a+u.length)=r:=by
 unfold rst at h ⊢;rw[←List.drop_drop,h,List.drop_left' rfl]
theorem ajr{l:List Tok}{a:Nat}{u:List Wrd}(h:rst l a=u)(h0:u≠[]):a+u.length=l.length:=by
 have h1:(rst l a).length=l.length - a:=by unfold rst;rw[List.length_drop,zq5]
 rw[h]at h1;have:u.length≠0:=by simpa using h0
 omega
def aev(r:List Wrd):Prop:=∀s∈([[91],[94],[42],[47],[43],[45],[61,61],[33,61],[60],[60,61],[40]]:List (List UInt8)),hS r s=false
theorem ru{s:List UInt8}(h:s∉([[91],[94],[42],[47],[43],[45],[61,61],[33,61],[60],[60,61],[40]]:List (List UInt8)))(r:List Wrd):aev (sg s::r):=fun x hx=>by
 show (!decide ((3:Int)=1)&&decide (s=x))=false;have:s≠x:=fun e=>h (e▸hx)
 simp[this]
theorem aor{k:Nd}{ks:List Nd}(h:k∈ks):dep k≤jS ks:=by
 induction ks with
 |nil=>cases h
 |cons x ks ih=>
  rw[jK];rcases List.mem_cons.1 h with rfl|h
  ·omega
  ·have:=ih h;omega
section
inductive EC:Nd→Prop
 |num (t:List UInt8) (h:tx 1 t=true):EC (.mk 1 t [])
 |nam (t:List UInt8) (h:tx 2 t=true):EC (.mk 2 t [])
 |call (t:List UInt8) (ks:List Nd) (h:tx 2 t=true) (hk:∀k∈ks,okE k=true):EC (.mk 13 t ks)
 |mat (ks:List Nd) (h0:ks≠[]) (hk:∀x∈ks,okR x=true):EC (.mk 14 [] ks)
 |list (ks:List Nd) (hk:∀k∈ks,okE k=true):EC (.mk 16 [] ks)
 |item (k k1:Nd) (h:okE k=true) (h1:okE k1=true):EC (.mk 17 [] [k,k1])
 |item2 (k k1 k2:Nd) (h:okE k=true) (h1:okE k1=true) (h2:okE k2=true):EC (.mk 17 [] [k,k1,k2])
 |minus (k:Nd) (h:okE k=true):EC (.mk 3 [] [k])
 |op (o:Int) (k k2:Nd) (ho:4≤o∧o≤12) (h:okE k=true) (h2:okE k2=true):EC (.mk o [] [k,k2])
theorem yQ{k:Nd}{o:Int}{t:List UInt8}{ks:List Nd}(h:k∈ks):dep k+1≤dep (.mk o t ks):=by
 have:=aor h;rw[dep];cases ks with
 |nil=>cases h
 |cons=>rw[if_neg (by simp)];omega
theorem ak2{t:List UInt8}(h:tx 2 t=true):∃c m,t=c::m∧97≤c.toNat∧c.toNat≤122:=by
 unfold tx at h;rw[Bool.and_eq_true,afk]at h;obtain⟨_,c,m,h1,h2⟩:=abQ (show nam t=true from h.1)
 exact⟨c,m,h1,(srt3 c).1 h2⟩
theorem asy{t:List UInt8}(h:tx 2 t=true){c:UInt8}{m:List UInt8}(hc:¬(97≤c.toNat∧c.toNat≤122)):t≠c::m:=by
 obtain⟨c',m',rfl,h1⟩:=ak2 h;intro e;cases e;exact hc h1
theorem aox{k:Int}{t:List UInt8}(h:tx k t=true):ownB t=false:=by
 unfold tx at h;rw[Bool.and_eq_true]at h;simpa using h.2
theorem ahw{t:List UInt8}(h:tx 2 t=true)(r:List Wrd):hN ((2,t)::r)=true:=by
 show (decide ((2:Int)=2)&&!ownB t)=true;rw[aox h];rfl
section
variable{K:Nat}{l:List Tok}{X U:Gr}{a o a':Nat}{n:Nd}
theorem acS{k:Gr}(h:o+1≤K)(hk:k a (o+1)= .ok n a'):ins K k a o= .ok n a':=by
 unfold ins;rw[if_neg (by omega),hk]
theorem aqh(h:oZ K l X a o= .ok n a')(h1:hS (rst l a') [91]=false):pE K l X a o= .ok n a':=by
 unfold pE;rw[h];show su K l X (l.length+1) n a' o=_;unfold su;rw[bL,h1];rfl
theorem att(h:pE K l X a o= .ok n a')(h1:hS (rst l a') [94]=false):abt K l X U a o= .ok n a':=by
 unfold abt;rw[h];show (if isS l a' [94]then _ else _)=_
 rw[bL,h1];rfl
theorem un_of(h:abt K l X U a o= .ok n a')(h1:hS (rst l a) [45]=false):unG K l X U a o= .ok n a':=by
 unfold unG;rw[bL,h1,if_neg (by decide)];exact h
theorem aak{S:Gr}{s1 s2:List UInt8}{x y:Nat}(h:S a o= .ok n a')(h1:hS (rst l a') s1=false)(h2:hS (rst l a') s2=false):ab3 l S s1 x s2 y a o= .ok n a':=by
 unfold ab3;rw[h];show jf l S s1 x s2 y (l.length+1) n a' o=_;unfold jf;rw[bL,h1,bL,h2];rfl
theorem ap6{S:Gr}{s1 s2:List UInt8}{x y:Nat}{m:Nd}{a2:Nat}(h:S a o= .ok n a')(h0:hS (rst l a') s1=false)(h1:hS (rst l a') s2=true)(h2:S (a'+1) o= .ok m a2)(h3:hS (rst l a2) s1=false)(h4:hS (rst l a2) s2=false):ab3 l S s1 x s2 y a o= .ok (.mk y [] [n,m]) a2:=by
 have hlt:=bI (l:=l) (a:=a') (s:=s2) (by rw[bL,h1])
 unfold ab3;rw[h];show jf l S s1 x s2 y (l.length+1) n a' o=_;unfold jf;rw[bL,h0,if_neg (by decide),bL,h1,if_pos rfl,h2]
 show jf l S s1 x s2 y l.length _ a2 o=_;obtain⟨k,hk⟩:∃k,l.length=k+1:=⟨l.length - 1,by omega⟩
 rw[hk];unfold jf;rw[bL,h3,bL,h4];rfl
theorem agN(h:nO l U a o= .ok n a')(h1:hS (rst l a') [61,61]=false)(h2:hS (rst l a') [33,61]=false)(h3:hS (rst l a') [60]=false)(h4:hS (rst l a') [60,61]=false):abu l U a o= .ok n a':=by
 unfold abu;rw[h];show (if isS l a' [61,61]then _ else if isS l a' [33,61]then _ else if isS l a' [60]then _ else if isS l a' [60,61]then _ else _)=_
 rw[bL,h1,bL,h2,bL,h3,bL,h4];rfl
theorem ng{w:Wrd}{r:List Wrd}(h:rst l a=w::r):oZ K l X a o=if w.1=1 then .ok (.mk 1 w.2 []) (a+1)
  else if hN (w::r)then(if hS r [40]then ins K (fun a o=>gW (fun n=> .mk 13 w.2 n.kids) (jm l X [41] a o)) (a+2) o else .ok (.mk 2 w.2 []) (a+1))
  else if hS (w::r) [40]then ins K (fun a o=>thenS l (X a o) o [41]) (a+1) o
  else if hS (w::r) [91]then ins K (fun a o=>qc l X (l.length+1) [] [] a o) (a+1) o
  else if hS (w::r) [123]then ins K (fun a o=>gW (fun n=> .mk 16 [] n.kids) (jm l X [125] a o)) (a+1) o
  else .bad 4 a nd0 a o:=by
 obtain⟨t,h1,h2,h3⟩:=afS h;unfold oZ;rw[h1];show (if t.kind=1 then _ else _)=_
 rw[zW,bL,bL,bL,bL,h,lV h,h2,h3]
theorem afZ(h:oZ K l X a o= .ok n a')(h0:hS (rst l a) [45]=false)(h1:hS (rst l a') [91]=false)(h2:hS (rst l a') [94]=false):unG K l X U a o= .ok n a':=un_of (att (aqh h h1) h2) h0
end
end
end
end Go.Proofs.YtegehclknhmkgaaGreatDoor