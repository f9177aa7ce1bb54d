import Derived.Test.YtegehclknhmkgaaGreatDoorA18
set_option linter.unusedVariables false
set_option linter.unusedSimpArgs false
namespace Go.Proofs.YtegehclknhmkgaaGreatDoor
open Go.RowKit SX
section
theorem rH(n:Nd)(x:Int)(t:List UInt8):cnt (.mk x t n.kids)=cnt n:=by
 cases n;rw[eF,eF];rfl
theorem kP{s c k:Nat}{l:List Tok}{a o e p:Nat}{n:Nd}{a':Nat}(hk:1≤k):kL s c k l a o (.bad e p n a' o):=⟨Nat.le_refl _,by omega⟩
theorem adP{l:List Tok}{m:Nat}{X:Gr}{e:List UInt8}(h:Adv 1 l m X):∀(f:Nat) (ks:List Nd) (a o:Nat),m≤a→a≤l.length→kL (ig ks) 0 1 l a o (oN l X e f ks a o)
 |0,ks,a,o,hm,ha=>kP (Nat.le_refl _)
 |f+1,ks,a,o,hm,ha=>by
  have h1:=h a o hm ha;unfold oN;cases hr:X a o with
  |bad c p n a' o'=>rw[hr]at h1;exact h1
  |ok n a'=>
   rw[hr]at h1;obtain⟨h1,h3,h2⟩:=h1
   dsimp only
   split
   ·rename_i hs;have:=bf hs;exact⟨by rw[eF,dR,aS,bD];omega,by omega,by omega⟩
   ·split
    ·rename_i hs;have:=bf hs;refine(adP h f (ks++[n]) (a'+1) o (by omega) (by omega)).mono (Nat.le_refl _) (by omega) ?_
     rw[dR,aS,bD];omega
    ·exact kP (Nat.le_refl _)
theorem pO{l:List Tok}{m:Nat}{X:Gr}{e:List UInt8}(h:Adv 1 l m X){a o:Nat}(hm:m≤a)(ha:a≤l.length):kL 0 0 1 l a o (jh l X e a o):=by
 unfold jh
 split
 ·rename_i hs;have:=bf hs;exact⟨by rw[eF,bD];omega,by omega,by omega⟩
 ·have:=adP (e:=e) h (l.length+1) [] a o hm ha
  rwa [bD]at this
theorem wT{l:List Tok}{m:Nat}{X:Gr}(h:Adv 1 l m X):∀(f:Nat) (rs r:List Nd) (a o:Nat),m≤a→a≤l.length→kL (ig rs+ig r+1) 0 1 l a o (oH l X f rs r a o)
 |0,rs,r,a,o,hm,ha=>kP (Nat.le_refl _)
 |f+1,rs,r,a,o,hm,ha=>by
  have h1:=h a o hm ha;unfold oH;cases hr:X a o with
  |bad c p n a' o'=>rw[hr]at h1;exact h1
  |ok n a'=>
   rw[hr]at h1;obtain⟨h1,h3,h2⟩:=h1
   dsimp only
   split
   ·rename_i hs;have:=bf hs;refine(wT h f rs (r++[n]) (a'+1) o (by omega) (by omega)).mono (Nat.le_refl _) (by omega) ?_
    rw[dR,aS,bD];omega
   ·split
    ·rename_i hs;have:=bf hs;have hh:=wT h f (rs++[.mk 15 [] (r++[n])]) [] (a'+1) o (by omega) (by omega)
     refine hh.mono (Nat.le_refl _) (by omega) ?_
     rw[dR,aS,bD,eF,dR,aS,bD];omega
    ·split
     ·rename_i hs;have:=bf hs;exact⟨by rw[eF,dR,aS,bD,eF,dR,aS,bD];omega,by omega,by omega⟩
     ·exact kP (Nat.le_refl _)
theorem acZ{K:Nat}{l:List Tok}{m:Nat}{X:Gr}(h:Adv 1 l (m+1) X):Adv 1 l m (lU K l X):=by
 intro a o hm ha;unfold lU;cases ht:l[a]? with
 |none=>exact kP (Nat.le_refl _)
 |some t=>
  have hlt:a < l.length:=(List.getElem?_eq_some_iff.1 ht).1
  dsimp only
  split
  ·exact⟨by rw[eF,bD];omega,by omega,by omega⟩
  ·split
   ·split
    ·rename_i hs;have:=bf hs;refine(lV (Nat.le_refl _) (iw (c':=0) (s':=0) (pO h (by omega) (by omega)) (fun n=>by rw[rH];omega))).mono (Nat.le_refl _) (by omega) (by omega)
    ·exact⟨by rw[eF,bD];omega,by omega,by omega⟩
   ·split
    ·refine(lV (Nat.le_refl _) (mO (h _ _ (by omega) (by omega)))).mono (Nat.le_refl _) (by omega) (by omega)
    ·split
     ·refine(lV (Nat.le_refl _) (wT h _ _ _ _ _ (by omega) (by omega))).mono (Nat.le_refl _) (by omega) (by simp only[bD];omega)
     ·split
      ·refine(lV (Nat.le_refl _) (iw (c':=0) (s':=0) (pO h (by omega) (by omega)) (fun n=>by rw[rH];omega))).mono (Nat.le_refl _) (by omega) (by omega)
      ·exact kP (Nat.le_refl _)
theorem xO{l:List Tok}{m:Nat}{X:Gr}{n:Nd}(h:Adv 1 l m X){a o:Nat}(hm:m≤a)(ha:a≤l.length):kL (cnt n) 0 1 l a o (qw l X n a o):=by
 have h1:=h a o hm ha;unfold qw;cases hr:X a o with
 |bad c p m a' o'=>rw[hr]at h1;exact h1
 |ok n1 a'=>
  rw[hr]at h1;obtain⟨h1,h3,h2⟩:=h1
  dsimp only
  split
  ·rename_i hs;have:=bf hs;exact(mO (iw (c':=0) (s':=1+cnt n+cnt n1) (h (a'+1) o (by omega) (by omega)) (fun n2=>by rw[eF,aS,aS,aS,bD];omega))).mono (Nat.le_refl _) (by omega) (by omega)
  ·exact(mO (k:=1) (s:=1+cnt n+cnt n1) (c:=0) (show kL _ _ _ l a' o (.ok _ a')from ⟨by rw[eF,aS,aS,bD];omega,Nat.le_refl _,h2⟩)).mono (Nat.le_refl _) (by omega) (by omega)
theorem acE{K:Nat}{l:List Tok}{m:Nat}{X:Gr}(h:Adv 1 l (m+1) X):∀(f:Nat) (n:Nd) (a o:Nat),m≤a→a≤l.length→kL (cnt n) 0 1 l a o (qp K l X f n a o)
 |0,n,a,o,hm,ha=>kP (Nat.le_refl _)
 |f+1,n,a,o,hm,ha=>by
  unfold qp
  split
  ·rename_i hs;have:=bf hs;have h1:=lV (K:=K) (g:=qw l X n) (a:=a+1) (o:=o) (Nat.le_refl _) (xO (n:=n) (o:=o+1) h (by omega) (by omega))
   cases hr:ins K (qw l X n) (a+1) o with
   |bad e p n' a' o'=>rw[hr]at h1;exact h1
   |ok n' a'=>
    rw[hr]at h1;obtain⟨h1,h3,h2⟩:=h1;exact(acE h f n' a' o (by omega) h2).mono (Nat.le_refl _) (by omega) (by omega)
  ·exact⟨by omega,by omega,ha⟩
theorem aaT{K:Nat}{l:List Tok}{m:Nat}{X:Gr}(h:Adv 1 l (m+1) X):Adv 1 l m (nV K l X):=by
 intro a o hm ha;have h1:=acZ (K:=K) h a o hm ha;unfold nV;cases hr:lU K l X a o with
 |bad e p n a' o'=>rw[hr]at h1;exact h1
 |ok n a'=>
  rw[hr]at h1;obtain⟨h1,h3,h2⟩:=h1;exact(acE h _ n a' o (by omega) h2).mono (Nat.le_refl _) (by omega) (by omega)
theorem amR{K:Nat}{l:List Tok}{m:Nat}{X U:Gr}(h:Adv 1 l (m+1) X)(hu:Adv 1 l (m+1) U):Adv 1 l m (zW K l X U):=by
 intro a o hm ha;have h1:=aaT (K:=K) h a o hm ha;unfold zW;cases hr:nV K l X a o with
 |bad e p n a' o'=>rw[hr]at h1;exact h1
 |ok n a'=>
  rw[hr]at h1;obtain⟨h1,h3,h2⟩:=h1;have:=kT n
  dsimp only
  split
  ·rename_i hs;have:=bf hs;exact(iw (c':=0) (s':=1+cnt n) (hu (a'+1) o (by omega) (by omega)) (fun k=>by rw[eF,aS,aS,bD];omega)).mono (Nat.le_refl _) (by omega) (by omega)
  ·exact⟨h1,h3,h2⟩
theorem ajb{K:Nat}{l:List Tok}{m:Nat}{X U:Gr}(h:Adv 1 l (m+1) X)(hu:Adv 1 l (m+1) U):Adv 1 l m (unG K l X U):=by
 intro a o hm ha;unfold unG
 split
 ·rename_i hs;have:=bf hs;exact(lV (Nat.le_refl _) (iw (c':=0) (s':=1) (hu (a+1) (o+1) (by omega) (by omega)) (fun k=>by rw[eF,aS,bD];omega))).mono (Nat.le_refl _) (by omega) (by omega)
 ·exact amR h hu a o hm ha
theorem uU{l:List Tok}{m:Nat}{S:Gr}{s1 s2:List UInt8}{x y:Nat}(h:Adv 1 l m S):∀(f:Nat) (n:Nd) (a o:Nat),m≤a→a≤l.length→kL (cnt n) 0 1 l a o (gB l S s1 x s2 y f n a o)
 |0,n,a,o,hm,ha=>kP (Nat.le_refl _)
 |f+1,n,a,o,hm,ha=>by
  unfold gB
  split
  ·rename_i hs;have:=bf hs;have h1:=h (a+1) o (by omega) (by omega)
   cases hr:S (a+1) o with
   |bad e p n' a' o'=>rw[hr]at h1;exact h1
   |ok n' a'=>
    rw[hr]at h1;obtain⟨h1,h3,h2⟩:=h1;exact(uU h f _ a' o (by omega) h2).mono (Nat.le_refl _) (by omega) (by rw[eF,aS,aS,bD];omega)
  ·split
   ·rename_i hs;have:=bf hs;have h1:=h (a+1) o (by omega) (by omega)
    cases hr:S (a+1) o with
    |bad e p n' a' o'=>rw[hr]at h1;exact h1
    |ok n' a'=>
     rw[hr]at h1;obtain⟨h1,h3,h2⟩:=h1;exact(uU h f _ a' o (by omega) h2).mono (Nat.le_refl _) (by omega) (by rw[eF,aS,aS,bD];omega)
   ·exact⟨by omega,by omega,ha⟩
theorem zL{l:List Tok}{m:Nat}{S:Gr}{s1 s2:List UInt8}{x y:Nat}(h:Adv 1 l m S):Adv 1 l m (wE l S s1 x s2 y):=by
 intro a o hm ha;have h1:=h a o hm ha;unfold wE;cases hr:S a o with
 |bad e p n a' o'=>rw[hr]at h1;exact h1
 |ok n a'=>
  rw[hr]at h1;obtain⟨h1,h3,h2⟩:=h1;exact(uU h _ n a' o (by omega) h2).mono (Nat.le_refl _) (by omega) (by omega)
theorem abN{l:List Tok}{m:Nat}{U:Gr}(h:Adv 1 l m U):Adv 1 l m (mI l U):=zL (zL h)
theorem an6{l:List Tok}{m:Nat}{U:Gr}(h:Adv 1 l m U):Adv 1 l m (wB l U):=by
 intro a o hm ha;have h1:=abN h a o hm ha;unfold wB;cases hr:mI l U a o with
 |bad e p n a' o'=>rw[hr]at h1;exact h1
 |ok n a'=>
  rw[hr]at h1;obtain⟨h1,h3,h2⟩:=h1;have key:∀(x:Int),a' < l.length→kL 0 0 1 l a o (gV (fun m=> .mk x [] [n,m]) (mI l U (a'+1) o)):=fun x hx=>
   (iw (c':=0) (s':=1+cnt n) (abN h (a'+1) o (by omega) (by omega)) (fun k=>by rw[eF,aS,aS,bD];omega)).mono (Nat.le_refl _) (by omega) (by omega)
  dsimp only
  split
  ·rename_i hs;exact key 9 (bf hs)
  ·split
   ·rename_i hs;exact key 10 (bf hs)
   ·split
    ·rename_i hs;exact key 11 (bf hs)
    ·split
     ·rename_i hs;exact key 12 (bf hs)
     ·exact⟨h1,h3,h2⟩
theorem wU(K:Nat)(l:List Tok):∀(n m:Nat),l.length+1≤m+n→Adv 1 l m (lev K l n).1∧Adv 1 l m (lev K l n).2
 |0,m,h=>⟨fun a o hm ha=>by omega,fun a o hm ha=>by omega⟩
 |n+1,m,h=>by
  obtain⟨h1,h2⟩:=wU K l n (m+1) (by omega)
  have h3:=ajb (K:=K) h1 h2;exact⟨an6 h3,h3⟩
end
section
attribute [local irreducible] IntKind.wrap Go1 Reg WP aN aQ bM bI aL aC aj ah aT Sat
theorem g_pow{l:List Tok}{m:Nat}{X U:Gr}(hl:l.length≤1000000)(hp:GOK 350 l m (nV 600 l X))(ap:Adv 1 l m (nV 600 l X))(hu:GOK 234 l (m+1) U):GOK 262 l m (zW 600 l X U):=by
 intro a o hm ha ho;have h1:=hp a o hm ha ho;have h2:=ap a o hm ha;unfold zW;cases hr:nV 600 l X a o with
 |bad e p n a' o'=>
  rw[hr]at h1;have c1:=h1.bad;have c2:=dx l a' o' e p [94];show ah _ _ _ _ _;refine ah.fnF Tryz.func262 Tryz.results262 Tryz.ntmps262 rfl rfl rfl rfl (fun w0 T B E0 hB=>?_)
  refine SX.goM ?_
  try(refine SX.WP.aB ?_;refine SX.goM ?_)
  exact aK (aj.aX rfl rfl rfl) (AV0.imp.refl _) ⟨rfl,trivial⟩
 |ok n a'=>
  rw[hr]at h1 h2;have c1:=h1.ok;obtain⟨g1,g2,g3⟩:=h2;have g4:=kT n;cases ht:isS l a' [94]with
  |false=>
   have c2:=dG o ht;simp only[Bool.false_eq_true,if_false,ht];show ah _ _ _ _ _;refine ah.fnF Tryz.func262 Tryz.results262 Tryz.ntmps262 rfl rfl rfl rfl (fun w0 T B E0 hB=>?_)
   refine SX.goM ?_
   try(refine SX.WP.aB ?_;refine SX.goM ?_)
   exact aK (aj.aX rfl rfl rfl) (AV0.imp.refl _) ⟨rfl,trivial⟩
  |true=>
   have c2:=dP o hl ht;have g3:=bf ht;have h3:=hu (a'+1) o (by omega) (by omega) ho
   simp only[if_true,ht];cases hr2:U (a'+1) o with
   |bad e p n2 a2 o2=>
    rw[hr2]at h3;have c3:=h3.bad;show ah _ _ _ _ _;refine ah.fnF Tryz.func262 Tryz.results262 Tryz.ntmps262 rfl rfl rfl rfl (fun w0 T B E0 hB=>?_)
    refine SX.goM ?_
    try(refine SX.WP.aB ?_;refine SX.goM ?_)
    exact aK (aj.aX rfl rfl rfl) (aY rfl rfl rfl (by first|(simp only[List.flatMap_cons,List.flatMap_nil,aD,List.append_nil];done)|(simp only[List.flatMap_cons,List.flatMap_nil,aD,List.append_nil];rfl))) ⟨rfl,trivial⟩
   |ok n2 a2=>
    rw[hr2]at h3;have c3:=h3.ok;show ah _ _ _ _ _;refine ah.fnF Tryz.func262 Tryz.results262 Tryz.ntmps262 rfl rfl rfl rfl (fun w0 T B E0 hB=>?_)
    refine SX.goM ?_
    try(refine SX.WP.aB ?_;refine SX.goM ?_)
    exact aK (aj.aX rfl rfl rfl) (aY rfl rfl rfl (by first|(simp only[List.flatMap_cons,List.flatMap_nil,aD,List.append_nil];done)|(simp only[List.flatMap_cons,List.flatMap_nil,aD,List.append_nil];rfl))) ⟨rfl,trivial⟩
theorem ape{l:List Tok}(hp:GE 350 l):GE 262 l:=by
 intro a o e p;have c1:=hp a o e p;have c2:=dx l a o e p [94];refine ah.fnF Tryz.func262 Tryz.results262 Tryz.ntmps262 rfl rfl rfl rfl (fun w0 T B E0 hB=>?_)
 refine SX.goM ?_
 try(refine SX.WP.aB ?_;refine SX.goM ?_)
 exact aK (aj.aX rfl rfl rfl) (AV0.imp.refl _) ⟨rfl,trivial⟩
theorem g_un1{l:List Tok}{m:Nat}{U:Gr}(hu:GOK 234 l m U){a o:Nat}(hm:m≤a)(ha:a≤l.length)(ho:o≤600):CR rNd 263 [.ptr 81 0] [(81,PP)] l a o (gV (fun m=> .mk 3 [] [m]) (U a o)):=by
 have h3:=hu a o hm ha ho;cases hr2:U a o with
 |bad e p n2 a2 o2=>
  rw[hr2]at h3;have c3:=h3.bad;show ah _ _ _ _ _;refine ah.fnF Tryz.func263 Tryz.results263 Tryz.ntmps263 rfl rfl rfl rfl (fun w0 T B E0 hB=>?_)
  refine SX.goM ?_
  try(refine SX.WP.aB ?_;refine SX.goM ?_)
  exact aK (aj.aX rfl rfl rfl) (aY rfl rfl rfl (by first|(simp only[List.flatMap_cons,List.flatMap_nil,aD,List.append_nil];done)|(simp only[List.flatMap_cons,List.flatMap_nil,aD,List.append_nil];rfl))) ⟨rfl,rfl,trivial⟩
 |ok n2 a2=>
  rw[hr2]at h3;have c3:=h3.ok;show ah _ _ _ _ _;refine ah.fnF Tryz.func263 Tryz.results263 Tryz.ntmps263 rfl rfl rfl rfl (fun w0 T B E0 hB=>?_)
  refine SX.goM ?_
  try(refine SX.WP.aB ?_;refine SX.goM ?_)
  exact aK (aj.aX rfl rfl rfl) (aY rfl rfl rfl (by first|(simp only[List.flatMap_cons,List.flatMap_nil,aD,List.append_nil];done)|(simp only[List.flatMap_cons,List.flatMap_nil,aD,List.append_nil];rfl))) ⟨rfl,rfl,trivial⟩
theorem g_un{l:List Tok}{m:Nat}{X U:Gr}(hl:l.length≤1000000)(hp:GOK 262 l m (zW 600 l X U))(hu:GOK 234 l (m+1) U)(au:Adv 1 l (m+1) U):GOK 234 l m (unG 600 l X U):=by
 intro a o hm ha ho;have nm:Named 1 81:=⟨⟩;unfold unG;cases ht:isS l a [45]with
 |false=>
  simp only[Bool.false_eq_true,if_false];have c1:=dG o ht;have h1:=hp a o hm ha ho;cases hr:zW 600 l X U a o with
  |bad e p n a' o'=>
   rw[hr]at h1;have c2:=h1.bad;show ah _ _ _ _ _;refine ah.fnF Tryz.func234 Tryz.results234 Tryz.ntmps234 rfl rfl rfl rfl (fun w0 T B E0 hB=>?_)
   refine SX.goM ?_
   try(refine SX.WP.aB ?_;refine SX.goM ?_)
   exact aK (aj.aX rfl rfl rfl) (AV0.imp.refl _) ⟨rfl,trivial⟩
  |ok n a'=>
   rw[hr]at h1;have c2:=h1.ok;show ah _ _ _ _ _;refine ah.fnF Tryz.func234 Tryz.results234 Tryz.ntmps234 rfl rfl rfl rfl (fun w0 T B E0 hB=>?_)
   refine SX.goM ?_
   try(refine SX.WP.aB ?_;refine SX.goM ?_)
   exact aK (aj.aX rfl rfl rfl) (AV0.imp.refl _) ⟨rfl,trivial⟩
 |true=>
  simp only[if_true];have c1:=dP o hl ht;have g3:=bf ht;have h1:=abB (f:=263) (l:=l) (a:=a+1) (o:=o) (k:=fun a o=>gV (fun m=> .mk 3 [] [m]) (U a o)) ho (fun h=>⟨g_un1 hu (by omega) (by omega) (by omega),(iw (c':=0) (s':=1) (au (a+1) (o+1) (by omega) (by omega)) (fun k=>by rw[eF,aS,bD];omega)).open.mono (by omega)⟩)
  cases hr:ins 600 (fun a o=>gV (fun m=> .mk 3 [] [m]) (U a o)) (a+1) o with
  |bad e p n a' o'=>
   rw[hr]at h1;have c2:=h1.bad;show ah _ _ _ _ _;refine ah.fnF Tryz.func234 Tryz.results234 Tryz.ntmps234 rfl rfl rfl rfl (fun w0 T B E0 hB=>?_)
   refine SX.goM ?_
   try(refine SX.WP.aB ?_;refine SX.goM ?_)
   exact aK (aj.aX rfl rfl rfl) (AV0.imp.refl _) ⟨rfl,trivial⟩
  |ok n a'=>
   rw[hr]at h1;have c2:=h1.ok;show ah _ _ _ _ _;refine ah.fnF Tryz.func234 Tryz.results234 Tryz.ntmps234 rfl rfl rfl rfl (fun w0 T B E0 hB=>?_)
   refine SX.goM ?_
   try(refine SX.WP.aB ?_;refine SX.goM ?_)
   exact aK (aj.aX rfl rfl rfl) (AV0.imp.refl _) ⟨rfl,trivial⟩
theorem ge_un{l:List Tok}(hp:GE 262 l):GE 234 l:=by
 intro a o e p;have c1:=hp a o e p;have c2:=dx l a o e p [45];refine ah.fnF Tryz.func234 Tryz.results234 Tryz.ntmps234 rfl rfl rfl rfl (fun w0 T B E0 hB=>?_)
 refine SX.goM ?_
 try(refine SX.WP.aB ?_;refine SX.goM ?_)
 exact aK (aj.aX rfl rfl rfl) (AV0.imp.refl _) ⟨rfl,trivial⟩
def bE:Option (Nat×Nat)→Nat
 |none=>0
 |some (e,_)=>e
def bP:Option (Nat×Nat)→Nat
 |none=>0
 |some (_,p)=>p
def bH:Option (Nat×Nat)→Bool
 |none=>false
 |some _=>true
abbrev PS(l:List Tok)(a o:Nat)(b:Option (Nat×Nat)):Ent:=PB l a o (bE b) (bH b) (bP b)
structure ChS where
 n:Nd
 a:Nat
 o:Nat
 b:Option (Nat×Nat)
 f:Nat
def chS(l:List Tok)(S:Gr)(s1:List UInt8)(x:Nat)(s2:List UInt8)(y:Nat)(q:ChS):Res:=match q.b with
 |none=>gB l S s1 x s2 y q.f q.n q.a q.o
 |some (e,p)=> .bad e p q.n q.a q.o
abbrev NZ:Ent:= .box 86 [.c (.val (.int .i64 0)),.c (.val (.string ByteArray.empty)),.c (.val (.slice none 0 0))]
def chI(f:FuncId)(s1:List UInt8)(x:Nat)(s2:List UInt8)(y:Nat):List (Nat×AV):=[(0,.ptr 29 0),(1,bnA f),(2,.v (str s1)),(3,.v (.int .i64 (x:Int))),(4,.v (str s2)),(5,.v (.int .i64 (y:Int))),(12,.ptr 12 0),(13,.ptr 13 0)]
def Res.nd:Res→Nd
 | .ok n _=>n
 | .bad _ _ n _ _=>n
def Res.pl:Res→Nat
 | .ok _ a=>a
 | .bad _ _ _ a _=>a
def Res.op(o:Nat):Res→Nat
 | .ok _ _=>o
 | .bad _ _ _ _ o'=>o'
def Res.er:Res→Option (Nat×Nat)
 | .ok _ _=>none
 | .bad e p _ _ _=>some (e,p)
theorem CR.of{res:Nd→AV}{f:FuncId}{args:List AV}{ex:List (Nat×Ent)}{l:List Tok}{a o:Nat}{r:Res}(h:ah Tryz.prog f args ((29,PG l a o)::ex) ⟨res r.nd,(29,.ent (PS l r.pl (r.op o) r.er))::ex.map fun p=>(p.1,.ent p.2)⟩):CR res f args ex l a o r:=by
 cases r <;> exact h
abbrev caN(n:Nd):List CA:=[.val (.int .i64 (n.op:Int)),.val (str n.text),.sat (aF 3 ndC n.kids)]
theorem ab1(x:Nat)(n k:Nd):Ent.box 86 [.c (.val (.int .i64 (x:Int))),.c (.val (.string ByteArray.empty)),.c (.sat (aM 3 2 (caN n++caN k)))]=NB (.mk x [] [n,k]):=by
 show _=Ent.box _ [_,_,.c (.sat (aM 3 2 ([n,k].flatMap ndC)))];rw[show [n,k].flatMap ndC=caN n++caN k by simp only[List.flatMap_cons,List.flatMap_nil,aD,List.append_nil]]
 rfl
theorem agw{f:FuncId}{l:List Tok}{m:Nat}{S:Gr}{s1 s2:List UInt8}{x y:Nat}(hl:l.length≤1000000)(hs:GOK f l m S)(hA:Adv 1 l m S){a o:Nat}(hm:m≤a)(ha:a≤l.length)(ho:o≤600):
  CR rNd 216 [.ptr 29 0,bnA f,.v (str s1),.v (.int .i64 (x:Int)),.v (str s2),.v (.int .i64 (y:Int))] [] l a o (wE l S s1 x s2 y a o):=by
 have h1:=hs a o hm ha ho;have h2:=hA a o hm ha;unfold wE;cases hr:S a o with
 |bad e p n a' o'=>
  rw[hr]at h1;have c1:=h1.bad;have c2:=dx l a' o' e p s1;have c3:=dx l a' o' e p s2;show ah _ _ _ _ _;refine ah.fnF Tryz.func216 Tryz.results216 Tryz.ntmps216 rfl rfl rfl rfl (fun w0 T B E0 hB=>?_)
  refine SX.goM ?_
  try(refine SX.WP.aB ?_;refine SX.goM ?_)
  refine W.loop (fun _:Unit=>True) (fun _=>chI f s1 x s2 y) (fun _=>[(29,PE l a' o' e p),(12,NZ),(13,NB n)]) (fun _=>0) () trivial (fun _ _=>?_)
  refine SX.goM ?_
  try(refine SX.WP.aB ?_;refine SX.goM ?_)
  exact aK (aj.aX rfl rfl rfl) (AV0.imp.refl _) ⟨rfl,trivial⟩
 |ok n a'=>
  rw[hr]at h1 h2;have c1:=h1.ok;obtain⟨g1,g2,g3⟩:=h2;have g4:=kT n
  dsimp only
  generalize hR:gB l S s1 x s2 y (l.length+1) n a' o=R;refine CR.of ?_;refine ah.fnF Tryz.func216 Tryz.results216 Tryz.ntmps216 rfl rfl rfl rfl (fun w0 T B E0 hB=>?_)
  refine SX.goM ?_
  try(refine SX.WP.aB ?_;refine SX.goM ?_)
  refine W.loop (fun q:ChS=>chS l S s1 x s2 y q=R∧(q.b=none→q.o=o∧m≤q.a∧q.a≤l.length∧l.length < q.a+q.f)) (fun _=>chI f s1 x s2 y) (fun q=>[(29,PS l q.a q.o q.b),(12,NZ),(13,NB q.n)]) (fun q=>match q.b with|none=>l.length+1 - q.a|some _=>0) ⟨n,a',o,none,l.length+1⟩ ⟨hR,fun _=>by dsimp only;exact⟨rfl,by omega,by omega,by omega⟩⟩ (fun q hq=>?_)
  obtain⟨qn,qa,qo,qb,qf⟩:=q;obtain⟨hq1,hq2⟩:=hq
  dsimp only at hq1 hq2
  cases qb with
  |some b=>
   obtain⟨e,p⟩:=b;have c2:=dx l qa qo e p s1;have c3:=dx l qa qo e p s2;refine SX.goM ?_
   try(refine SX.WP.aB ?_;refine SX.goM ?_)
   subst hq1;exact aK (aj.aX rfl rfl rfl) (AV0.imp.refl _) ⟨rfl,trivial⟩
  |none=>
   obtain⟨rfl,b1,b2,b3⟩:=hq2 rfl;obtain⟨qf,rfl⟩:∃k,qf=k+1:=⟨qf - 1,by omega⟩
   have hq1:gB l S s1 x s2 y (qf+1) qn qa qo=R:=hq1;unfold gB at hq1;cases ht:isS l qa s1 with
   |true=>
    have c2:=dP qo hl ht;have g5:=bf ht;have h3:=hs (qa+1) qo (by omega) (by omega) ho
    have h4:=hA (qa+1) qo (by omega) (by omega)
    rw[if_pos ht]at hq1;cases hr2:S (qa+1) qo with
    |bad e p k a2 o2=>
     rw[hr2]at h3 hq1;have c3:=h3.bad;refine SX.goM ?_
     try(refine SX.WP.aB ?_;refine SX.goM ?_)
     exact W.next ⟨.mk x [] [qn,k],a2,o2,some (e,p),0⟩ ⟨hq1,fun h=>by cases h⟩ (by dsimp only;omega) 
      (by
       apply SX.St.lt0
       ·intro b h;exact SX.dw h
       ·repeat(first|exact trivial|refine⟨⟨_,rfl,SX.aG.same rfl⟩,?_⟩)
       ·exact⟨SX.ak.eq rfl rfl rfl,SX.ak.same rfl rfl,SX.ak.eq rfl (ab1 _ _ _) rfl,trivial⟩
       ·rfl)
    |ok k a2=>
     rw[hr2]at h3 hq1 h4;have c3:=h3.ok;obtain⟨j1,j2,j3⟩:=h4;refine SX.goM ?_
     try(refine SX.WP.aB ?_;refine SX.goM ?_)
     exact W.next ⟨.mk x [] [qn,k],a2,qo,none,qf⟩ ⟨hq1,fun h=>by dsimp only;exact⟨rfl,by omega,by omega,by omega⟩⟩ (by dsimp only;omega)
      (by
       apply SX.St.lt0
       ·intro b h;exact SX.dw h
       ·repeat(first|exact trivial|refine⟨⟨_,rfl,SX.aG.same rfl⟩,?_⟩)
       ·exact⟨SX.ak.eq rfl rfl rfl,SX.ak.same rfl rfl,SX.ak.eq rfl (ab1 _ _ _) rfl,trivial⟩
       ·rfl)
   |false=>
    have c2:=dG qo ht;rw[if_neg (by rw[ht];decide)]at hq1
    cases ht2:isS l qa s2 with
    |true=>
     have c4:=dP qo hl ht2;have g5:=bf ht2;have h3:=hs (qa+1) qo (by omega) (by omega) ho
     have h4:=hA (qa+1) qo (by omega) (by omega)
     rw[if_pos ht2]at hq1;cases hr2:S (qa+1) qo with
     |bad e p k a2 o2=>
      rw[hr2]at h3 hq1;have c3:=h3.bad;refine SX.goM ?_
      try(refine SX.WP.aB ?_;refine SX.goM ?_)
      exact W.next ⟨.mk y [] [qn,k],a2,o2,some (e,p),0⟩ ⟨hq1,fun h=>by cases h⟩ (by dsimp only;omega)
       (by
        apply SX.St.lt0
        ·intro b h;exact SX.dw h
        ·repeat(first|exact trivial|refine⟨⟨_,rfl,SX.aG.same rfl⟩,?_⟩)
        ·exact⟨SX.ak.eq rfl rfl rfl,SX.ak.same rfl rfl,SX.ak.eq rfl (ab1 _ _ _) rfl,trivial⟩
        ·rfl)
     |ok k a2=>
      rw[hr2]at h3 hq1 h4;have c3:=h3.ok;obtain⟨j1,j2,j3⟩:=h4;refine SX.goM ?_
      try(refine SX.WP.aB ?_;refine SX.goM ?_)
      exact W.next ⟨.mk y [] [qn,k],a2,qo,none,qf⟩ ⟨hq1,fun h=>by dsimp only;exact⟨rfl,by omega,by omega,by omega⟩⟩ (by dsimp only;omega)
       (by
        apply SX.St.lt0
        ·intro b h;exact SX.dw h
        ·repeat(first|exact trivial|refine⟨⟨_,rfl,SX.aG.same rfl⟩,?_⟩)
        ·exact⟨SX.ak.eq rfl rfl rfl,SX.ak.same rfl rfl,SX.ak.eq rfl (ab1 _ _ _) rfl,trivial⟩
        ·rfl)
    |false=>
     have c4:=dG qo ht2;rw[if_neg (by rw[ht2];decide)]at hq1
     refine SX.goM ?_
     try(refine SX.WP.aB ?_;refine SX.goM ?_)
     subst hq1;exact aK (aj.aX rfl rfl rfl) (AV0.imp.refl _) ⟨rfl,trivial⟩
theorem adh{f:FuncId}{l:List Tok}{s1 s2:List UInt8}{x y:Nat}(hs:GE f l)(a o e p:Nat):
  ah Tryz.prog 216 [.ptr 29 0,bnA f,.v (str s1),.v (.int .i64 (x:Int)),.v (str s2),.v (.int .i64 (y:Int))] [(29,PE l a o e p)] ⟨rNd nd0,[(29,.ent (PE l a o e p))]⟩:=by
 have c1:=hs a o e p;have c2:=dx l a o e p s1;have c3:=dx l a o e p s2;refine ah.fnF Tryz.func216 Tryz.results216 Tryz.ntmps216 rfl rfl rfl rfl (fun w0 T B E0 hB=>?_)
 refine SX.goM ?_
 try(refine SX.WP.aB ?_;refine SX.goM ?_)
 refine W.loop (fun _:Unit=>True) (fun _=>chI f s1 x s2 y) (fun _=>[(29,PE l a o e p),(12,NZ),(13,NB nd0)]) (fun _=>0) () trivial (fun _ _=>?_)
 refine SX.goM ?_
 try(refine SX.WP.aB ?_;refine SX.goM ?_)
 exact aK (aj.aX rfl rfl rfl) (AV0.imp.refl _) ⟨rfl,trivial⟩
theorem ap8{l:List Tok}{m:Nat}{U:Gr}(hl:l.length≤1000000)(hs:GOK 234 l m U)(hA:Adv 1 l m U):GOK 217 l m (zM l U):=by
 intro a o hm ha ho;have h1:CR rNd 216 [.ptr 29 0,bnA 234,.v (str [42]),.v (.int .i64 6),.v (str [47]),.v (.int .i64 7)] [] l a o (zM l U a o):=agw hl hs hA hm ha ho;cases hr:zM l U a o with
 |bad e p n a' o'=>
  rw[hr]at h1;have c1:=h1.bad;show ah _ _ _ _ _;refine ah.fnF Tryz.func217 Tryz.results217 Tryz.ntmps217 rfl rfl rfl rfl (fun w0 T B E0 hB=>?_)
  refine SX.goM ?_
  try(refine SX.WP.aB ?_;refine SX.goM ?_)
  exact aK (aj.aX rfl rfl rfl) (AV0.imp.refl _) ⟨rfl,trivial⟩
 |ok n a'=>
  rw[hr]at h1;have c1:=h1.ok;show ah _ _ _ _ _;refine ah.fnF Tryz.func217 Tryz.results217 Tryz.ntmps217 rfl rfl rfl rfl (fun w0 T B E0 hB=>?_)
  refine SX.goM ?_
  try(refine SX.WP.aB ?_;refine SX.goM ?_)
  exact aK (aj.aX rfl rfl rfl) (AV0.imp.refl _) ⟨rfl,trivial⟩
theorem amy{l:List Tok}(hs:GE 234 l):GE 217 l:=by
 intro a o e p;have c1:ah Tryz.prog 216 [.ptr 29 0,bnA 234,.v (str [42]),.v (.int .i64 6),.v (str [47]),.v (.int .i64 7)] [(29,PE l a o e p)] ⟨rNd nd0,[(29,.ent (PE l a o e p))]⟩:=adh hs a o e p;refine ah.fnF Tryz.func217 Tryz.results217 Tryz.ntmps217 rfl rfl rfl rfl (fun w0 T B E0 hB=>?_)
 refine SX.goM ?_
 try(refine SX.WP.aB ?_;refine SX.goM ?_)
 exact aK (aj.aX rfl rfl rfl) (AV0.imp.refl _) ⟨rfl,trivial⟩
theorem g_sum{l:List Tok}{m:Nat}{U:Gr}(hl:l.length≤1000000)(hs:GOK 217 l m (zM l U))(hA:Adv 1 l m U):GOK 179 l m (mI l U):=by
 intro a o hm ha ho;have h1:CR rNd 216 [.ptr 29 0,bnA 217,.v (str [43]),.v (.int .i64 4),.v (str [45]),.v (.int .i64 5)] [] l a o (mI l U a o):=agw hl hs (zL hA) hm ha ho;cases hr:mI l U a o with
 |bad e p n a' o'=>
  rw[hr]at h1;have c1:=h1.bad;show ah _ _ _ _ _;refine ah.fnF Tryz.func179 Tryz.results179 Tryz.ntmps179 rfl rfl rfl rfl (fun w0 T B E0 hB=>?_)
  refine SX.goM ?_
  try(refine SX.WP.aB ?_;refine SX.goM ?_)
  exact aK (aj.aX rfl rfl rfl) (AV0.imp.refl _) ⟨rfl,trivial⟩
 |ok n a'=>
  rw[hr]at h1;have c1:=h1.ok;show ah _ _ _ _ _;refine ah.fnF Tryz.func179 Tryz.results179 Tryz.ntmps179 rfl rfl rfl rfl (fun w0 T B E0 hB=>?_)
  refine SX.goM ?_
  try(refine SX.WP.aB ?_;refine SX.goM ?_)
  exact aK (aj.aX rfl rfl rfl) (AV0.imp.refl _) ⟨rfl,trivial⟩
theorem ap9{l:List Tok}(hs:GE 217 l):GE 179 l:=by
 intro a o e p;have c1:ah Tryz.prog 216 [.ptr 29 0,bnA 217,.v (str [43]),.v (.int .i64 4),.v (str [45]),.v (.int .i64 5)] [(29,PE l a o e p)] ⟨rNd nd0,[(29,.ent (PE l a o e p))]⟩:=adh hs a o e p;refine ah.fnF Tryz.func179 Tryz.results179 Tryz.ntmps179 rfl rfl rfl rfl (fun w0 T B E0 hB=>?_)
 refine SX.goM ?_
 try(refine SX.WP.aB ?_;refine SX.goM ?_)
 exact aK (aj.aX rfl rfl rfl) (AV0.imp.refl _) ⟨rfl,trivial⟩
def sgnB:Nat→List UInt8
 |0=>[61,61]
 |1=>[33,61]
 |2=>[60]
 |_=>[60,61]
def exI(i:Nat):List (Nat×AV):=[(0,.ptr 29 0),(2,.ptr 2 0),(3,.ptr 3 0),(8,.agg [.c (.val (str [61,61])),.c (.val (str [33,61])),.c (.val (str [60])),.c (.val (str [60,61]))]),(9,.v (.int .i64 (i:Int)))]
theorem ao9{l:List Tok}(hs:GE 179 l):GE 134 l:=by
 intro a o e p;have c1:=hs a o e p;have k0:=dx l a o e p [61,61];have k1:=dx l a o e p [33,61];have k2:=dx l a o e p [60];have k3:=dx l a o e p [60,61];refine ah.fnF Tryz.func134 Tryz.results134 Tryz.ntmps134 rfl rfl rfl rfl (fun w0 T B E0 hB=>?_)
 refine SX.goM ?_
 try(refine SX.WP.aB ?_;refine SX.goM ?_)
 refine W.loop (fun i=>i≤4) exI (fun _=>[(29,PE l a o e p),(2,NZ),(3,NB nd0)]) (fun i=>4 - i) 0 (by omega) (fun i hi=>?_)
 match i,hi with
 |0,_=>
  refine SX.goM ?_
  try(refine SX.WP.aB ?_;refine SX.goM ?_)
  exact W.next 1 (by omega) (by omega)
 |1,_=>
  refine SX.goM ?_
  try(refine SX.WP.aB ?_;refine SX.goM ?_)
  exact W.next 2 (by omega) (by omega)
 |2,_=>
  refine SX.goM ?_
  try(refine SX.WP.aB ?_;refine SX.goM ?_)
  exact W.next 3 (by omega) (by omega)
 |3,_=>
  refine SX.goM ?_
  try(refine SX.WP.aB ?_;refine SX.goM ?_)
  exact W.next 4 (by omega) (by omega)
 |4,_=>
  refine SX.goM ?_
  try(refine SX.WP.aB ?_;refine SX.goM ?_)
  exact aK (aj.aX rfl rfl rfl) (AV0.imp.refl _) ⟨rfl,trivial⟩
 |i+5,h=>omega
def exT(l:List Tok)(U:Gr)(n:Nd)(a o:Nat):Nat→Res
 |0=> .ok n a
 |k+1=>if isS l a (sgnB (3 - k))then gV (fun m=> .mk ((12 - k:Nat):Int) [] [n,m]) (mI l U (a+1) o)else exT l U n a o k
theorem agh{l:List Tok}{U:Gr}{n:Nd}{a o k:Nat}{R:Res}{s:List UInt8}(h:exT l U n a o (k+1)=R)(hs:sgnB (3 - k)=s)(ht:isS l a s=true):gV (fun m=> .mk ((12 - k:Nat):Int) [] [n,m]) (mI l U (a+1) o)=R:=by
 subst hs;unfold exT at h;rwa [if_pos ht]at h
theorem agv{l:List Tok}{U:Gr}{n:Nd}{a o k:Nat}{R:Res}{s:List UInt8}(h:exT l U n a o (k+1)=R)(hs:sgnB (3 - k)=s)(ht:isS l a s=false):exT l U n a o k=R:=by
 subst hs;unfold exT at h;rwa [if_neg (by rw[ht];decide)]at h
theorem g_exp{l:List Tok}{m:Nat}{U:Gr}(hl:l.length≤1000000)(hs:GOK 179 l m (mI l U))(hA:Adv 1 l m U):GOK 134 l m (wB l U):=by
 intro a o hm ha ho;have h1:=hs a o hm ha ho;have h2:=abN hA a o hm ha;unfold wB;cases hr:mI l U a o with
 |bad e p n a' o'=>
  rw[hr]at h1;have c1:=h1.bad;show ah _ _ _ _ _;have k0:=dx l a' o' e p [61,61];have k1:=dx l a' o' e p [33,61];have k2:=dx l a' o' e p [60];have k3:=dx l a' o' e p [60,61];refine ah.fnF Tryz.func134 Tryz.results134 Tryz.ntmps134 rfl rfl rfl rfl (fun w0 T B E0 hB=>?_)
  refine SX.goM ?_
  try(refine SX.WP.aB ?_;refine SX.goM ?_)
  refine W.loop (fun i=>i≤4) exI (fun _=>[(29,PE l a' o' e p),(2,NZ),(3,NB n)]) (fun i=>4 - i) 0 (by omega) (fun i hi=>?_)
  match i,hi with
  |0,_=>
   refine SX.goM ?_
   try(refine SX.WP.aB ?_;refine SX.goM ?_)
   exact W.next 1 (by omega) (by omega)
  |1,_=>
   refine SX.goM ?_
   try(refine SX.WP.aB ?_;refine SX.goM ?_)
   exact W.next 2 (by omega) (by omega)
  |2,_=>
   refine SX.goM ?_
   try(refine SX.WP.aB ?_;refine SX.goM ?_)
   exact W.next 3 (by omega) (by omega)
  |3,_=>
   refine SX.goM ?_
   try(refine SX.WP.aB ?_;refine SX.goM ?_)
   exact W.next 4 (by omega) (by omega)
  |4,_=>
   refine SX.goM ?_
   try(refine SX.WP.aB ?_;refine SX.goM ?_)
   exact aK (aj.aX rfl rfl rfl) (AV0.imp.refl _) ⟨rfl,trivial⟩
  |i+5,h=>omega
 |ok n a'=>
  rw[hr]at h1 h2;have c1:=h1.ok;obtain⟨g1,g2,g3⟩:=h2;have key:∀R,exT l U n a' o 4=R→CR rNd 134 [.ptr 29 0] [] l a o R:=by
   intro R hR;refine CR.of ?_;refine ah.fnF Tryz.func134 Tryz.results134 Tryz.ntmps134 rfl rfl rfl rfl (fun w0 T B E0 hB=>?_)
   refine SX.goM ?_
   try(refine SX.WP.aB ?_;refine SX.goM ?_)
   refine W.loop (fun i=>i≤4∧exT l U n a' o (4 - i)=R) exI (fun _=>[(29,PG l a' o),(2,NZ),(3,NB n)]) (fun i=>4 - i) 0 ⟨by omega,hR⟩ (fun i hi=>?_)
   match i,hi with
   |0,⟨_,hq⟩=>
    have hq:exT l U n a' o (3+1)=R:=hq;cases ht:isS l a' [61,61]with
    |true=>
     have hq:=agh hq rfl ht;have k0:=dP o hl ht;have g5:=bf ht;have h3:=hs (a'+1) o (by omega) (by omega) ho
     cases hr2:mI l U (a'+1) o with
     |bad e p k a2 o2=>
      rw[hr2]at h3 hq;have c3:=h3.bad;refine SX.goM ?_
      try(refine SX.WP.aB ?_;refine SX.goM ?_)
      subst hq;exact aK (aj.aX rfl rfl rfl) (aY rfl rfl rfl (by first|(simp only[List.flatMap_cons,List.flatMap_nil,aD,List.append_nil];done)|(simp only[List.flatMap_cons,List.flatMap_nil,aD,List.append_nil];rfl))) ⟨rfl,trivial⟩
     |ok k a2=>
      rw[hr2]at h3 hq;have c3:=h3.ok;refine SX.goM ?_
      try(refine SX.WP.aB ?_;refine SX.goM ?_)
      subst hq;exact aK (aj.aX rfl rfl rfl) (aY rfl rfl rfl (by first|(simp only[List.flatMap_cons,List.flatMap_nil,aD,List.append_nil];done)|(simp only[List.flatMap_cons,List.flatMap_nil,aD,List.append_nil];rfl))) ⟨rfl,trivial⟩
    |false=>
     have hq:=agv hq rfl ht;have k0:=dG o ht;refine SX.goM ?_
     try(refine SX.WP.aB ?_;refine SX.goM ?_)
     exact W.next 1 ⟨by omega,hq⟩ (by omega)
   |1,⟨_,hq⟩=>
    have hq:exT l U n a' o (2+1)=R:=hq;cases ht:isS l a' [33,61]with
    |true=>
     have hq:=agh hq rfl ht;have k0:=dP o hl ht;have g5:=bf ht;have h3:=hs (a'+1) o (by omega) (by omega) ho
     cases hr2:mI l U (a'+1) o with
     |bad e p k a2 o2=>
      rw[hr2]at h3 hq;have c3:=h3.bad;refine SX.goM ?_
      try(refine SX.WP.aB ?_;refine SX.goM ?_)
      subst hq;exact aK (aj.aX rfl rfl rfl) (aY rfl rfl rfl (by first|(simp only[List.flatMap_cons,List.flatMap_nil,aD,List.append_nil];done)|(simp only[List.flatMap_cons,List.flatMap_nil,aD,List.append_nil];rfl))) ⟨rfl,trivial⟩
     |ok k a2=>
      rw[hr2]at h3 hq;have c3:=h3.ok;refine SX.goM ?_
      try(refine SX.WP.aB ?_;refine SX.goM ?_)
      subst hq;exact aK (aj.aX rfl rfl rfl) (aY rfl rfl rfl (by first|(simp only[List.flatMap_cons,List.flatMap_nil,aD,List.append_nil];done)|(simp only[List.flatMap_cons,List.flatMap_nil,aD,List.append_nil];rfl))) ⟨rfl,trivial⟩
    |false=>
     have hq:=agv hq rfl ht;have k0:=dG o ht;refine SX.goM ?_
     try(refine SX.WP.aB ?_;refine SX.goM ?_)
     exact W.next 2 ⟨by omega,hq⟩ (by omega)
   |2,⟨_,hq⟩=>
    have hq:exT l U n a' o (1+1)=R:=hq;cases ht:isS l a' [60]with
    |true=>
     have hq:=agh hq rfl ht;have k0:=dP o hl ht;have g5:=bf ht;have h3:=hs (a'+1) o (by omega) (by omega) ho
     cases hr2:mI l U (a'+1) o with
     |bad e p k a2 o2=>
      rw[hr2]at h3 hq;have c3:=h3.bad;refine SX.goM ?_
      try(refine SX.WP.aB ?_;refine SX.goM ?_)
      subst hq;exact aK (aj.aX rfl rfl rfl) (aY rfl rfl rfl (by first|(simp only[List.flatMap_cons,List.flatMap_nil,aD,List.append_nil];done)|(simp only[List.flatMap_cons,List.flatMap_nil,aD,List.append_nil];rfl))) ⟨rfl,trivial⟩
     |ok k a2=>
      rw[hr2]at h3 hq;have c3:=h3.ok;refine SX.goM ?_
      try(refine SX.WP.aB ?_;refine SX.goM ?_)
      subst hq;exact aK (aj.aX rfl rfl rfl) (aY rfl rfl rfl (by first|(simp only[List.flatMap_cons,List.flatMap_nil,aD,List.append_nil];done)|(simp only[List.flatMap_cons,List.flatMap_nil,aD,List.append_nil];rfl))) ⟨rfl,trivial⟩
    |false=>
     have hq:=agv hq rfl ht;have k0:=dG o ht;refine SX.goM ?_
     try(refine SX.WP.aB ?_;refine SX.goM ?_)
     exact W.next 3 ⟨by omega,hq⟩ (by omega)
   |3,⟨_,hq⟩=>
    have hq:exT l U n a' o (0+1)=R:=hq;cases ht:isS l a' [60,61]with
    |true=>
     have hq:=agh hq rfl ht;have k0:=dP o hl ht;have g5:=bf ht;have h3:=hs (a'+1) o (by omega) (by omega) ho
     cases hr2:mI l U (a'+1) o with
     |bad e p k a2 o2=>
      rw[hr2]at h3 hq;have c3:=h3.bad;refine SX.goM ?_
      try(refine SX.WP.aB ?_;refine SX.goM ?_)
      subst hq;exact aK (aj.aX rfl rfl rfl) (aY rfl rfl rfl (by first|(simp only[List.flatMap_cons,List.flatMap_nil,aD,List.append_nil];done)|(simp only[List.flatMap_cons,List.flatMap_nil,aD,List.append_nil];rfl))) ⟨rfl,trivial⟩
     |ok k a2=>
      rw[hr2]at h3 hq;have c3:=h3.ok;refine SX.goM ?_
      try(refine SX.WP.aB ?_;refine SX.goM ?_)
      subst hq;exact aK (aj.aX rfl rfl rfl) (aY rfl rfl rfl (by first|(simp only[List.flatMap_cons,List.flatMap_nil,aD,List.append_nil];done)|(simp only[List.flatMap_cons,List.flatMap_nil,aD,List.append_nil];rfl))) ⟨rfl,trivial⟩
    |false=>
     have hq:=agv hq rfl ht;have k0:=dG o ht;refine SX.goM ?_
     try(refine SX.WP.aB ?_;refine SX.goM ?_)
     exact W.next 4 ⟨by omega,hq⟩ (by omega)
   |4,⟨_,hq⟩=>
    refine SX.goM ?_
    try(refine SX.WP.aB ?_;refine SX.goM ?_)
    subst hq;exact aK (aj.aX rfl rfl rfl) (AV0.imp.refl _) ⟨rfl,trivial⟩
   |i+5,⟨h,_⟩=>omega
  exact key _ rfl
theorem aoe{P:Program}{C:Ctx}{st:St}{t:Tmp}{l:List (Nat×Slot)}{n:Nat}{cells:List CA}{ks:List Nd}(hh:zU st l)(h:st.tm t=some (.r (aM 3 n cells)):=by rfl)(hn:n=ks.length:=by first|rfl|(simp[Res.nd,Nd.kids];done))(hc:cells=ks.flatMap ndC:=by first|rfl|exact bq (aD _).symm):aL C P [.tmp t] ⟨.r (aF 3 ndC ks),l⟩ st:=by
 subst hn hc;exact gG (xs:=[.one (.c (.sat (aF 3 ndC ks)))]) ⟨aj.tmp h,trivial⟩ hh
theorem retK0{P:Program}{C:Ctx}{st:St}{t:Tmp}{l:List (Nat×Slot)}(hh:zU st l)(h:st.tm t=some (.v (.slice none 0 0)):=by rfl):aL C P [.tmp t] ⟨.r (aF 3 ndC []),l⟩ st:=
 gG (xs:=[.one (.c (.sat (aF 3 ndC [])))]) ⟨(aj.tmp h).imp imp_nil,trivial⟩ hh
structure LiS where
 ks:List Nd
 a:Nat
 o:Nat
 b:Option (Nat×Nat)
 f:Nat
def liS(l:List Tok)(X:Gr)(e:List UInt8)(q:LiS):Res:=match q.b with
 |none=>oN l X e q.f q.ks q.a q.o
 |some (e,p)=> .bad e p (.mk 0 [] q.ks) q.a q.o
abbrev NR(ks:List Nd):Ent:= .row 86 3 ks.length (ks.flatMap ndC)
theorem akW{l:List Tok}{m:Nat}{X:Gr}{e:List UInt8}(hl:l.length≤1000000)(hs:GOK 134 l m X)(hA:Adv 1 l m X){a o:Nat}(hm:m≤a)(ha:a≤l.length)(ho:o≤600):
  CR rKs 519 [.ptr 29 0,.v (str e)] [] l a o (jh l X e a o):=by
 unfold jh;cases h0:isS l a e with
 |true=>
  rw[if_pos rfl];have c0:=dP o hl h0;show ah _ _ _ _ _;refine ah.fnF Tryz.func519 Tryz.results519 Tryz.ntmps519 rfl rfl rfl rfl (fun w0 T B E0 hB=>?_)
  refine SX.goM ?_;exact retK0 ⟨rfl,trivial⟩
 |false=>
  rw[if_neg (by decide)]
  have c0:=dG o h0;generalize hR:oN l X e (l.length+1) [] a o=R;refine CR.of ?_;refine ah.fnF Tryz.func519 Tryz.results519 Tryz.ntmps519 rfl rfl rfl rfl (fun w0 T B E0 hB=>?_)
  refine SX.goM ?_;refine W.loop (fun q:LiS=>liS l X e q=R∧(q.b=none→q.o=o∧m≤q.a∧q.a≤l.length∧l.length < q.a+q.f∧q.ks.length≤q.a)) (fun _=>[(0,.ptr 29 0),(1,.v (str e)),(5,.own 100)]) (fun q=>[(29,PS l q.a q.o q.b),(100,NR q.ks)]) (fun q=>match q.b with|none=>l.length+1 - q.a|some _=>0) ⟨[],a,o,none,l.length+1⟩ ⟨hR,fun _=>by dsimp only;exact⟨rfl,by omega,by omega,by omega,Nat.zero_le _⟩⟩ (fun q hq=>?_)
  obtain⟨qk,qa,qo,qb,qf⟩:=q;obtain⟨hq1,hq2⟩:=hq
  dsimp only at hq1 hq2
  cases qb with
  |some b=>
   obtain⟨ee,p⟩:=b;show WP _ _ _ (eZ [(0,.ptr 29 0),(1,.v (str e)),(5,.own 100)] [(29,PE l qa qo ee p),(100,NR qk)]) _;refine SX.goM ?_;subst hq1;refine aL.nY 100 (ps:=[29]) ?_;exact aoe ⟨rfl,trivial⟩
  |none=>
   obtain⟨rfl,b1,b2,b3,b4⟩:=hq2 rfl;obtain⟨qf,rfl⟩:∃k,qf=k+1:=⟨qf - 1,by omega⟩
   show WP _ _ _ (eZ [(0,.ptr 29 0),(1,.v (str e)),(5,.own 100)] [(29,PG l qa qo),(100,NR qk)]) _;have hq1:oN l X e (qf+1) qk qa qo=R:=hq1;unfold oN at hq1;have h3:=hs qa qo (by omega) (by omega) ho
   have h4:=hA qa qo (by omega) (by omega)
   cases hr2:X qa qo with
   |bad c p k a2 o2=>
    rw[hr2]at h3 hq1;have c3:=h3.bad;have c4:=dx l a2 o2 c p e;have c5:=iR l a2 o2 c p [44];refine SX.goM ?_;exact W.next ⟨qk++[k],a2,o2,some (c,p),0⟩ ⟨hq1,fun h=>by cases h⟩ (by dsimp only;omega)
     (by
      apply SX.St.lt1
      ·intro b h;exact SX.dw h
      ·repeat(first|exact trivial|refine⟨⟨_,rfl,SX.aG.same rfl⟩,?_⟩|refine⟨⟨_,rfl,SX.aG.own rfl⟩,?_⟩)
      ·exact⟨SX.ak.eq rfl rfl rfl,SX.ak.row rfl rfl (by simp) (bq (aD _).symm),trivial⟩
      ·rfl)
   |ok k a2=>
    rw[hr2]at h3 hq1 h4;have c3:=h3.ok;obtain⟨j1,j2,j3⟩:=h4;have j4:=kT k
    dsimp only at hq1
    cases ht:isS l a2 e with
    |true=>
     have c4:=dP qo hl ht;rw[if_pos ht]at hq1;refine SX.goM ?_;subst hq1;refine aL.nY 18 (ps:=[29]) ?_;exact aoe ⟨rfl,trivial⟩
    |false=>
     have c4:=dG qo ht;rw[if_neg (by rw[ht];decide)]at hq1
     cases ht2:isS l a2 [44]with
     |true=>
      have c5:=jk qo hl ht2;have g5:=bf ht2;rw[if_pos ht2]at hq1;refine SX.goM ?_;exact W.next ⟨qk++[k],a2+1,qo,none,qf⟩ ⟨hq1,fun h=>by dsimp only;exact⟨rfl,by omega,by omega,by omega,by simp;omega⟩⟩ (by dsimp only;omega)
       (by
        apply SX.St.lt1
        ·intro b h;exact SX.dw h
        ·repeat(first|exact trivial|refine⟨⟨_,rfl,SX.aG.same rfl⟩,?_⟩|refine⟨⟨_,rfl,SX.aG.own rfl⟩,?_⟩)
        ·exact⟨SX.ak.eq rfl rfl rfl,SX.ak.row rfl rfl (by simp) (bq (aD _).symm),trivial⟩
        ·rfl)
     |false=>
      have c5:=jV qo ht2;rw[if_neg (by rw[ht2];decide)]at hq1
      refine SX.goM ?_;exact W.next ⟨qk++[k],a2,qo,some (4,a2),0⟩ ⟨hq1,fun h=>by cases h⟩ (by dsimp only;omega)
       (by
        apply SX.St.lt1
        ·intro b h;exact SX.dw h
        ·repeat(first|exact trivial|refine⟨⟨_,rfl,SX.aG.same rfl⟩,?_⟩|refine⟨⟨_,rfl,SX.aG.own rfl⟩,?_⟩)
        ·exact⟨SX.ak.eq rfl rfl rfl,SX.ak.row rfl rfl (by simp) (bq (aD _).symm),trivial⟩
        ·rfl)
theorem ak.node{st:St}{ρ:List (Nat×Option Nat)}{b c:Nat}{x:Value}{s:Value}{o:Atom}(h:st.hp b= .ent (.box 86 [.c (.val x),.c (.val s),o]))(hf:fresh ρ [b]=true)(hi:aA ρ o (.own c)):ak st ρ b (.box 86 [.c (.val x),.c (.val s),.own c]):=
 ak.mK h hf ⟨aA.same rfl,aA.same rfl,hi,trivial⟩
abbrev NG(x:Int)(c:Nat):Ent:= .box 86 [.c (.val (.int .i64 x)),.c (.val (.string ByteArray.empty)),.own c]
structure MaS where
 rs:List Nd
 r:List Nd
 a:Nat
 f:Nat
theorem wH(r:List Nd)(k:Nd):([CA.val (.int .i64 15),.val (.string ByteArray.empty),.sat (aM 3 (r.length+1) (r.flatMap ndC++caN k))]:List CA)=ndC (.mk 15 [] (r++[k])):=by
 rw[alm];show _=[CA.val (.int .i64 15),.val (.string ByteArray.empty),.sat (aM 3 (r++[k]).length ((r++[k]).flatMap ndC))];rw[←bq (aD k).symm,List.length_append];rfl
theorem g_mat{l:List Tok}{m:Nat}{X:Gr}(hl:l.length≤1000000)(hs:GOK 134 l m X)(hA:Adv 1 l m X){a o:Nat}(hm:m≤a)(ha:a≤l.length)(ho:o≤600):
  CR rNd 521 [.ptr 29 0] [] l a o (oH l X (l.length+1) [] [] a o):=by
 generalize hR:oH l X (l.length+1) [] [] a o=R;refine CR.of ?_;refine ah.fnF Tryz.func521 Tryz.results521 Tryz.ntmps521 rfl rfl rfl rfl (fun w0 T B E0 hB=>?_)
 refine SX.goM ?_;refine W.loop (fun q:MaS=>oH l X q.f q.rs q.r q.a o=R∧m≤q.a∧q.a≤l.length∧l.length < q.a+q.f∧q.rs.length+q.r.length≤q.a) (fun _=>[(0,.ptr 29 0),(2,.ptr 2 0),(3,.ptr 3 0),(4,.ptr 4 0)]) (fun q=>[(29,PG l q.a o),(2,NZ),(3,NG 14 100),(4,NG 15 101),(100,NR q.rs),(101,NR q.r)]) (fun q=>l.length+1 - q.a) ⟨[],[],a,l.length+1⟩ ⟨hR,by dsimp only;exact⟨by omega,by omega,by omega,Nat.zero_le _⟩⟩ (fun q hq=>?_)
  (by
   refine SX.St.bG [(100,none),(101,none)] (by intro b h;exact SX.dw h rfl) ?_ ?_ rfl
   ·repeat(first|exact trivial|refine⟨⟨_,rfl,SX.aG.same rfl⟩,?_⟩)
   ·exact⟨SX.ak.same rfl rfl,SX.ak.same rfl rfl,ak.node rfl rfl (aA.nil rfl),ak.node rfl rfl (aA.nil rfl),SX.ak.dL rfl,SX.ak.dL rfl,trivial⟩)
 obtain⟨rs,r,qa,qf⟩:=q
 dsimp only at hq
 obtain⟨hq1,b1,b2,b3,b4⟩:=hq;obtain⟨qf,rfl⟩:∃k,qf=k+1:=⟨qf - 1,by omega⟩
 unfold oH at hq1;show WP _ _ _ (eZ [(0,.ptr 29 0),(2,.ptr 2 0),(3,.ptr 3 0),(4,.ptr 4 0)] [(29,PG l qa o),(2,NZ),(3,NG 14 100),(4,NG 15 101),(100,NR rs),(101,NR r)]) _;have h3:=hs qa o (by omega) (by omega) ho
 have h4:=hA qa o (by omega) (by omega)
 cases hr2:X qa o with
 |bad c p k a2 o2=>
  rw[hr2]at h3 hq1;have c3:=h3.bad;have c4:=dx l a2 o2 c p [44];have c6:=iR l a2 o2 c p [93];obtain⟨bb,hbb⟩:∃b,Hide (b=false):=⟨_,⟨rfl⟩⟩;have c5:ah Tryz.prog 133 [.ptr 29 0,.v (str [59])] [(29,PE l a2 o2 c p)] ⟨.v (.bool bb),[(29,.ent (PE l a2 o2 c p))]⟩:=by rw[hbb.out];exact dx l a2 o2 c p [59]
  refine SX.goM ?_;refine WP.wX 17 (ps:=[29]) hB rfl rfl ?_;refine W.zA ?_ rfl hbb.out;refine SX.goM ?_;subst hq1;refine aL.nY 25 (ps:=[29]) ?_;exact aK (aj.aX rfl rfl rfl) (aY rfl rfl (by simp[Res.nd]) (bq (wH r k))) ⟨rfl,trivial⟩
 |ok k a2=>
  rw[hr2]at h3 hq1 h4;have c3:=h3.ok;obtain⟨j1,j2,j3⟩:=h4;have j4:=kT k
  dsimp only at hq1
  cases ht:isS l a2 [44]with
  |true=>
   have c4:=dP o hl ht;have g5:=bf ht;rw[if_pos ht]at hq1;refine SX.goM ?_;exact W.next ⟨rs,r++[k],a2+1,qf⟩ ⟨hq1,by dsimp only;exact⟨by omega,by omega,by omega,by simp;omega⟩⟩ (by dsimp only;omega)
    (by
     refine SX.St.bG [(100,some 100),(101,some 17)] (by intro b h;exact SX.dw h rfl) ?_ ?_ rfl
     ·repeat(first|exact trivial|refine⟨⟨_,rfl,SX.aG.same rfl⟩,?_⟩)
     ·exact⟨SX.ak.eq rfl rfl rfl,SX.ak.same rfl rfl,ak.node rfl rfl (aA.own rfl),ak.node rfl rfl (aA.own rfl),SX.ak.row rfl rfl rfl rfl,SX.ak.row rfl rfl (by simp) (bq (aD _).symm),trivial⟩)
  |false=>
   have c4:=dG o ht;rw[if_neg (by rw[ht];decide)]at hq1
   cases ht2:isS l a2 [59]with
   |true=>
    have g5:=bf ht2;rw[if_pos ht2]at hq1;obtain⟨bb,hbb⟩:∃b,Hide (b=true):=⟨_,⟨rfl⟩⟩;have c5:ah Tryz.prog 133 [.ptr 29 0,.v (str [59])] [(29,PG l a2 o)] ⟨.v (.bool bb),[(29,.ent (PG l (a2+1) o))]⟩:=by rw[hbb.out];exact dP o hl ht2
    refine SX.goM ?_;refine WP.wX 17 (ps:=[29]) hB rfl rfl ?_;refine W.afA ?_ rfl hbb.out;refine SX.goM ?_;exact W.next ⟨rs++[.mk 15 [] (r++[k])],[],a2+1,qf⟩ ⟨hq1,by dsimp only;exact⟨by omega,by omega,by omega,by simp;omega⟩⟩ (by dsimp only;omega)
     (by
      refine SX.St.bG [(100,some 38),(101,none)] (by intro b h;exact SX.dw h rfl) ?_ ?_ rfl
      ·repeat(first|exact trivial|refine⟨⟨_,rfl,SX.aG.same rfl⟩,?_⟩)
      ·exact⟨SX.ak.eq rfl rfl rfl,SX.ak.same rfl rfl,ak.node rfl rfl (aA.own rfl),ak.node rfl rfl (aA.nil rfl),SX.ak.row rfl rfl (by simp) (bq (wH r k)),SX.ak.dL rfl,trivial⟩)
   |false=>
    rw[if_neg (by rw[ht2];decide)]at hq1
    obtain⟨bb,hbb⟩:∃b,Hide (b=false):=⟨_,⟨rfl⟩⟩;have c5:ah Tryz.prog 133 [.ptr 29 0,.v (str [59])] [(29,PG l a2 o)] ⟨.v (.bool bb),[(29,.ent (PG l a2 o))]⟩:=by rw[hbb.out];exact dG o ht2
    cases ht3:isS l a2 [93]with
    |true=>
     rw[if_pos ht3]at hq1;have c6:=jk o hl ht3;refine SX.goM ?_;refine WP.wX 17 (ps:=[29]) hB rfl rfl ?_;refine W.zA ?_ rfl hbb.out;refine SX.goM ?_;subst hq1;refine aL.nY 25 (ps:=[29]) ?_;exact aK (aj.aX rfl rfl rfl) (aY rfl rfl (by simp[Res.nd]) (bq (wH r k))) ⟨rfl,trivial⟩
    |false=>
     rw[if_neg (by rw[ht3];decide)]at hq1
     have c6:=jV o ht3;refine SX.goM ?_;refine WP.wX 17 (ps:=[29]) hB rfl rfl ?_;refine W.zA ?_ rfl hbb.out;refine SX.goM ?_;subst hq1;refine aL.nY 25 (ps:=[29]) ?_;exact aK (aj.aX rfl rfl rfl) (aY rfl rfl (by simp[Res.nd]) (bq (wH r k))) ⟨rfl,trivial⟩
end
end Go.Proofs.YtegehclknhmkgaaGreatDoor