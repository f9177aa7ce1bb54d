import Derived.Test.YthnkfhfcgjoieaaGreatDoorProg
import Derived.Test.YthnkfhfcgjoieaaGreatDoorO26
import Derived.Laws.Externs
import Derived.Laws.Bits64b
import Derived.Deep.Cut
import Derived.Deep.DeepCutAuto
import Derived.Lib.Tables
import Derived.Lib.BitFns
import Derived.Laws.MathBits
set_option maxRecDepth 1000000
set_option maxHeartbeats 2000000
set_option linter.unusedVariables false
set_option linter.unusedSimpArgs false
open Go.Proofs.Tryz
namespace Go.Proofs.YthnkfhfcgjoieaaGreatDoor
open Go.RowKit QM
theorem ari(b o n cap:Nat)(l:List Nat)(hn:l.length=n)(hn2:n<=4398046511104)(w:World)
  (hc:∀i,i < n->w.cell? ⟨b,o+i,none⟩=some (.int .u64 ((gd l i:Nat):Int))) (hcap:n<=cap):
  Calls prog 59 #[.slice (some ⟨b,o,none⟩) n cap] w fun e w'=>e= .returned (.slice (some ⟨b,o,none⟩) (aP l) cap)/\w=w':=by
 go_enter func59,ntmps59
 go_wp2
 go_loop [3] (fun k=>∃i:Nat,i<=n/\k= .int .i64 i/\∀j,i<=j->gd l j=0) (fun k=>(intOf k).toNat)
 case atStart=>exact⟨n,z7,rfl,fun j hj=>ata z7⟩
 case round=>
  obtain⟨i,hi,rfl,hz⟩:=hrel;by_cases h0:i=0
  ·subst h0;have ht:aP l=0:=(ac9 (fun j hj=>hz j hj) (.inl rfl)).symm
   have HT:=hid ht;clear ht hz;go_wp2;go_ret;exact⟨by rw[HT.out];rfl,rfl⟩
  ·have hci:=hc (i - 1) z7
   by_cases hx:gd l (i - 1)=0
   ·have hx1:(((gd l (i - 1):Nat):Int)==0)=true:=by simp[hx]
    have HX:=hid hx;have HZ:=hid hz;clear hx hz;go_wp2;go_round
    case rel=>exact⟨i - 1,z7,by go_num,fun j hj=>if h:j=i - 1 then h▸HX.out else HZ.out j z7⟩
    case measure=>simp[intOf];omega
   ·have hx1:(((gd l (i - 1):Nat):Int)==0)=false:=by simpa using hx
    have HT:=hid (ac9 (n:=i) hz (.inr hx));clear hx hz;go_wp2;go_ret;exact⟨by rw[HT.out];rfl,rfl⟩
theorem ahV(oa:Option Addr)(cap:Nat)(w:World):
  Calls prog 59 #[.slice oa 0 cap] w fun e w'=>e= .returned (.slice oa 0 cap)/\w=w':=by
 go_enter func59,ntmps59
 go_wp2
 go_loop [3] (fun k=>k= .int .i64 0) (fun k=>0)
 case atStart=>rfl
 case round=>
  subst hrel;go_wp2;go_ret;exact⟨rfl,rfl⟩
theorem dV{w:World}{oa:Option Addr}{n cap:Nat}{l:List Nat}(h:RN w (.slice oa n cap) l)(hn:l.length<=4398046511104):
  Calls prog 59 #[.slice oa n cap] w fun e w'=>e= .returned (.slice oa (aP l) cap)/\w=w':=by
 rcases h.shape with⟨rfl,oa',cap',e,_⟩|⟨b,o,cap',e,h0,h1,h2,h3⟩
 ·simp only[Value.slice.injEq]at e;obtain⟨rfl,rfl,rfl⟩:=e;exact ahV _ _ _
 ·simp only[Value.slice.injEq]at e;obtain⟨rfl,rfl,rfl⟩:=e;exact ari _ _ _ _ _ rfl hn _ h3 h1
theorem arZ(w:World):Calls prog 38 #[.int .u64 0] w fun e w'=>e= .returned (.slice none 0 0)/\w=w':=by
 go_enter func38,ntmps38
 go_wp2;go_ret;exact⟨rfl,rfl⟩
theorem auT(x:Nat)(hx:0 < x)(w:World):Calls prog 38 #[.int .u64 (x:Int)] w fun e w'=>e= .returned (.slice (some ⟨w.heap.size,0,none⟩) 1 1)/\w'=w.alloc (.cells #[.int .u64 (x:Int)] 34):=by
 have hb:((x:Int)==0)=false:=by simp;omega
 clear hx
 go_enter func38,ntmps38
 go_wp2;go_ret;exact⟨rfl,rfl⟩
def kJ(x y:Nat):Int:=if x < y then -1 else if x=y then 0 else 1
theorem zV{x y:Nat}(h:x < y):kJ x y= -1:=by simp[kJ,h]
theorem aj5{x y:Nat}(h:x=y):kJ x y=0:=by simp[kJ,h]
theorem akm{x y:Nat}(h:y < x):kJ x y=1:=by unfold kJ;rw[if_neg z7,if_neg z7]
theorem ab2{a b:List Nat}{k:Nat}(h:∀j,k<=j->gd a j=gd b j)(hl:aP a=aP b):(a.take (aP a)).drop k=(b.take (aP b)).drop k:=by
 have ha:=dS a;have hb:=dS b;apply List.ext_getElem
 ·simp;omega
 ·intro i h1 h2;simp at h1 h2
  have:=h (k+i) z7
  simpa[gd,List.getD_eq_getElem?_getD,List.getElem?_eq_getElem (show k+i < a.length by omega),List.getElem?_eq_getElem (show k+i < b.length by omega)]using this
theorem al5{a b:List Nat}(h:∀j,gd a j=gd b j)(hl:aP a=aP b):nval WB a=nval WB b:=by
 rw[<-dO a,<-dO b];exact congrArg _ (by simpa using ab2 (k:=0) (fun j _=>h j) hl)
theorem acD{a b:List Nat}{k:Nat}(ha:Sm WB a)(hb:Sm WB b)(h:∀j,k+1<=j->gd a j=gd b j)(hl:aP a=aP b)(hk:k < aP a)(hx:gd a k < gd b k):nval WB a < nval WB b:=by
 have la:=dS a;have lb:=dS b;rw[<-dO a,<-dO b];refine ahZ (ha.take _) (hb.take _) (ab2 h hl) (by simp;omega) ?_
 have e1:=pI (l:=a) (n:=aP a) (i:=k) hk;have e2:=pI (l:=b) (n:=aP b) (i:=k) z7
 unfold gd at*;rw[e1,e2];exact hx
theorem uD{a b:List Nat}(ha:Sm WB a)(h:aP a < aP b):nval WB a < nval WB b:=by
 have la:=dS a;have lb:=dS b;rw[<-dO a,<-dO b];exact yU aZ (ha.take _) (sj b) (by simp;omega)
theorem aak{w:World}{va vb:Value}{la lb:List Nat}(ha:RN w va la)(hb:RN w vb lb)(hna:la.length<=4398046511104)(hnb:lb.length<=4398046511104):
  Calls prog 166 #[va,vb] w fun e w'=>e= .returned (.int .i64 (kJ (nval WB la) (nval WB lb)))/\Ext w w':=by
 have sa:=ha.sm;have sb:=hb.sm;have HSA:=hid sa;have HSB:=hid sb;have ka:=dS la;have kb:=dS lb;by_cases hl:aP la=aP lb
 ·by_cases h0:aP la=0
  ·have hf:kJ (nval WB la) (nval WB lb)=0:=aj5 (by rw[(jV aZ).2 h0,(jV aZ).2 z7])
   have HF:=hid hf;obtain⟨oa,ca,rfl,_⟩:=id ha;obtain⟨ob,cb,rfl,_⟩:=id hb;have hb0:aP lb=0:=z7
   have hla:(aP la != aP lb)=false:=by simp[hl]
   have ca:=dV ha hna;have cb:=dV hb hnb;rw[h0]at ca;rw[hb0]at cb;have CA:=hid ca;have CB:=hid cb;clear hf h0 hb0 hl hla ca cb sa sb ka kb ha hb
   go_enter func166,ntmps166
   go_wp2_with fail;refine CA.out.mono ?_;rintro e w' ⟨rfl,rfl⟩
   go_wp2_with fail;refine CB.out.mono ?_;rintro e w' ⟨rfl,rfl⟩;go_wp2
   go_loop [5] (fun k=>k= .int .i64 (-1)) (fun k=>0)
   case atStart=>rfl
   case round=>
    subst hrel;go_wp2;go_ret;exact⟨by rw[HF.out];rfl,Ext.refl _⟩
  ·rcases ha.shape with⟨rfl,_⟩|⟨b,o,cap,rfl,a0,a1,a2,a3⟩
   ·exact absurd (by simpa using ka) h0
   rcases hb.shape with⟨rfl,_⟩|⟨b',o',cap',rfl,b0,b1,b2,b3⟩
   ·exact absurd (by simp at kb;omega) h0
   have CA:=hid (dV ha hna);have CB:=hid (dV hb hnb);obtain⟨n,hn⟩:∃n,n=aP la:=⟨_,rfl⟩;rw[<-hn]at CA hl ka h0;rw[<-hl]at CB kb;have HL:=hid hl;have HN:=hid hn;clear hl hn ha hb sa sb
   go_enter func166,ntmps166
   go_wp2_with fail;refine CA.out.mono ?_;rintro e w' ⟨rfl,rfl⟩
   go_wp2_with fail;refine CB.out.mono ?_;rintro e w' ⟨rfl,rfl⟩;go_wp2
   go_loopw [5] (fun k wr=>∃i:Nat,i<=n/\k= .int .i64 ((i:Int) - 1)/\(∀j,i<=j->gd la j=gd lb j)/\Ext w wr) (fun k _=>(intOf k+1).toNat)
   case atStart=>exact⟨n,z7,rfl,fun j hj=>by rw[gd,gd,j6 (by have:=HN.out;omega),j6 (by have:=HL.out;omega)],Ext.refl _⟩
   case round=>
    obtain⟨i,hi,rfl,hz,hx⟩:=hrel;have HZ:=hid hz;clear hz;by_cases hi0:i=0
    ·subst hi0;have hf:kJ (nval WB la) (nval WB lb)=0:=aj5 (al5 (fun j=>HZ.out j z7) (by have:=HN.out;have:=HL.out;omega))
     have HF:=hid hf;clear hf;go_wp2;go_ret;exact⟨by rw[HF.out];rfl,hx⟩
    ·have hca:=hx.cell (a3 (i - 1) z7)
     have hcb:=hx.cell (b3 (i - 1) z7)
     have hn':=HN.out;have hl':=HL.out;have HNL:=hid (And.intro hn' hl');clear hn' hl';rcases Nat.lt_trichotomy (gd la (i - 1)) (gd lb (i - 1))with hlt|heq|hgt
     ·have hf:kJ (nval WB la) (nval WB lb)= -1:=zV (acD (k:=i - 1) HSA.out HSB.out (fun j hj=>HZ.out j z7) (by have:=HNL.out;omega) (by have:=HNL.out;omega) hlt)
      have HF:=hid hf;clear hf;go_wp2
      go_region
      all_goals
       go_wp2;go_ret;exact⟨by rw[HF.out];rfl,hx.trans (Ext.drew _)⟩
     ·have hlt1:¬gd la (i - 1) < gd lb (i - 1):=z7
      have hlt2:¬gd lb (i - 1) < gd la (i - 1):=z7
      have HE:=hid heq;clear heq;go_wp2
      go_region
      all_goals
       go_wp2
       go_region
       all_goals
        go_wp2
        go_roundw
        case rel=>exact⟨i - 1,z7,by go_num,fun j hj=>if h:j=i - 1 then h▸HE.out else HZ.out j z7,(hx.trans (Ext.drew _)).trans (Ext.drew _)⟩
        case measure=>simp[intOf];omega
     ·have hlt1:¬gd la (i - 1) < gd lb (i - 1):=z7
      have hf:kJ (nval WB la) (nval WB lb)=1:=akm (acD (k:=i - 1) HSB.out HSA.out (fun j hj=>(HZ.out j z7).symm) (by have:=HNL.out;omega) (by have:=HNL.out;omega) hgt)
      have HF:=hid hf;clear hf;go_wp2
      go_region
      all_goals
       go_wp2
       go_region
       all_goals
        go_wp2;go_ret;exact⟨by rw[HF.out];rfl,(hx.trans (Ext.drew _)).trans (Ext.drew _)⟩
 ·obtain⟨oa,ca,rfl,_⟩:=id ha;obtain⟨ob,cb,rfl,_⟩:=id hb;have CA:=hid (dV ha hna);have CB:=hid (dV hb hnb);have hne:((aP la:Int) != (aP lb:Int))=true:=by simp;omega
  rcases Nat.lt_or_gt_of_ne hl with hlt|hgt
  ·have HF:=hid (zV (uD sa hlt));clear ha hb sa sb hl
   go_enter func166,ntmps166
   go_wp2_with fail;refine CA.out.mono ?_;rintro e w' ⟨rfl,rfl⟩
   go_wp2_with fail;refine CB.out.mono ?_;rintro e w' ⟨rfl,rfl⟩;go_wp2;go_ret;exact⟨by rw[HF.out];rfl,Ext.refl _⟩
  ·have HF:=hid (akm (uD sb hgt));have hlt:¬aP la < aP lb:=z7
   clear ha hb sa sb hl
   go_enter func166,ntmps166
   go_wp2_with fail;refine CA.out.mono ?_;rintro e w' ⟨rfl,rfl⟩
   go_wp2_with fail;refine CB.out.mono ?_;rintro e w' ⟨rfl,rfl⟩;go_wp2;go_ret;exact⟨by rw[HF.out];rfl,Ext.refl _⟩
theorem mR:(prog.info? 34).map (fun i=>(i.zero,i.size,i.bytes))=some (some (.int .u64 0),1,8):=by kernel_rfl
def wv(l:List Nat):List Value:=l.map fun x:Nat=>Value.int .u64 (x:Int)
theorem qz(l:List Nat):(wv l).length=l.length:=by simp[wv]
theorem aib(l:List Nat):∀u∈wv l,u.oneCell'=true:=by
 intro u hu;simp[wv]at hu;obtain⟨a,_,rfl⟩:=hu;rfl
theorem avg{l:List Nat}{j:Nat}{u:Value}(h:(wv l)[j]? =some u):j < l.length/\u= .int .u64 ((gd l j:Nat):Int):=by
 simp only[wv,List.getElem?_map,Option.map_eq_some_iff]at h
 obtain⟨a,ha,rfl⟩:=h;obtain⟨h1,h2⟩:=List.getElem?_eq_some_iff.1 ha
 exact⟨h1,by simp[gd,List.getD_eq_getElem?_getD,ha]⟩
theorem akF(w:World):
  Calls prog 91 #[.slice none 0 0] w fun e w'=>e= .returned (.slice none 0 0)/\w=w':=by
 have hq:=fun w=>Lib.run_eql_slice_nil (P:=prog) w 23 34 none 0 0 0 0 underlying23
 go_enter func91,ntmps91
 go_wp2;go_ret;exact⟨rfl,rfl⟩
theorem aqi(ad:Addr)(n cap:Nat)(l:List Nat)(hl:l.length=n)(hn:n<=4398046511104)(w:World)(hc:∀j u,(wv l)[j]? =some u->w.cell? (ad.add j)=some u):
  Calls prog 91 #[.slice (some ad) n cap] w fun e w'=>(∃v,e= .returned v/\w'.ownsRow w.heap.size 34 1 v n (wv l))/\Ext w w':=by
 have hq:=fun w=>Lib.run_eql_slice_nil (P:=prog) w 23 34 (some ad) n cap 0 0 underlying23
 obtain⟨i0,hi,hz0,hz1,hz2⟩:=info_parts mR;have hown:(w.alloc (.cells #[] 34)).ownsRow w.heap.size 34 1 (.slice (some ⟨w.heap.size,0,none⟩) 0 0) 0 []:=World.ownsRow_made w #[] 0 (Nat.le_refl _) (by simp[maxLen]) rfl
 have hcs:∀j u,(wv l)[j]? =some u->(w.alloc (.cells #[] 34)).cell? (ad.add j)=some u:=fun j u h=>(Ext.alloc w _).cell (hc j u h)
 have hwl:(wv l).length=n*1:=by rw[qz];omega
 have HC:=hid hcs;have HL:=hid hwl;clear hl hc hcs hwl
 go_enter func91,ntmps91
 go_wp2_with (at_builtin;refine wpList_append_own _ rfl (.tmp 5) (.tmp 6) 23 rfl w.heap.size 34 i0 (.int .u64 0) 1 8 underlying23 hi hz0 hz1 hz2 rfl yW _ _ _ rfl hown ad n cap (wv l) rfl HL.out HC.out (aib _) (by unfold maxLen;omega) z7 (by simp) ?_;intro v' w1 hown' hgrow _)
 go_ret;refine⟨⟨_,rfl,?_⟩,?_⟩
 ·simpa using hown'
 ·exact Below.grown (Ext.alloc w _) hgrow (by simp) (fun k hk=>Nat.le_of_eq (Option.some.inj hk))
theorem aa9{w:World}{ad:Addr}{n cap:Nat}{l:List Nat}(h:RN w (.slice (some ad) n cap) l):
  ∀j u,(wv l)[j]? =some u->w.cell? (ad.add j)=some u:=by
 intro j u hu;obtain⟨hj,rfl⟩:=avg hu;obtain⟨oa,cap',hv,h1,h2,h3,h4,h5⟩:=h;simp only[Value.slice.injEq]at hv;obtain⟨rfl,rfl,rfl⟩:=hv;obtain⟨b,o,e,c⟩:=h5 j hj;simp only[Option.some.injEq]at e;subst e;rw[<-c];unfold Addr.add
 split <;> simp_all
theorem als{w:World}{oa:Option Addr}{n cap:Nat}{l:List Nat}(h:RN w (.slice oa n cap) l)(hn:l.length<=4398046511104):
  Calls prog 91 #[.slice oa n cap] w fun e w'=>(∃v,e= .returned v/\w'.ownsRow w.heap.size 34 1 v l.length (wv l))/\Ext w w':=by
 have hl:=h.len;subst hl;cases oa with
 |some ad=>exact aqi ad _ cap l rfl hn w (aa9 h)
 |none=>
  obtain⟨oa,cap',hv,h1,h2,h3,h4,h5⟩:=h;simp only[Value.slice.injEq]at hv;obtain⟨rfl,_,rfl⟩:=hv;have:=h3 rfl;subst this;have h0:l=[]:=List.eq_nil_of_length_eq_zero z7
  subst h0;refine(akF w).mono fun e w' ⟨he,hw⟩=>?_
  subst he hw;exact⟨⟨_,rfl,World.ownsRow_nil _ _ _ _⟩,Ext.refl _⟩
theorem xX{w:World}{base e:Nat}{v:Value}{l:List Nat}(h:w.ownsRow base e 1 v l.length (wv l))(hs:Sm WB l):RN w v l:=by
 rcases h.2 with⟨rfl,h0⟩|⟨g,cap,cur,rfl,hb,hg,hn,hm,hcs,htk⟩
 ·rw[List.eq_nil_of_length_eq_zero h0];exact RN.nil w
 ·refine RN.mk hs hn hm fun i hi=>?_
  have:=h.cellAt i z7
  rw[Nat.zero_add,this];simp[wv,List.getElem?_map,List.getElem?_eq_getElem hi,gd,List.getD_eq_getElem?_getD]
theorem aqd{w:World}{base e:Nat}{oa:Option Addr}{n cap:Nat}{l:List Nat}(h:w.ownsRow base e 1 (.slice oa n cap) n (wv l)){k:Nat}(hk:k<=n)(hk0:0 < k):
  w.ownsRow base e 1 (.slice oa k cap) k (wv (l.take k)):=by
 have hl:=h.1;rw[qz]at hl;rcases h.2 with⟨e1,h0⟩|⟨g,cap',cur,e1,hb,hg,hn,hm,hcs,htk⟩
 ·omega
 ·simp only[Value.slice.injEq,true_and]at e1;obtain⟨rfl,rfl⟩:=e1;refine⟨by rw[qz,List.length_take];omega,.inr ⟨g,cap,cur,rfl,hb,hg,z7,hm,hcs,?_⟩⟩
  have e2:wv (l.take k)=(wv l).take k:=by simp[wv,List.map_take]
  rw[e2,<-htk,List.take_take]
  congr 1;omega
def ON(base:Nat)(w:World)(v:Value)(n:Nat):Prop:=
 ∃l,w.ownsRow base 34 1 v l.length (wv l)/\Sm WB l/\Nrm l/\nval WB l=n/\(l=[]->v= .slice none 0 0)
theorem ON.nn{base:Nat}{w:World}{v:Value}{n:Nat}(h:ON base w v n):NN w v n:=by
 obtain⟨l,h1,h2,h3,h4,h5⟩:=h;exact⟨l,xX h1 h2,h3,h4,h5⟩
theorem ON.zero(base:Nat)(w:World):ON base w (.slice none 0 0) 0:=⟨[],World.ownsRow_nil _ _ _ _,Sm.nil,Nrm.nil,rfl,fun _=>rfl⟩
theorem kX{base:Nat}{w:World}{v:Value}{l:List Nat}(h:w.ownsRow base 34 1 v l.length (wv l))(hs:Sm WB l)(hn:l.length<=4398046511104):
  Calls prog 90 #[v] w fun e w'=>(∃v,e= .returned v/\ON base w' v (nval WB l))/\w=w':=by
 have hrn:=xX h hs;obtain⟨oa,cap,hv,_⟩:=id hrn;subst hv;have hnn:aP l≠0->ON base w (.slice oa (aP l) cap) (nval WB l):=fun h0=>
  ⟨l.take (aP l),by have:=aqd h (dS l) (Nat.pos_of_ne_zero h0);rwa [List.length_take,Nat.min_eq_left (dS l)],hs.take _,sj l,dO l,fun e=>absurd (by have:=congrArg List.length e;rw[List.length_take,Nat.min_eq_left (dS l)]at this;exact this) h0⟩
 have hz:aP l=0->nval WB l=0:=fun h0=>(jV aZ).2 h0
 have HRN:=hid hrn;clear hrn h;by_cases h0:aP l=0
 ·have hb:((aP l:Int)==0)=true:=by simp[h0]
  have HZ:=hid (hz h0);clear h0 hz hnn
  go_enter func90,ntmps90
  go_wp2_with (go_at_call 59;refine(dV HRN.out hn).mono ?_;rintro e w' ⟨rfl,rfl⟩)
  go_ret;exact⟨⟨_,rfl,by rw[HZ.out];exact ON.zero _ _⟩,rfl⟩
 ·have hb:((aP l:Int)==0)=false:=by simp;omega
  have HN:=hid (hnn h0);clear h0 hz hnn
  go_enter func90,ntmps90
  go_wp2_with (go_at_call 59;refine(dV HRN.out hn).mono ?_;rintro e w' ⟨rfl,rfl⟩)
  go_ret;exact⟨⟨_,rfl,HN.out⟩,rfl⟩
theorem ig{w:World}{v:Value}{l:List Nat}(h:RN w v l)(hn:l.length<=4398046511104):
  Calls prog 61 #[v] w fun e w'=>(∃v,e= .returned v/\ON w.heap.size w' v (nval WB l))/\Ext w w':=by
 obtain⟨oa,cap,rfl,_⟩:=id h;have hk:=h.take (dS l);have hkl:(l.take (aP l)).length<=4398046511104:=by rw[List.length_take];omega
 have hv:=dO (B:=WB) l;have hs:=hk.sm;have HV:=hid hv;have HC:=hid (als hk hkl);have HT:=hid (dV h hn);clear hv hk h
 go_enter func61,ntmps61
 go_wp2_with fail;refine HT.out.mono ?_;rintro e w' ⟨rfl,rfl⟩
 go_wp2_with fail;refine HC.out.mono ?_;rintro e w1 ⟨⟨v1,rfl,ho⟩,hx⟩;have HO:=hid ho;clear ho
 go_wp2_with fail;refine(kX HO.out hs hkl).mono ?_;rintro e w' ⟨⟨v2,rfl,ho2⟩,rfl⟩;go_wp2;go_ret;exact⟨⟨_,rfl,by rw[<-HV.out];exact ho2⟩,hx⟩
theorem amV(x:Nat)(hx:x < WB)(w:World):Calls prog 38 #[.int .u64 (x:Int)] w fun e w'=>(∃v,e= .returned v/\ON w.heap.size w' v x)/\Ext w w':=by
 rcases Nat.eq_zero_or_pos x with h0|h0
 ·subst h0;exact(arZ w).mono fun e w' ⟨he,hw⟩=>by subst he hw;exact⟨⟨_,rfl,ON.zero _ _⟩,Ext.refl _⟩
 ·refine(auT x h0 w).mono fun e w' ⟨he,hw⟩=>?_
  subst he hw;refine⟨⟨_,rfl,[x],⟨by simp[qz],.inr ⟨w.heap.size,1,_,rfl,Nat.le_refl _,heap_alloc_new w _,Nat.le_refl _,by simp[maxLen],by simp,by simp[wv]⟩⟩,Sm.nil.cons hx,.inr (by simp;omega),by simp[nval],fun e=>by simp at e⟩,Ext.alloc _ _⟩
def dB(n:Nat):Nat:=n % 18446744073709551616
def gF(n:Nat):Nat:=n / 18446744073709551616
theorem zL(n:Nat):dB n+WB*gF n=n:=by unfold dB gF WB;omega
theorem pQ(n:Nat):dB n < WB:=by unfold dB WB;omega
theorem uf(x y c:Nat)(hc:c<=1)(w:World):
  (callFunc 165 #[.int .u64 (x:Int),.int .u64 (y:Int),.int .u64 (c:Int)]).run prog w=
   .ok (.value (.tuple #[.int .u64 ((dB (x+y+c):Nat):Int),.int .u64 ((gF (x+y+c):Nat):Int)])) w:=by
 rw[run_callFunc_extern func165 (by kernel_rfl) (by kernel_rfl) (by kernel_rfl) (e:=add64Entry) (by kernel_rfl),run_add64 x y c z7 z7 z7 z7]
 simp only[Result.andThen,dB,gF]
 congr 5 <;> omega
theorem ah9(x y c:Nat)(hc:c<=1)(hy:y=0)(w:World):
  (callFunc 165 #[.int .u64 (x:Int),.int .u64 0,.int .u64 (c:Int)]).run prog w=
   .ok (.value (.tuple #[.int .u64 ((dB (x+y+c):Nat):Int),.int .u64 ((gF (x+y+c):Nat):Int)])) w:=by
 subst hy;exact uf x 0 c hc w
theorem kP(x y:Nat)(w:World):
  (callFunc 165 #[.int .u64 (x:Int),.int .u64 (y:Int),.int .u64 0]).run prog w=
   .ok (.value (.tuple #[.int .u64 ((dB (x+y):Nat):Int),.int .u64 ((gF (x+y):Nat):Int)])) w:=uf x y 0 z7 w
theorem mac64{x y g c:Nat}(hx:x < WB)(hy:y < WB)(hg:g < WB)(hc:c < WB):
  gF (x*y)+gF (dB (x*y)+g)+gF (dB (dB (x*y)+g)+c) < WB/\
  dB (dB (dB (x*y)+g)+c)+WB*(gF (x*y)+gF (dB (x*y)+g)+gF (dB (dB (x*y)+g)+c))=g+x*y+c:=by
 have h:=adb hx hy hg hc;have h1:=zL (x*y);have h2:=zL (dB (x*y)+g);have h3:=zL (dB (dB (x*y)+g)+c);generalize x*y=p at*;unfold WB at*;omega
def auW:Array Value->Sem Value:=fun args=>do
 let(x,y,b)<-Extern.MathBitsCarry.three "Sub64" args
 pure (Extern.MathBitsCarry.pair ((x+Extern.MathBitsCarry.m64 - y - b) % Extern.MathBitsCarry.m64) (if x < y+b then 1 else 0))
def ah7(x y b:Nat):Nat:=if x < y+b then 1 else 0
def vo(x y b:Nat):Nat:=(x+18446744073709551616 - y - b) % 18446744073709551616
theorem yL{x y b:Nat}(hx:x < WB)(hy:y < WB)(hb:b<=1):vo x y b+y+b=x+WB*ah7 x y b/\vo x y b < WB/\ah7 x y b<=1:=by
 unfold vo ah7;rw[dn]at*
 split <;> omega
theorem tJ(x y b:Nat)(hb:b<=1)(w:World):
  (callFunc 167 #[.int .u64 (x:Int),.int .u64 (y:Int),.int .u64 (b:Int)]).run prog w=
   .ok (.value (.tuple #[.int .u64 ((vo x y b:Nat):Int),.int .u64 ((ah7 x y b:Nat):Int)])) w:=by
 rw[run_callFunc_extern func167 (by kernel_rfl) (by kernel_rfl) (by kernel_rfl) (e:=auW) (by kernel_rfl)]
 have:b=0\/b=1:=z7
 rcases this with rfl|rfl <;> rfl
theorem aie(x y b:Nat)(hb:b<=1)(hy:y=0)(w:World):
  (callFunc 167 #[.int .u64 (x:Int),.int .u64 0,.int .u64 (b:Int)]).run prog w=
   .ok (.value (.tuple #[.int .u64 ((vo x y b:Nat):Int),.int .u64 ((ah7 x y b:Nat):Int)])) w:=by
 subst hy;exact tJ x 0 b hb w
theorem sK(a:Nat)(ha:a < 18446744073709551616):bits .and .u64 (a:Int) 4294967295=((a % 4294967296:Nat):Int):=by
 have h:=bits_and_u64_nat a 4294967295 ha z7
 have e:a &&& 4294967295=a % 4294967296:=Nat.and_two_pow_sub_one_eq_mod a 32;rw[e]at h;exact h
theorem asz(a:Nat):(a:Int) / 4294967296=((a / 4294967296:Nat):Int):=z7
theorem arU(a b:Nat):(a:Int)*(b:Int)=((a*b:Nat):Int):=(Int.natCast_mul a b).symm
theorem aqS(a b:Nat):(a:Int)+(b:Int)=((a+b:Nat):Int):=(Int.natCast_add a b).symm
theorem gY(a:Nat)(ha:a < 18446744073709551616):IntKind.u64.wrap (a:Int)=(a:Int):=by rw[IntKind.wrap_u64];omega
theorem oG(a:Nat):IntKind.u64.wrap (a:Int)=((a % 18446744073709551616:Nat):Int):=by rw[IntKind.wrap_u64];omega
theorem ap9(x1 x0 y1 y0 K:Nat):(x1*K+x0)*(y1*K+y0)=x1*y1*(K*K)+(x1*y0+x0*y1)*K+x0*y0:=by grind
theorem qh{a b:Nat}(ha:a<=4294967295)(hb:b<=4294967295):a*b<=18446744065119617025:=Nat.mul_le_mul ha hb
theorem bt_hi(x y:Nat)(hx:x < 18446744073709551616)(hy:y < 18446744073709551616):
  (x % 4294967296)*(y % 4294967296) < 18446744073709551616/\
  (x / 4294967296)*(y % 4294967296)+(x % 4294967296)*(y % 4294967296) / 4294967296 < 18446744073709551616/\
  ((x / 4294967296)*(y % 4294967296)+(x % 4294967296)*(y % 4294967296) / 4294967296) % 4294967296+(x % 4294967296)*(y / 4294967296) < 18446744073709551616/\
  (x / 4294967296)*(y / 4294967296)+((x / 4294967296)*(y % 4294967296)+(x % 4294967296)*(y % 4294967296) / 4294967296) / 4294967296+
   (((x / 4294967296)*(y % 4294967296)+(x % 4294967296)*(y % 4294967296) / 4294967296) % 4294967296+(x % 4294967296)*(y / 4294967296)) / 4294967296=x*y / 18446744073709551616:=by
 have e:x*y=(x / 4294967296)*(y / 4294967296)*(4294967296*4294967296)+((x / 4294967296)*(y % 4294967296)+(x % 4294967296)*(y / 4294967296))*4294967296+(x % 4294967296)*(y % 4294967296):=by
  rw[<-ap9,Nat.div_add_mod' x 4294967296,Nat.div_add_mod' y 4294967296]
 have ha:=qh (a:=x / 4294967296) (b:=y / 4294967296) z7 z7
 have hb:=qh (a:=x / 4294967296) (b:=y % 4294967296) z7 z7
 have hc:=qh (a:=x % 4294967296) (b:=y / 4294967296) z7 z7
 have hd:=qh (a:=x % 4294967296) (b:=y % 4294967296) z7 z7
 rw[e];generalize (x / 4294967296)*(y / 4294967296)=a at*;generalize (x / 4294967296)*(y % 4294967296)=b at*;generalize (x % 4294967296)*(y / 4294967296)=c at*;generalize (x % 4294967296)*(y % 4294967296)=d at*;refine⟨z7,z7,z7,z7⟩
theorem tQ(x y:Nat)(hx:x < WB)(hy:y < WB)(w:World):
  Calls prog 302 #[.int .u64 (x:Int),.int .u64 (y:Int)] w fun e w'=>e= .returned (.tuple #[.int .u64 ((gF (x*y):Nat):Int),.int .u64 ((dB (x*y):Nat):Int)])/\w=w':=by
 unfold WB at hx hy;unfold gF dB;obtain⟨bd,bt,bw,hhi⟩:=bt_hi x y hx hy;have ba:=qh (a:=x / 4294967296) (b:=y / 4294967296) z7 z7
 have bb:=qh (a:=x / 4294967296) (b:=y % 4294967296) z7 z7
 have bc:=qh (a:=x % 4294967296) (b:=y / 4294967296) z7 z7
 have ba':x / 4294967296*(y / 4294967296) < 18446744073709551616:=z7
 have bb':x / 4294967296*(y % 4294967296) < 18446744073709551616:=z7
 have bc':x % 4294967296*(y / 4294967296) < 18446744073709551616:=z7
 have bh1:x / 4294967296*(y / 4294967296)+(x / 4294967296*(y % 4294967296)+x % 4294967296*(y % 4294967296) / 4294967296) / 4294967296 < 18446744073709551616:=z7
 have bh:x / 4294967296*(y / 4294967296)+(x / 4294967296*(y % 4294967296)+x % 4294967296*(y % 4294967296) / 4294967296) / 4294967296+((x / 4294967296*(y % 4294967296)+x % 4294967296*(y % 4294967296) / 4294967296) % 4294967296+x % 4294967296*(y / 4294967296)) / 4294967296 < 18446744073709551616:=z7
 go_enter func302,ntmps302
 go_wp2;simp only[sK x hx,sK y hy,asz,arU,aqS,gY _ bd,gY _ bb',gY _ bt,sK _ bt,gY _ bc',gY _ bw,gY _ ba',gY _ bh1,gY _ bh,oG (x*y)];rw[hhi]
 go_ret2
 exact⟨rfl,rfl⟩
theorem xZ{P:Program}{w:World}{ops:Array Oper}{rest:List Oper}{o:Oper}{a:Act}{Q:Exit->Act->World->Prop}
  (hg:o.guard=none) (t:TypeId) (s:ByteArray) (k:Nat) (hop:o.op=Op.index t (.const (.string s)) (.tmp k)) (hs:s=Lib.len8tab) (ht:P.underlying t=some .string)
  (y:Nat) (hy:y < 256) (hk:a.eval (.tmp k)= .int .u8 (y:Int)) (hK:wpList P ops Q rest (a.put o.dst (.int .u8 ((bitLen y:Nat):Int))) w):
  wpList P ops Q (o::rest) a w:=by
 subst hs;have h1:=Lib.run_index_len8tab (P:=P) (w:=w) t .u8 (y:Int) ht z7 z7
 have h2:Lib.len8 (y:Int)=((bitLen y:Nat):Int):=by
  have:∀n:Fin 256,Lib.len8 (n.val:Int)=(bitLen n.val:Int):=by decide+kernel
  exact this ⟨y,hy⟩
 refine wpList_plain hg fun K hK'=>?_
 unfold Oper.wp;have h3:a.eval (.const (.string Lib.len8tab))= .string Lib.len8tab:=rfl;simp only[execOp,hop,h3,hk];rw[Sem.run_bind,h1,h2];exact hK' _ _ hK
def uh(x y n m:Nat):Prop:=bitLen x=n+bitLen y/\y < m/\n<=64
theorem uh.next{x y n m:Nat}(h:uh x y n m)(b:Nat)(hb:n+b<=64)(hb0:2 ^ b<=y)(m':Nat)(hm:y / 2 ^ b < m'):uh x (y / 2 ^ b) (n+b) m':=
 ⟨by rw[h.1,bitLen_shift y b (Nat.ne_of_gt (Nat.div_pos hb0 (Nat.two_pow_pos _)))];omega,hm,hb⟩
theorem akK(x:Nat):(x:Int) / 4294967296=((x / 2 ^ 32:Nat):Int):=z7
theorem alG(x:Nat):(x:Int) / 65536=((x / 2 ^ 16:Nat):Int):=z7
theorem apt(x:Nat):(x:Int) / 256=((x / 2 ^ 8:Nat):Int):=z7
theorem ac6(x:Nat)(hx:x < WB)(w:World):
  Calls prog 60 #[.int .u64 (x:Int)] w fun e w'=>e= .returned (.int .i64 (bitLen x:Nat))/\w=w':=by
 have HX:=hid hx;clear hx
 go_enter func60,ntmps60
 go_upto_if 4 with fail
 go_cut [0,2] (fun s0 s2 wx=>∃y n:Nat,s0= .int .u64 y/\s2= .int .i64 n/\Hid (uh x y n 4294967296/\n<=32)/\w=wx)
 case first=>
  by_cases h:4294967296<=x
  ·have hd:decide ((4294967296:Int)<=(x:Int))=true:=by simp;omega
   have h0:uh x x 0 (x+1):=⟨z7,z7,z7⟩
   have hr:=h0.next 32 z7 h 4294967296 (by have:=HX.out;rw[dn]at this;omega)
   have HR:Hid (uh x (x / 2 ^ 32) 32 4294967296/\32<=32):=hid ⟨hr,z7⟩
   clear hr h h0;simp only[hd];clear hd;go_wp2
   go_meet
   exact⟨_,32,by rw[akK],rfl,HR,rfl⟩
  ·have hd:decide ((4294967296:Int)<=(x:Int))=false:=by simp;omega
   have hr:uh x x 0 4294967296:=⟨z7,z7,z7⟩
   have HR:Hid (uh x x 0 4294967296/\0<=32):=hid ⟨hr,z7⟩
   clear hr h;simp only[hd];clear hd;go_wp2
   go_meet
   exact⟨x,0,rfl,rfl,HR,rfl⟩
 case rest=>
  obtain⟨y,n,rfl,rfl,hl,rfl⟩:=hcut;have hn32:n<=32:=hl.out.2
  go_upto_if 8 with fail
  go_cut [0,2] (fun s0 s2 wx=>∃y n:Nat,s0= .int .u64 y/\s2= .int .i64 n/\Hid (uh x y n 65536/\n<=48)/\w=wx)
  case first=>
   by_cases h:65536<=y
   ·have hd:decide ((65536:Int)<=(y:Int))=true:=by simp;omega
    have hr:=hl.out.1.next 16 z7 h 65536 (by have:=hl.out.1.2.1;omega)
    have HR:Hid (uh x (y / 2 ^ 16) (n+16) 65536/\n+16<=48):=hid ⟨hr,z7⟩
    clear hr h;simp only[hd];clear hd;go_wp2
    go_meet
    exact⟨_,n+16,by rw[alG],by go_num,HR,rfl⟩
   ·have hd:decide ((65536:Int)<=(y:Int))=false:=by simp;omega
    have hr:uh x y n 65536:=⟨hl.out.1.1,z7,z7⟩
    have HR:Hid (uh x y n 65536/\n<=48):=hid ⟨hr,z7⟩
    clear hr h;simp only[hd];clear hd;go_wp2
    go_meet
    exact⟨y,n,rfl,rfl,HR,rfl⟩
  case rest=>
   clear hl hn32;obtain⟨y,n,rfl,rfl,hl,rfl⟩:=hcut;have hn32:n<=48:=hl.out.2
   go_upto_if 14 with fail
   go_cut [0,2] (fun s0 s2 wx=>∃y n:Nat,s0= .int .u64 y/\s2= .int .i64 n/\Hid (uh x y n 256/\n<=56)/\w=wx)
   case first=>
    by_cases h:256<=y
    ·have hd:decide ((256:Int)<=(y:Int))=true:=by simp;omega
     have hr:=hl.out.1.next 8 z7 h 256 (by have:=hl.out.1.2.1;omega)
     have HR:Hid (uh x (y / 2 ^ 8) (n+8) 256/\n+8<=56):=hid ⟨hr,z7⟩
     clear hr h;simp only[hd];clear hd;go_wp2
     go_meet
     exact⟨_,n+8,by rw[apt],by go_num,HR,rfl⟩
    ·have hd:decide ((256:Int)<=(y:Int))=false:=by simp;omega
     have hr:uh x y n 256:=⟨hl.out.1.1,z7,z7⟩
     have HR:Hid (uh x y n 256/\n<=56):=hid ⟨hr,z7⟩
     clear hr h;simp only[hd];clear hd;go_wp2
     go_meet
     exact⟨y,n,rfl,rfl,HR,rfl⟩
   case rest=>
    clear hl hn32;obtain⟨y,n,rfl,rfl,hl,rfl⟩:=hcut;have hn32:n<=56:=hl.out.2;have hy:y<=255:=by have:=hl.out.1.2.1;omega
    have hb8:bitLen y<=8:=bitLen_le8 y z7
    go_wp2_with (with_reducible (refine xZ rfl _ _ 21 rfl (by kernel_rfl) rfl y z7 rfl ?_))
    go_ret;exact⟨by rw[hl.out.1.1];simp,rfl⟩
theorem bitLen_le64{x:Nat}(hx:x < WB):bitLen x<=64:=by
 unfold bitLen
 split
 ·omega
 ·rename_i h0;have:=(Nat.log2_lt h0).2 (show x < 2 ^ 64 by rw[dn]at hx;omega)
  omega
theorem nK(x:Nat)(hx:x < WB)(w:World):
  Calls prog 170 #[.int .u64 (x:Int)] w fun e w'=>e= .returned (.int .i64 ((64 - bitLen x:Nat):Int))/\w=w':=by
 have hl:=bitLen_le64 hx;have HL:=hid (ac6 x hx w);clear hx
 go_enter func170,ntmps170
 go_wp2_with fail;refine HL.out.mono ?_;rintro e w' ⟨rfl,rfl⟩;go_wp2;go_ret;exact⟨congrArg Ending.returned (by go_num),rfl⟩
def Arr(base:Nat)(w:World)(g:Nat)(l:List Nat):Prop:=
 w.ownsRow base 34 1 (.slice (some ⟨g,0,none⟩) l.length l.length) l.length (wv l)
theorem Arr.cell{base g:Nat}{w:World}{l:List Nat}(h:Arr base w g l){i:Nat}(hi:i < l.length):w.cell? ⟨g,i,none⟩=some (.int .u64 ((gd l i:Nat):Int)):=by
 rw[World.ownsRow.cellAt h i z7]
 simp[wv,List.getElem?_map,List.getElem?_eq_getElem hi,gd,List.getD_eq_getElem?_getD]
theorem Arr.frozen{base g:Nat}{w:World}{l:List Nat}(h:Arr base w g l)(i:Nat):w.frozen? ⟨g,i,none⟩=false:=World.ownsRow.frozenAt h i
theorem Arr.store{base g:Nat}{w:World}{l:List Nat}(h:Arr base w g l)(i x:Nat):Arr base (w.setCell ⟨g,i,none⟩ (.int .u64 (x:Int))) g (l.set i x):=by
 have:=(World.ownsRow.stored h i (.int .u64 (x:Int))).1;have e:(wv l).set i (.int .u64 (x:Int))=wv (l.set i x):=by simp[wv,List.map_set]
 rw[e]at this;simpa[Arr]using this
theorem Arr.base{base g:Nat}{w:World}{l:List Nat}(h:Arr base w g l):base<=g/\g < w.heap.size:=World.ownsRow.lt h g rfl
theorem Arr.ext{base g:Nat}{w w':World}{l:List Nat}(h:Arr base w g l)(he:Ext w w'):Arr base w' g l:=by
 refine World.ownsRow.kept h (w':=w') (row:=none) ⟨he.os,he.tape,he.output,he.size,fun k hk _=>he.block hk⟩ (.inr (by simp[Value.ownBlock]))
theorem xI{r:List Nat}{m x:Nat}:(r++List.replicate (m+1) 0).set r.length x=(r++[x])++List.replicate m 0:=by
 rw[List.replicate_succ,List.set_append_right _ _ (Nat.le_refl _),Nat.sub_self,List.set_cons_zero,List.append_assoc];rfl
theorem nJ(n:Nat):(madeCells (Value.int .u64 0).cells (n*1)).toList=wv (List.replicate n 0):=by
 rw[Nat.mul_one];show (madeCells #[Value.int .u64 0] n).toList=_;rw[toList_madeCells_one];simp[wv]
theorem Arr.own{base g:Nat}{w:World}{l:List Nat}(h:Arr base w g l):w.ownsRow base 34 1 (.slice (some ⟨g,0,none⟩) l.length l.length) l.length (wv l):=h
def ni(la lb:List Nat)(k:Nat)(r:List Nat)(c:Nat):Prop:=iZ WB la lb k r c
theorem ni.start(la lb:List Nat):ni la lb 0 [] 0:=iZ.start _ _ _
theorem aaF{x y c:Nat}(hx:x < WB)(hy:y < WB)(hc:c<=1):gF (x+y+c)<=1:=by
 unfold gF;rw[dn]at*;omega
theorem ni.step{la lb:List Nat}{k c:Nat}{r:List Nat}(h:ni la lb k r c)(ha:Sm WB la)(hb:Sm WB lb):
  ni la lb (k+1) (r++[dB (gd la k+gd lb k+c)]) (gF (gd la k+gd lb k+c)):=
 iZ.step h (pQ _) (aaF (jg ha k) (jg hb k) h.2.2.1) (zL _)
theorem ni.done{la lb:List Nat}{n c:Nat}{r:List Nat}(h:ni la lb n r c)(ha:nval WB (la.take n)=nval WB la)(hb:nval WB (lb.take n)=nval WB lb):
  Sm WB (r++[c])/\nval WB (r++[c])=nval WB la+nval WB lb:=iZ.done h oo ha hb
theorem wm{w:World}{va vb:Value}{la lb:List Nat}(ha:RN w va la)(hb:RN w vb lb)(hna:la.length<=1099511627775)(hnb:lb.length<=1099511627775):
  Calls prog 79 #[va,vb] w fun e w'=>(∃v,e= .returned v/\ON w.heap.size w' v (nval WB la+nval WB lb))/\Ext w w':=by
 obtain⟨oa,ca,rfl,_⟩:=id ha;obtain⟨ob,cb,rfl,_⟩:=id hb;have CA:=hid (dV ha z7)
 have CB:=hid (dV hb z7)
 -- the longer one,the shorter one
 obtain⟨ox,cx,lx,oy,cy,ly,hx,hy,hxy,hlx,hcase,hsum⟩:∃ox cx lx oy cy ly,RN w (.slice ox (aP lx) cx) (lx.take (aP lx))/\RN w (.slice oy (aP ly) cy) (ly.take (aP ly))/\aP ly<=aP lx/\aP lx<=1099511627775/\
   (aP la < aP lb/\ox=ob/\cx=cb/\lx=lb/\oy=oa/\cy=ca/\ly=la\/¬aP la < aP lb/\ox=oa/\cx=ca/\lx=la/\oy=ob/\cy=cb/\ly=lb)/\nval WB lx+nval WB ly=nval WB la+nval WB lb:=by
  have ka:=dS la;have kb:=dS lb;by_cases h:aP la < aP lb
  ·exact⟨ob,cb,lb,oa,ca,la,hb.take kb,ha.take ka,z7,z7,.inl ⟨h,rfl,rfl,rfl,rfl,rfl,rfl⟩,z7⟩
  ·exact⟨oa,ca,la,ob,cb,lb,ha.take ka,hb.take kb,z7,z7,.inr ⟨h,rfl,rfl,rfl,rfl,rfl,rfl⟩,z7⟩
 obtain⟨i0,hi,hz0,hz1,hz2⟩:=info_parts mR;have lx_sm:Hid (Sm WB lx):=hid (by rcases hcase with⟨_,_,_,rfl,_⟩|⟨_,_,_,rfl,_⟩ <;> first|exact hb.sm|exact ha.sm)
 have ly_sm:Hid (Sm WB ly):=hid (by rcases hcase with⟨_,_,_,_,_,_,rfl⟩|⟨_,_,_,_,_,_,rfl⟩ <;> first|exact ha.sm|exact hb.sm)
 have HS:=hid hsum;have HC:=hid hcase;clear hsum hcase ha hb hna hnb
 go_enter func79,ntmps79
 go_wp2_with fail;refine CA.out.mono ?_;rintro e w' ⟨rfl,rfl⟩
 go_wp2_with fail;refine CB.out.mono ?_;rintro e w' ⟨rfl,rfl⟩
 go_upto_if 17 with fail
 go_cut [0,1] (fun s0 s1 wx=>s0= .slice ox (aP lx) cx/\s1= .slice oy (aP ly) cy/\w=wx)
 case first=>
  rcases HC.out with⟨hlt,rfl,rfl,rfl,rfl,rfl,rfl⟩|⟨hlt,rfl,rfl,rfl,rfl,rfl,rfl⟩;all_goals
   go_wp2
   go_meet
   exact⟨rfl,rfl,rfl⟩
 case rest=>
  obtain⟨rfl,rfl,rfl⟩:=hcut;have hbytes:i0.bytes*(aP lx+1)<=281474976710656:=by rw[hz2];omega
  go_wp2_with (at_make;refine wpList_make_full _ rfl (.tmp 22) (.tmp 22) 23 rfl w.heap.size 34 i0 (.int .u64 0) 1 underlying23 hi hz0 hz1 .i64 .i64 _ _ (aP lx+1) rfl rfl z7 z7 hbytes (by unfold maxLen;omega) (Nat.le_refl _) ?_;intro w1 hown hgrow)
  have hA:Arr w.heap.size w1 w.heap.size (List.replicate (aP lx+1) 0):=by
   rw[nJ]at hown;unfold Arr;rw[List.length_replicate];exact hown
  have hE:Ext w w1:=Below.grown (Below.refl _ _) hgrow (Nat.le_refl _) (fun k hk=>by cases hk)
  clear hown hgrow
  go_loopw [6,26] (fun c k wr=>∃(i:Nat) (r:List Nat) (cy:Nat),i<=aP lx/\k= .int .i64 i/\c= .int .u64 cy/\ni lx ly i r cy/\Arr w.heap.size wr w.heap.size (r++List.replicate (aP lx+1 - i) 0)/\Ext w wr) (fun _ k _=>aP lx - (intOf k).toNat)
  case atStart=>exact⟨0,[],0,z7,rfl,rfl,ni.start _ _,hA,hE⟩
  case round=>
   obtain⟨i,r,cc,hi',rfl,rfl,hinv,hAr,hEr⟩:=hrel;have hlen:(r++List.replicate (aP lx+1 - i) 0).length=aP lx+1:=by have:=hinv.1;simp;omega
   have hcy:=hinv.2.2.1;by_cases hilt:i < aP lx
   ·obtain⟨bx,ofx,rfl,hcx⟩:∃b o,ox=some ⟨b,o,none⟩/\wr.cell? ⟨b,o+i,none⟩=some (.int .u64 ((gd lx i:Nat):Int)):=by
     obtain⟨oa',cap',hv,h1,h2,h3,h4,h5⟩:=hx;simp only[Value.slice.injEq]at hv;obtain⟨rfl,e2,rfl⟩:=hv;obtain⟨b,o,e,c⟩:=h5 i z7
     rw[pI hilt]at c;exact⟨b,o,e,hEr.cell c⟩
    have hout:=hAr.cell (i:=i) z7
    have hfz:=hAr.frozen i;have hst:=hAr.store i (dB (gd lx i+gd ly i+cc));have hnew:(r++List.replicate (aP lx+1 - i) 0).set i (dB (gd lx i+gd ly i+cc))=(r++[dB (gd lx i+gd ly i+cc)])++List.replicate (aP lx+1 - (i+1)) 0:=by
     have e1:aP lx+1 - i=(aP lx+1 - (i+1))+1:=z7
     rw[e1,<-hinv.1];exact xI
    rw[hnew]at hst;have hstep:=hinv.step (lx_sm.out) (ly_sm.out);have hgr:Ext w (wr.setCell ⟨w.heap.size,i,none⟩ (.int .u64 ((dB (gd lx i+gd ly i+cc):Nat):Int))):=Below.setCell hEr (Nat.le_refl _) _;have HST:=hid hst;have HSTEP:=hid hstep;have HGR:=hid hgr;clear hst hstep hgr hnew hlen hinv hAr;by_cases hily:i < aP ly
    ·obtain⟨by',ofy,rfl,hcyy⟩:∃b o,oy=some ⟨b,o,none⟩/\wr.cell? ⟨b,o+i,none⟩=some (.int .u64 ((gd ly i:Nat):Int)):=by
      obtain⟨oa',cap',hv,h1,h2,h3,h4,h5⟩:=hy;simp only[Value.slice.injEq]at hv;obtain⟨rfl,e2,rfl⟩:=hv;obtain⟨b,o,e,c⟩:=h5 i z7
      rw[pI hily]at c;exact⟨b,o,e,hEr.cell c⟩
     have hadd:=uf (gd lx i) (gd ly i) cc hcy;clear hx hy hEr;go_wp2
     go_roundw
     case rel=>exact⟨i+1,_,_,z7,by go_num,rfl,HSTEP.out,HST.out,HGR.out⟩
     case measure=>simp[intOf];omega
    ·have hadd:=ah9 (gd lx i) (gd ly i) cc hcy (j6 z7)
     clear hx hy hEr;go_wp2
     go_roundw
     case rel=>exact⟨i+1,_,_,z7,by go_num,rfl,HSTEP.out,HST.out,HGR.out⟩
     case measure=>simp[intOf];omega
   ·have hin:i=aP lx:=z7
    subst hin;have hdone:=hinv.done (dO lx) (jK fun j hj=>j6 z7)
    have hout:=hAr.cell (i:=aP lx) z7
    have hfz:=hAr.frozen (aP lx);have hst:=hAr.store (aP lx) cc;have e0:aP lx+1 - aP lx=0+1:=z7
    have hnew:(r++List.replicate (aP lx+1 - aP lx) 0).set (aP lx) cc=r++[cc]:=by
     rw[e0];have:=xI (r:=r) (m:=0) (x:=cc);rw[hinv.1]at this;simpa using this
    rw[hnew]at hst;have hrl:(r++[cc]).length=aP lx+1:=by simp[hinv.1]
    have hno:=kX hst.own hdone.1 z7
    rw[hrl]at hno;have hgr:Ext w (wr.setCell ⟨w.heap.size,aP lx,none⟩ (.int .u64 (cc:Int))):=Below.setCell hEr (Nat.le_refl _) _;have HNO:=hid hno;have HD:=hid hdone.2;have HGR:=hid hgr;clear hst hdone hgr hnew hlen hinv hAr hno hrl hx hy hEr e0
    go_wp2_with fail;refine HNO.out.mono ?_;rintro e w' ⟨⟨v,rfl,ho⟩,rfl⟩;go_wp2;go_ret;exact⟨⟨_,rfl,by rw[<-HS.out,<-HD.out];exact ho⟩,HGR.out⟩
theorem vV{w wr:World}{ox:Option Addr}{n cx:Nat}{lx:List Nat}(hx:RN w (.slice ox n cx) (lx.take n))(hE:Ext w wr){i:Nat}(hi:i < n):
  ∃b o,ox=some ⟨b,o,none⟩/\wr.cell? ⟨b,o+i,none⟩=some (.int .u64 ((gd lx i:Nat):Int)):=by
 have hl:=hx.len;obtain⟨oa',cap',hv,h1,h2,h3,h4,h5⟩:=hx;simp only[Value.slice.injEq]at hv;obtain⟨rfl,e2,rfl⟩:=hv;obtain⟨b,o,e,c⟩:=h5 i z7
 rw[pI hi]at c;exact⟨b,o,e,hE.cell c⟩
def pG(la lb:List Nat)(k:Nat)(r:List Nat)(c:Nat):Prop:=jY WB la lb k r c
theorem pG.start(la lb:List Nat):pG la lb 0 [] 0:=jY.start _ _ _
theorem pG.step{la lb:List Nat}{k c:Nat}{r:List Nat}(h:pG la lb k r c)(ha:Sm WB la)(hb:Sm WB lb):
  pG la lb (k+1) (r++[vo (gd la k) (gd lb k) c]) (ah7 (gd la k) (gd lb k) c):=by
 have hs:=yL (jg ha k) (jg hb k) h.2.2.1;exact jY.step h hs.2.1 hs.2.2 hs.1
theorem pG.done{la lb:List Nat}{n c:Nat}{r:List Nat}(h:pG la lb n r c)(ha:nval WB (la.take n)=nval WB la)(hb:nval WB (lb.take n)=nval WB lb)(hle:nval WB lb<=nval WB la):
  nval WB r=nval WB la - nval WB lb:=jY.done h ha hb hle
theorem al3{la lb:List Nat}(hb:Sm WB lb)(h:nval WB la<=nval WB lb):aP la<=aP lb:=by
 rcases Nat.lt_or_ge (aP lb) (aP la)with h1|h1
 ·have:=uD hb h1;omega
 ·exact h1
theorem aoO{w:World}{va vb:Value}{la lb:List Nat}(ha:RN w va la)(hb:RN w vb lb)(hna:la.length<=1099511627775)(hnb:lb.length<=1099511627775)(hlt:nval WB la < nval WB lb):
  Calls prog 80 #[va,vb] w fun e w'=>e= .returned (.tuple #[.slice none 0 0,.bool false])/\Ext w w':=by
 have hc:=aak ha hb z7 z7
 rw[zV hlt]at hc;have HC:=hid hc;clear ha hb hc hlt hna hnb
 go_enter func80,ntmps80
 go_wp2_with fail;refine HC.out.mono ?_;rintro e w1 ⟨rfl,hx⟩;go_wp2
 go_ret2
 exact⟨rfl,hx⟩
theorem aov{w:World}{va vb:Value}{la lb:List Nat}(ha:RN w va la)(hb:RN w vb lb)(hna:la.length<=1099511627775)(hnb:lb.length<=1099511627775)(hle:nval WB lb<=nval WB la):
  Calls prog 80 #[va,vb] w fun e w'=>(∃v,e= .returned (.tuple #[v,.bool true])/\ON w.heap.size w' v (nval WB la - nval WB lb))/\Ext w w':=by
 have HC:=hid (aak ha hb z7 z7)
 have hcge:¬kJ (nval WB la) (nval WB lb) < 0:=by unfold kJ;rw[if_neg z7];split <;> omega
 obtain⟨oa,ca,rfl,_⟩:=id ha;obtain⟨ob,cb,rfl,_⟩:=id hb;have htl:=al3 ha.sm hle;have ka:=dS la;have kb:=dS lb;have sa:=hid ha.sm;have sb:=hid hb.sm;have HLE:=hid hle;have HA:=hid ha;have HB:=hid hb;obtain⟨i0,hi,hz0,hz1,hz2⟩:=info_parts mR;clear ha hb hle
 go_enter func80,ntmps80
 go_wp2_with fail;refine HC.out.mono ?_;rintro e w1 ⟨rfl,hE1⟩;have ha1:=HA.out.ext hE1;have hb1:=HB.out.ext hE1;have CA:=hid (dV ha1 z7)
 have CB:=hid (dV hb1 z7)
 have hx:=ha1.take ka;have hy:=hb1.take kb;clear ha1 hb1
 go_wp2_with fail;refine CA.out.mono ?_;rintro e w' ⟨rfl,rfl⟩
 go_wp2_with fail;refine CB.out.mono ?_;rintro e w' ⟨rfl,rfl⟩;have hbytes:i0.bytes*(aP la)<=281474976710656:=by rw[hz2];omega
 go_wp2_with (at_make;refine wpList_make_full _ rfl (.tmp 19) (.tmp 19) 23 rfl w.heap.size 34 i0 (.int .u64 0) 1 underlying23 hi hz0 hz1 .i64 .i64 _ _ (aP la) rfl rfl z7 z7 hbytes (by unfold maxLen;omega) hE1.size ?_;intro w2 hown hgrow)
 obtain⟨g,hg⟩:∃g,g=w1.heap.size:=⟨_,rfl⟩;have hgw:w.heap.size<=g:=by have:=hE1.size;omega
 have hA:Arr w.heap.size w2 g (List.replicate (aP la) 0):=by
  rw[nJ]at hown;unfold Arr;rw[List.length_replicate,hg];exact hown
 have hE:Ext w1 w2:=Below.grown (Below.refl _ _) hgrow (Nat.le_refl _) (fun k hk=>by cases hk)
 have hE2:=hE1.trans hE;rw[<-hg];have HG:=hid hg;clear hown hgrow hg
 go_loopw [7,23] (fun c k wr=>∃(i:Nat) (r:List Nat) (cy:Nat),i<=aP la/\k= .int .i64 i/\c= .int .u64 cy/\pG la lb i r cy/\Arr w.heap.size wr g (r++List.replicate (aP la - i) 0)/\Ext w1 wr) (fun _ k _=>aP la - (intOf k).toNat)
 case atStart=>exact⟨0,[],0,z7,rfl,rfl,pG.start _ _,hA,hE⟩
 case round=>
  obtain⟨i,r,cc,hi',rfl,rfl,hinv,hAr,hEr⟩:=hrel;have hlen:(r++List.replicate (aP la - i) 0).length=aP la:=by have:=hinv.1;simp;omega
  have hcy:=hinv.2.2.1;by_cases hilt:i < aP la
  ·obtain⟨bx,ofx,rfl,hcx⟩:=vV hx hEr hilt;have hout:=hAr.cell (i:=i) z7
   have hfz:=hAr.frozen i;have hst:=hAr.store i (vo (gd la i) (gd lb i) cc);have hnew:(r++List.replicate (aP la - i) 0).set i (vo (gd la i) (gd lb i) cc)=(r++[vo (gd la i) (gd lb i) cc])++List.replicate (aP la - (i+1)) 0:=by
    have e1:aP la - i=(aP la - (i+1))+1:=z7
    rw[e1,<-hinv.1];exact xI
   rw[hnew]at hst;have hstep:=hinv.step sa.out sb.out;have hgr:Ext w1 (wr.setCell ⟨g,i,none⟩ (.int .u64 ((vo (gd la i) (gd lb i) cc:Nat):Int))):=Below.setCell hEr (by have:=HG.out;simp;omega) _
   have HST:=hid hst;have HSTEP:=hid hstep;have HGR:=hid hgr;clear hst hstep hgr hnew hlen hinv hAr;by_cases hily:i < aP lb
   ·obtain⟨by',ofy,rfl,hcyy⟩:=vV hy hEr hily;have hadd:=tJ (gd la i) (gd lb i) cc hcy;clear hx hy hEr;go_wp2
    go_roundw
    case rel=>exact⟨i+1,_,_,z7,by go_num,rfl,HSTEP.out,HST.out,HGR.out⟩
    case measure=>simp[intOf];omega
   ·have hadd:=aie (gd la i) (gd lb i) cc hcy (j6 z7)
    clear hx hy hEr;go_wp2
    go_roundw
    case rel=>exact⟨i+1,_,_,z7,by go_num,rfl,HSTEP.out,HST.out,HGR.out⟩
    case measure=>simp[intOf];omega
  ·have hin:i=aP la:=z7
   subst hin;have hdone:=hinv.done (dO la) (jK fun j hj=>j6 z7) HLE.out
   have hnew:r++List.replicate (aP la - aP la) 0=r:=by simp
   rw[hnew]at hAr;have hno:=kX hAr.own hinv.2.1 (by have:=hinv.1;omega)
   rw[hinv.1]at hno;have HNO:=hid hno;have HD:=hid hdone;have HGR:=hid (hE1.trans hEr);clear hdone hnew hlen hinv hAr hno hx hy hEr
   go_wp2_with fail;refine HNO.out.mono ?_;rintro e w' ⟨⟨v,rfl,ho⟩,rfl⟩;go_wp2
   go_ret2
   exact⟨⟨_,rfl,by rw[<-HD.out];exact ho⟩,HGR.out⟩
theorem oD{w wr:World}{oa:Option Addr}{n ca g:Nat}{la:List Nat}(ha:RN w (.slice oa n ca) la)(hE:w.grownBy wr (some g))(hg:∀b o,oa=some ⟨b,o,none⟩->b≠g){i:Nat}(hi:i < n):
  ∃b o,oa=some ⟨b,o,none⟩/\wr.cell? ⟨b,o+i,none⟩=some (.int .u64 ((gd la i:Nat):Int))/\b≠g:=by
 have hl:=ha.len;obtain⟨oa',cap',hv,h1,h2,h3,h4,h5⟩:=ha;simp only[Value.slice.injEq]at hv;obtain⟨rfl,e2,rfl⟩:=hv;obtain⟨b,o,e,c⟩:=h5 i z7
 exact⟨b,o,e,hE.cell c (by simpa using hg b o e),hg b o e⟩
theorem iB{a b c:World}{row:Option Nat}(h:a.grownBy b row)(k:b.grownBy c row):a.grownBy c row:=
 ⟨k.os.trans h.os,k.tape.trans h.tape,k.output.trans h.output,Nat.le_trans h.size k.size,fun i hi hr=>(k.block i (Nat.lt_of_lt_of_le hi h.size) hr).trans (h.block i hi hr)⟩
theorem jR(w:World)(g i:Nat)(v:Value):w.grownBy (w.setCell ⟨g,i,none⟩ v) (some g):=
 ⟨rfl,rfl,rfl,by simp[World.setCell],fun k _ hk=>Below.heap_setCell _ _ _ _ (by intro e;exact hk (by rw[e]))⟩
theorem asu{base g o x ca:Nat}{w:World}{L la:List Nat}{oa:Option Addr}(hA:Arr base w g L)(ha:RN w (.slice oa la.length ca) la)(hg:0 < la.length->∀b o,oa=some ⟨b,o,none⟩->b≠g)
  (hx:x < WB) (hL:Sm WB L) (ho:o+la.length < L.length) (hn:L.length<=4398046511104) (h0:gd L (o+la.length)=0):
  Calls prog 174 #[.slice (some ⟨g,o,none⟩) (L.length - o) (L.length - o),.slice oa la.length ca,.int .u64 (x:Int)] w fun e w'=>e= .returned (.tuple #[])/\
   (∃r,r.length=la.length+1/\Arr base w' g (patch L o r)/\Sm WB (patch L o r)/\nval WB (patch L o r)=nval WB L+WB ^ o*(x*nval WB la))/\w.grownBy w' (some g):=by
 have hsa:=hid ha.sm;generalize hN:L.length=N at ho hn ⊢;generalize hnn:la.length=n at ha ho h0 hg ⊢;have HN:=hid hN;have HNN:=hid hnn;have HX:=hid hx;have HL:=hid hL;have H0:=hid h0;clear hN hnn hx hL h0
 go_enter func174,ntmps174
 go_wp2_with fail
 go_loopw [6,14] (fun c k wr=>∃(i:Nat) (r:List Nat) (cy:Nat),i<=n/\k= .int .i64 i/\c= .int .u64 cy/\lT WB (L.drop o) la x i r cy/\Arr base wr g (patch L o r)/\w.grownBy wr (some g)) (fun _ k _=>n - (intOf k).toNat)
 case atStart=>exact⟨0,[],0,z7,rfl,rfl,lT.start aZ _ _ _,by rw[xM];exact hA,World.grownBy.refl _ _⟩
 case round=>
  obtain⟨i,r,cc,hi',rfl,rfl,hinv,hAr,hEr⟩:=hrel;have hcc:=hinv.2.2.1;have hrl:=hinv.1;have hlen:(patch L o r).length=N:=by rw[gP (by have:=HN.out;omega)];exact HN.out
  by_cases hilt:i < n
  ·obtain⟨bx,ofx,rfl,hcx,hbg⟩:=oD ha hEr (hg z7) hilt
   have hout:=hAr.cell (i:=o+i) z7
   rw[pz (by have:=HN.out;omega) z7]at hout
   have hfz:=hAr.frozen (o+i);have hyl:=jg hsa.out i;have hgl:=jg HL.out (o+i);have hm:=mac64 HX.out hyl hgl hcc;have hM:=tQ x (gd la i) HX.out hyl;have hst:=hAr.store (o+i) (dB (dB (dB (x*gd la i)+gd L (o+i))+cc));rw[<-hrl,jP (by have:=HN.out;omega),hrl]at hst
   have hstep:=hinv.step (pQ _) hm.1 (by rw[jZ];exact hm.2)
   have hgr:=iB hEr (jR wr g (o+i) (.int .u64 ((dB (dB (dB (x*gd la i)+gd L (o+i))+cc):Nat):Int)));have hb:gF (x*gd la i)+gF (dB (x*gd la i)+gd L (o+i))+gF (dB (dB (x*gd la i)+gd L (o+i))+cc)<=18446744073709551615:=by have:=hm.1;rw[dn]at this;omega
   have ha1:=kP (dB (x*gd la i)) (gd L (o+i));have ha2:=kP (dB (dB (x*gd la i)+gd L (o+i))) cc;have HM:=hid hM;have HST:=hid hst;have HSTEP:=hid hstep;have HGR:=hid hgr;clear hM hst hstep hgr hm hyl hgl hlen hAr hinv hrl hEr hA ha hg hcc
   go_wp2_with fail;refine(HM.out _).mono ?_;rintro e w' ⟨rfl,rfl⟩;go_wp2
   go_roundw
   case rel=>exact⟨i+1,_,_,z7,by go_num,by go_num,HSTEP.out,HST.out,HGR.out⟩
   case measure=>simp[intOf];omega
  ·have hin:i=n:=z7
   subst hin;have hout:=hAr.cell (i:=o+i) z7
   rw[pz (by have:=HN.out;omega) z7,H0.out]at hout
   have hfz:=hAr.frozen (o+i);have hd:=apc oo HL.out (Nat.le_of_eq HNN.out) (by have:=HN.out;omega) H0.out hinv
   have hst:=hAr.store (o+i) cc;rw[<-hrl,jP (by have:=HN.out;omega),hrl]at hst
   have hgr:=iB hEr (jR wr g (o+i) (.int .u64 (cc:Int)));have hrl2:(r++[cc]).length=i+1:=by simp[hrl]
   have HST:=hid hst;have HD:=hid hd;have HGR:=hid hgr;have HR:=hid hrl2;clear hst hd hgr hlen hAr hinv hrl hrl2 hEr hA ha hg hcc;go_wp2
   go_end0
   exact⟨rfl,⟨r++[cc],HR.out,HST.out,HD.out.1,HD.out.2⟩,HGR.out⟩
theorem an1{b q u a y p:Nat}:a*u+p*(y*a)=a*(u+p*y):=by grind
theorem alS{B:Nat}{la lb L:List Nat}{i:Nat}(h:nval B L=nval B la*nval B (lb.take i)):nval B L+B ^ i*(gd lb i*nval B la)=nval B la*nval B (lb.take (i+1)):=by
 rw[dD,h];exact an1 (b:=0) (q:=0)
theorem anN{w:World}{va vb:Value}{la lb:List Nat}(ha:RN w va la)(hb:RN w vb lb)(hna:la.length<=1099511627775)(hnb:lb.length<=1099511627775):
  Calls prog 84 #[va,vb] w fun e w'=>(∃v,e= .returned v/\ON w.heap.size w' v (nval WB la*nval WB lb))/\Ext w w':=by
 obtain⟨oa,ca,rfl,_⟩:=id ha;obtain⟨ob,cb,rfl,_⟩:=id hb;have ka:=dS la;have kb:=dS lb;have CA:=hid (dV ha z7)
 have CB:=hid (dV hb z7)
 have hx:=ha.take ka;have hy:=hb.take kb;have hxl:(la.take (aP la)).length=aP la:=by rw[List.length_take];omega
 have hax:∀b o,oa=some ⟨b,o,none⟩->0 < aP la->b < w.heap.size:=by
  intro b o e h0;obtain⟨b',o',e',hc⟩:=vV hx (Ext.refl w) h0;have:=World.block_lt_of_cell? w _ hc;simp only at this;rw[e']at e;simp only[Option.some.injEq,Addr.mk.injEq]at e;omega
 have HAX:=hid hax;have HXL:=hid hxl;have sb:=hid hb.sm;obtain⟨i0,hi,hz0,hz1,hz2⟩:=info_parts mR;clear ha hb hax hxl
 go_enter func84,ntmps84
 go_wp2_with fail;refine CA.out.mono ?_;rintro e w' ⟨rfl,rfl⟩
 go_wp2_with fail;refine CB.out.mono ?_;rintro e w' ⟨rfl,rfl⟩;generalize hN:aP la+aP lb+1=N;have hbytes:i0.bytes*N<=281474976710656:=by rw[hz2];omega
 have HNN:=hid hN;have hN1:N<=2199023255551:=z7
 have hNi:((aP la:Int)+(aP lb:Int)+1)=(N:Int):=z7
 have HNI:=hid hNi;clear hN hNi
 go_wp2_with (at_make;refine wpList_make_full _ rfl (.tmp 17) (.tmp 17) 23 rfl w.heap.size 34 i0 (.int .u64 0) 1 underlying23 hi hz0 hz1 .i64 .i64 _ _ N rfl rfl HNI.out HNI.out hbytes (by unfold maxLen;omega) (Nat.le_refl _) ?_;intro w1 hown hgrow)
 have hA:Arr w.heap.size w1 w.heap.size (List.replicate N 0):=by
  rw[nJ]at hown;unfold Arr;rw[List.length_replicate];exact hown
 have hE:Ext w w1:=Below.grown (Below.refl _ _) hgrow (Nat.le_refl _) (fun k hk=>by cases hk)
 clear hown hgrow
 go_loopw [21] (fun k wr=>∃(i:Nat) (L:List Nat),i<=aP lb/\k= .int .i64 i/\L.length=N/\Sm WB L/\nval WB L=nval WB (la.take (aP la))*nval WB (lb.take i)/\(∀j,aP la+i<=j->gd L j=0)/\Arr w.heap.size wr w.heap.size L/\Ext w wr) (fun k _=>aP lb - (intOf k).toNat)
 case atStart=>exact⟨0,List.replicate N 0,z7,rfl,by simp,Sm.replicate aZ _,by rw[mZ];simp[nval],fun j _=>by simp[gd,List.getD_eq_getElem?_getD,List.getElem?_replicate];split <;> rfl,hA,hE⟩
 case round=>
  obtain⟨i,L,hi',rfl,hLl,hLs,hLv,hLz,hAr,hEr⟩:=hrel;by_cases hilt:i < aP lb
  ·obtain⟨by',ofy,rfl,hcy⟩:=vV hy hEr hilt;have hrx:RN wr (.slice oa (la.take (aP la)).length ca) (la.take (aP la)):=by rw[HXL.out];exact hx.ext hEr
   have hrow:=asu (o:=i) (x:=gd lb i) hAr hrx ?ap (jg sb.out i) hLs (by rw[HXL.out,hLl];have:=HNN.out;omega) z7 (hLz _ (by rw[HXL.out];omega))
   case ap=>intro h0 b o e;have:=HAX.out b o e (by rw[HXL.out]at h0;exact h0);omega
   have HR:=hid hrow;rw[HXL.out,hLl]at HR;have HLV:=hid hLv;have HLZ:=hid hLz;have HLL:=hid hLl;have hlim:i+(aP la+1)<=N:=by have:=HNN.out;omega
   clear hrow hLv hLz hLs hLl hAr hrx hx hy
   go_wp2_with fail;refine HR.out.mono ?_;rintro e w2 ⟨rfl,⟨r,hr1,hr2,hr3,hr4⟩,hr5⟩;have h1:=hid hr1;have h2:=hid hr2;have h3:=hid hr3;have h4:=hid hr4;have h5:Ext w w2:=Below.grown hEr hr5 hEr.size (by intro k hk;cases hk;exact Nat.le_refl _)
   clear hr1 hr2 hr3 hr4 hr5;go_wp2
   go_roundw
   case rel=>exact⟨i+1,_,z7,by go_num,by rw[gP (by rw[HLL.out,h1.out];exact hlim)];exact HLL.out,h3.out,by rw[h4.out];exact alS HLV.out,fun j hj=>by rw[pz (by rw[HLL.out];omega) (by rw[h1.out];omega)];exact HLZ.out j z7,h2.out,h5⟩
   case measure=>simp[intOf];omega
  ·have hin:i=aP lb:=z7
   subst hin;have hno:=kX hAr.own hLs z7
   rw[hLl]at hno;rw[dO,dO]at hLv;have HNO:=hid hno;have HLV:=hid hLv;clear hno hLv hLz hLs hLl hAr hx hy
   go_wp2_with fail;refine HNO.out.mono ?_;rintro e w' ⟨⟨v,rfl,ho⟩,rfl⟩;go_wp2;go_ret;exact⟨⟨_,rfl,by rw[<-HLV.out];exact ho⟩,hEr⟩
theorem shl_z{x b c:Nat}(hx:x < WB)(hc:c < 2 ^ b)(hb:b < 64):
  bits BinOp.or IntKind.u64 (c:Int) (IntKind.u64.wrap ((x:Int)*2 ^ b))=((c ||| (x*2 ^ b % 2 ^ 64):Nat):Int):=by
 have e1:((x:Int)*2 ^ b)=((x*2 ^ b:Nat):Int):=by rw[Int.natCast_mul,Int.natCast_pow];rfl
 have hc64:c < 2 ^ 64:=Nat.lt_of_lt_of_le hc (Nat.pow_le_pow_right z7 z7)
 rw[e1,oG];exact bits_or_u64_nat _ _ hc64 (Nat.mod_lt _ (Nat.two_pow_pos 64))
theorem aaO(x k:Nat):((x:Int) / 2 ^ k)=((x / 2 ^ k:Nat):Int):=by
 rw[Int.natCast_ediv,Int.natCast_pow];rfl
theorem ko:WB=2 ^ 64:=yW
theorem shl_w{x c b:Nat}(hx:x < WB)(hc:c < 2 ^ b)(hb:b < 64):
  (c ||| (x*2 ^ b % 2 ^ 64)) < WB/\x / 2 ^ (64 - b) < 2 ^ b/\(c ||| (x*2 ^ b % 2 ^ 64))+WB*(x / 2 ^ (64 - b))=c+2 ^ b*x:=by
 rw[ko]at*;exact agq hx hc hb
theorem ajs{w:World}{va:Value}{la:List Nat}{n q b:Nat}(ha:RN w va la)(hna:la.length<=1099511627775)(hn:n<=1048576)(hnq:n / 64=q)(hnb:n % 64=b):
  Calls prog 171 #[va,.int .i64 (n:Int)] w fun e w'=>(∃v,e= .returned (.tuple #[v,.bool true])/\ON w.heap.size w' v (nval WB la*2 ^ n))/\Ext w w':=by
 obtain⟨oa,ca,rfl,_⟩:=id ha;have ka:=dS la;have CA:=hid (dV ha z7)
 have hx:=ha.take ka;have hq:(n:Int) / 64=(q:Int):=z7
 have hr:(n:Int) % 64=(b:Int):=z7
 have hb64:b < 64:=z7
 have hqn:q<=16384:=z7
 obtain⟨i0,hi,hz0,hz1,hz2⟩:=info_parts mR;have sa:=hid ha.sm;have HNQ:=hid hnq;have HNB:=hid hnb;clear ha hnq hnb
 go_enter func171,ntmps171
 go_wp2_with fail;refine CA.out.mono ?_;rintro e w' ⟨rfl,rfl⟩;generalize hN:aP la+q+1=N;have hbytes:i0.bytes*N<=281474976710656:=by rw[hz2];omega
 have hN1:N<=2199023255551:=z7
 have hNle:aP la+q+1<=N:=z7
 have hNi:((aP la:Int)+(q:Int)+1)=(N:Int):=z7
 have HNN:=hid hN;have HNI:=hid hNi;clear hN hNi
 go_wp2_with (at_make;refine wpList_make_full _ rfl (.tmp 28) (.tmp 28) 23 rfl w.heap.size 34 i0 (.int .u64 0) 1 underlying23 hi hz0 hz1 .i64 .i64 _ _ N rfl rfl HNI.out HNI.out hbytes (by unfold maxLen;omega) (Nat.le_refl _) ?_;intro w1 hown hgrow)
 have hA:Arr w.heap.size w1 w.heap.size (List.replicate N 0):=by
  rw[nJ]at hown;unfold Arr;rw[List.length_replicate];exact hown
 have hE:Ext w w1:=Below.grown (Below.refl _ _) hgrow (Nat.le_refl _) (fun k hk=>by cases hk)
 clear hown hgrow
 go_loopw [32] (fun k wr=>∃(i:Nat) (r:List Nat) (c:Nat),i<=aP la/\k= .int .i64 i/\lT WB [] la (2 ^ b) i r c/\c < 2 ^ b/\Arr w.heap.size wr w.heap.size (patch (List.replicate N 0) q (r++[c]))/\Ext w wr) (fun k _=>aP la - (intOf k).toNat)
 case atStart=>exact⟨0,[],0,z7,rfl,lT.start aZ _ _ _,Nat.two_pow_pos _,by rw[List.nil_append,afw (by have:=HNN.out;omega)];exact hA,hE⟩
 case round=>
  obtain⟨i,r,cc,hi',rfl,hinv,hcb,hAr,hEr⟩:=hrel;have hrl:=hinv.1;have hlen:(patch (List.replicate N 0) q (r++[cc])).length=N:=by rw[gP (by simp;have:=HNN.out;omega)];simp
  by_cases hilt:i < aP la
  ·obtain⟨bx,ofx,rfl,hcx⟩:=vV hx hEr hilt;have hout:=hAr.cell (i:=q+i) (by have:=HNN.out;omega)
   have hfz:=hAr.frozen (q+i);have hout2:=hAr.cell (i:=q+i+1) (by have:=HNN.out;omega)
   have hfz2:=hAr.frozen (q+i+1);have hcell:gd (patch (List.replicate N 0) q (r++[cc])) (q+i)=cc:=by
    rw[aes (by simp;have:=HNN.out;omega) z7 (by simp;omega),hrl,Nat.sub_self];rfl
   rw[hcell]at hout;have hsh:=shl_w (jg sa.out i) hcb hb64;have hZ:=hid (shl_z (jg sa.out i) hcb hb64);have hstep:=hinv.step hsh.1 (Nat.lt_of_lt_of_le hsh.2.1 (by rw[ko];exact Nat.pow_le_pow_right z7 z7)) (by rw[hsh.2.2];simp[gd];omega)
   have hst:=hAr.store (q+i) (cc ||| (gd la i*2 ^ b % 2 ^ 64));rw[<-hrl,aek (by simp;have:=HNN.out;omega),hrl]at hst
   have hst2:=hst.store (q+i+1) (gd la i / 2 ^ (64 - b));have e2:q+i+1=q+(r++[cc ||| (gd la i*2 ^ b % 2 ^ 64)]).length:=by simp[hrl];omega
   have hl2:q+(r++[cc ||| (gd la i*2 ^ b % 2 ^ 64)]).length < (List.replicate N 0).length:=by simp[hrl];have:=HNN.out;omega
   rw[show (patch (List.replicate N 0) q (r++[cc ||| gd la i*2 ^ b % 2 ^ 64])).set (q+i+1) (gd la i / 2 ^ (64 - b))=patch (List.replicate N 0) q ((r++[cc ||| (gd la i*2 ^ b % 2 ^ 64)])++[gd la i / 2 ^ (64 - b)])from by rw[e2];exact jP hl2]at hst2
   have HSH:=hid hsh;have HSTEP:=hid hstep;have HST:=hid hst;have HST2:=hid hst2;have HRL:=hid hrl;clear hcell hlen hAr hinv hsh hstep hst hst2 e2 hl2 hrl;by_cases hb0:b=0
   ·have hbp:b<=0:=z7
    have hhi:gd la i / 2 ^ (64 - b)=0:=by have:=HSH.out.2.1;rw[hb0]at this ⊢;omega
    have HHI:=hid hhi;clear hb0 hhi;go_wp2
    go_roundw
    case rel=>
     rw[hZ.out];refine⟨i+1,_,_,z7,by go_num,HSTEP.out,HSH.out.2.1,?_,?_⟩
     ·rw[HHI.out,alm (by simp[HRL.out];have:=HNN.out;omega) (ads _ _)];exact HST.out
     ·exact Below.setCell hEr (Nat.le_refl _) _
    case measure=>simp[intOf];omega
   ·have hbp:0 < b:=z7
    go_wp2
    go_roundw
    case rel=>
     rw[hZ.out,aaO];refine⟨i+1,_,_,z7,by go_num,HSTEP.out,HSH.out.2.1,HST2.out,?_⟩
     exact Below.setCell (Below.setCell hEr (Nat.le_refl _) _) (Nat.le_refl _) _
    case measure=>simp[intOf];omega
  ·have hin:i=aP la:=z7
   subst hin;have hno:=kX hAr.own (vY (Sm.replicate aZ _) (hinv.2.1.append (Sm.nil.cons hinv.2.2.1))) (by rw[hlen];omega)
   rw[hlen]at hno;have hv:nval WB (patch (List.replicate N 0) q (r++[cc]))=nval WB la*2 ^ n:=by
    rw[zH (by have:=HNN.out;omega),gJ,hrl]
    have:=hinv.2.2.2;rw[this,dO];have e3:2 ^ n=WB ^ q*2 ^ b:=by rw[ko,<-Nat.pow_mul,<-Nat.pow_add];congr 1;have:=HNQ.out;have:=HNB.out;omega
    rw[e3];simp only[List.take_nil,nval,Nat.zero_add];rw[Nat.mul_comm (nval WB la),Nat.mul_assoc]
   have HNO:=hid hno;have HLV:=hid hv;clear hno hv hlen hAr hinv hrl hx
   go_wp2_with fail;refine HNO.out.mono ?_;rintro e w' ⟨⟨v,rfl,ho⟩,rfl⟩;go_wp2
   go_ret2
   exact⟨⟨_,rfl,by rw[<-HLV.out];exact ho⟩,hEr⟩
theorem shr_z{x y b:Nat}(hx:x < WB)(hb:0 < b)(hb2:b < 64):
  bits BinOp.or IntKind.u64 ((x:Int) / 2 ^ b) (IntKind.u64.wrap ((y:Int)*2 ^ (64 - b)))=((x / 2 ^ b+2 ^ (64 - b)*(y % 2 ^ b):Nat):Int):=by
 have e1:((y:Int)*2 ^ (64 - b))=((y*2 ^ (64 - b):Nat):Int):=by rw[Int.natCast_mul,Int.natCast_pow];rfl
 rw[e1,oG,aaO];have hx':x < 2 ^ 64:=by rw[ko]at hx;exact hx
 have hd:x / 2 ^ b < 2 ^ 64:=Nat.lt_of_le_of_lt (Nat.div_le_self _ _) hx';have:=bits_or_u64_nat (x / 2 ^ b) (y*2 ^ (64 - b) % 2 ^ 64) hd (Nat.mod_lt _ (Nat.two_pow_pos 64));rw[ang hx' hb hb2]at this;exact this
theorem amt{w:World}{va:Value}{la:List Nat}{n q b:Nat}(ha:RN w va la)(hna:la.length<=1099511627775)(hn:n<=9223372036854775807)(hnq:n / 64=q)(hnb:n % 64=b)(hq0:aP la<=q):
  Calls prog 173 #[va,.int .i64 (n:Int)] w fun e w'=>e= .returned (.tuple #[.slice none 0 0,.bool true])/\w=w':=by
 obtain⟨oa,ca,rfl,_⟩:=id ha;have CA:=hid (dV ha z7)
 have hq:(n:Int) / 64=(q:Int):=z7
 have hr:(n:Int) % 64=(b:Int):=z7
 have hb64:b < 64:=z7
 clear ha hnq hnb
 go_enter func173,ntmps173
 go_wp2_with fail;refine CA.out.mono ?_;rintro e w' ⟨rfl,rfl⟩;go_wp2
 go_ret2
 exact⟨rfl,rfl⟩
theorem aqL{w:World}{va:Value}{la:List Nat}{n q b:Nat}(ha:RN w va la)(hna:la.length<=1099511627775)(hn:n<=9223372036854775807)(hnq:n / 64=q)(hnb:n % 64=b)(hq0:q < aP la):
  Calls prog 173 #[va,.int .i64 (n:Int)] w fun e w'=>(∃v,e= .returned (.tuple #[v,.bool true])/\ON w.heap.size w' v (nval WB la / 2 ^ n))/\Ext w w':=by
 have ka:=dS la;rcases ha.shape with⟨rfl,_⟩|⟨bx,ox,ca,rfl,a0,a1,a2,a3⟩
 ·exact absurd hq0 (by simp[aP])
 have CA:=hid (dV ha z7)
 have sa:=hid ha.sm;have hq:(n:Int) / 64=(q:Int):=z7
 have hr:(n:Int) % 64=(b:Int):=z7
 have hb64:b < 64:=z7
 obtain⟨D,hD⟩:∃D,D=(la.take (aP la)).drop q:=⟨_,rfl⟩;obtain⟨m,hm⟩:∃m,m=aP la - q:=⟨_,rfl⟩;have hDl:D.length=m:=by rw[hD,List.length_drop,List.length_take];omega
 have hDs:Sm WB D:=by rw[hD];exact(ha.sm.take _).drop _
 have hDc:∀i,i < m->w.cell? ⟨bx,ox+q+i,none⟩=some (.int .u64 ((gd D i:Nat):Int)):=by
  intro i hi;have:=a3 (q+i) z7
  rw[<-Nat.add_assoc]at this;rw[this,hD,jZ,pI z7]
 have hDv:nval WB D / 2 ^ b=nval WB la / 2 ^ n:=by
  rw[hD,abL _ _ aZ (ha.sm.take _),dO,Nat.div_div_eq_div_mul]
  congr 1
  rw[ko,<-Nat.pow_mul,<-Nat.pow_add];congr 1;omega
 have hmi:((aP la:Int) - (q:Int))=(m:Int):=z7
 have hmn:aP la - q=m:=hm.symm;have hm1:m<=1099511627775:=z7
 have hm0:0 < m:=z7
 obtain⟨i0,hi,hz0,hz1,hz2⟩:=info_parts mR;have HNQ:=hid hnq;have HNB:=hid hnb;have HDL:=hid hDl;have HDS:=hid hDs;have HDC:=hid hDc;have HDV:=hid hDv;have hbytes:i0.bytes*m<=281474976710656:=by rw[hz2];omega
 have hqc:q < ca:=z7
 clear ha hnq hnb hD hm hDl hDs hDc hDv a3 a0
 go_enter func173,ntmps173
 go_wp2_with fail;refine CA.out.mono ?_;rintro e w' ⟨rfl,rfl⟩
 go_wp2_with (at_make;refine wpList_make_full _ rfl (.tmp 28) (.tmp 28) 23 rfl w.heap.size 34 i0 (.int .u64 0) 1 underlying23 hi hz0 hz1 .i64 .i64 _ _ m rfl rfl z7 z7 hbytes (by unfold maxLen;omega) (Nat.le_refl _) ?_;intro w1 hown hgrow)
 have hA:Arr w.heap.size w1 w.heap.size (List.replicate m 0):=by
  rw[nJ]at hown;unfold Arr;rw[List.length_replicate];exact hown
 have hE:Ext w w1:=Below.grown (Below.refl _ _) hgrow (Nat.le_refl _) (fun k hk=>by cases hk)
 clear hown hgrow hmn hmi
 go_loopw [32] (fun k wr=>∃(i:Nat) (r:List Nat),i<=m/\k= .int .i64 i/\mP WB (2 ^ b) D i r/\Arr w.heap.size wr w.heap.size (r++List.replicate (m - i) 0)/\Ext w wr) (fun k _=>m - (intOf k).toNat)
 case atStart=>exact⟨0,[],z7,rfl,mP.start _ _ _,hA,hE⟩
 case round=>
  obtain⟨i,r,hi',rfl,hinv,hAr,hEr⟩:=hrel;have hrl:=hinv.1;have hlen:(r++List.replicate (m - i) 0).length=m:=by simp;omega
  by_cases hilt:i < m
  ·have hcx:=hEr.cell (HDC.out i hilt);have hout:=hAr.cell (i:=i) z7
   have hfz:=hAr.frozen i;have hxl:=jg HDS.out i;have hbd:gd D i / 2 ^ b+2 ^ (64 - b)*(gd D (i+1) % 2 ^ b) < WB:=by
    have:=alM (x:=gd D i) (y:=gd D (i+1)) (b:=b) (by rw[ko]at hxl;exact hxl) hb64
    rw[ko];exact this
   have hstep:=hinv.step (p:=2 ^ (64 - b)) (by rw[ko,<-Nat.pow_add];congr 1;omega) hbd
   have e1:m - i=(m - (i+1))+1:=z7
   have hset:∀x,(r++List.replicate (m - i) 0).set i x=(r++[x])++List.replicate (m - (i+1)) 0:=by
    intro x;rw[e1,<-hrl];exact xI
   have hst:=hAr.store i (gd D i / 2 ^ b+2 ^ (64 - b)*(gd D (i+1) % 2 ^ b));rw[hset]at hst;have hst1:=hAr.store i (gd D i / 2 ^ b);have hst2:=hst1.store i (gd D i / 2 ^ b+2 ^ (64 - b)*(gd D (i+1) % 2 ^ b));rw[List.set_set,hset]at hst2;have hfz2:=hst1.frozen i;have HSTEP:=hid hstep;have HST:=hid hst;have HST2:=hid hst2;have HRL:=hid hrl;have HXL:=hid hxl;clear hlen hAr hinv hstep hst hst2 hst1 e1 hset hrl hbd hxl;by_cases hb0:0 < b
   ·by_cases hi1:i+1 < m
    ·have hcx1:=hEr.cell (HDC.out (i+1) hi1);have hZ:=hid (shr_z (y:=gd D (i+1)) HXL.out hb0 hb64);have hguard:decide (0 < b)=true:=by simpa using hb0
     go_wp2
     go_region
     all_goals
      go_wp2
      go_roundw
      case rel=>
       rw[hZ.out,aaO];exact⟨i+1,_,z7,by go_num,HSTEP.out,HST2.out,(Below.setCell (Below.setCell hEr (Nat.le_refl _) _) (Nat.le_refl _) _).drew⟩
      case measure=>simp[intOf];omega
    ·have hy0:gd D (i+1)=0:=ata (by have:=HDL.out;omega)
     have HY:=hid hy0;clear hy0;go_wp2
     go_roundw
     case rel=>
      rw[aaO];refine⟨i+1,_,z7,by go_num,HSTEP.out,?_,Below.setCell hEr (Nat.le_refl _) _⟩
      have:=HST.out;rw[HY.out,Nat.zero_mod,Nat.mul_zero,Nat.add_zero]at this ⊢;exact this
     case measure=>simp[intOf];omega
   ·have hb1:b<=0:=z7
    have hy0:gd D (i+1) % 2 ^ b=0:=by rw[show b=0 from z7,Nat.pow_zero,Nat.mod_one]
    have HY:=hid hy0;clear hy0;go_wp2
    go_roundw
    case rel=>
     rw[aaO];refine⟨i+1,_,z7,by go_num,HSTEP.out,?_,Below.setCell hEr (Nat.le_refl _) _⟩
     have:=HST.out;rw[HY.out,Nat.mul_zero,Nat.add_zero]at this ⊢;exact this
    case measure=>simp[intOf];omega
  ·have hin:i=m:=z7
   subst hin;have hno:=kX hAr.own (by simpa using hinv.2.1) (by rw[hlen];omega)
   rw[hlen]at hno;have hv:nval WB (r++List.replicate (i - i) 0)=nval WB la / 2 ^ n:=by
    rw[Nat.sub_self,List.replicate_zero,List.append_nil,hinv.done (Nat.two_pow_pos _) (Nat.le_of_eq HDL.out)];exact HDV.out
   have HNO:=hid hno;have HLV:=hid hv;clear hno hv hlen hAr hinv hrl
   go_wp2_with fail;refine HNO.out.mono ?_;rintro e w' ⟨⟨v,rfl,ho⟩,rfl⟩;go_wp2
   go_ret2
   exact⟨⟨_,rfl,by rw[<-HLV.out];exact ho⟩,hEr⟩
theorem as8{w:World}{va:Value}{la:List Nat}{n:Nat}(ha:RN w va la)(hna:la.length<=1099511627775)(hn:n<=9223372036854775807):
  Calls prog 173 #[va,.int .i64 (n:Int)] w fun e w'=>(∃v,e= .returned (.tuple #[v,.bool true])/\ON w.heap.size w' v (nval WB la / 2 ^ n))/\Ext w w':=by
 rcases Nat.lt_or_ge (n / 64) (aP la)with h|h
 ·exact aqL ha hna hn rfl rfl h
 ·refine(amt ha hna hn rfl rfl h).mono fun e w' ⟨he,hw⟩=>?_
  subst he hw;have hlt:nval WB la < 2 ^ n:=by
   rw[<-dO la];refine Nat.lt_of_lt_of_le (eX (ha.sm.take _)) ?_;rw[ko,<-Nat.pow_mul,List.length_take];exact Nat.pow_le_pow_right z7 z7
  exact⟨⟨_,rfl,by rw[Nat.div_eq_of_lt hlt];exact ON.zero _ _⟩,Ext.refl _⟩
theorem ahb(x q r:Nat)(hx:x≠0)(hr:r < 2 ^ q):bitLen (r+2 ^ q*x)=q+bitLen x:=by
 have h1:(r+2 ^ q*x) / 2 ^ q=x:=by rw[Nat.add_mul_div_left _ _ (Nat.two_pow_pos _),Nat.div_eq_of_lt hr,Nat.zero_add]
 have:=bitLen_shift (r+2 ^ q*x) q (by rw[h1];exact hx)
 rw[h1]at this;exact this
theorem akR{l:List Nat}(hs:Sm WB l)(h:aP l≠0):bitLen (nval WB l)=64*(aP l - 1)+bitLen (gd l (aP l - 1)):=by
 have hl:=tV h;have e1:nval WB l=nval WB (l.take (aP l - 1))+WB ^ (aP l - 1)*gd l (aP l - 1):=by
  have:=dD WB l (aP l - 1);rw[show aP l - 1+1=aP l from z7,dO]at this;exact this
 have e2:=eX (hs.take (aP l - 1));have e3:(l.take (aP l - 1)).length=aP l - 1:=by rw[List.length_take];have:=dS l;omega
 rw[e3]at e2;have e4:WB ^ (aP l - 1)=2 ^ (64*(aP l - 1)):=by rw[ko,<-Nat.pow_mul]
 rw[e1,e4];rw[e4]at e2;exact ahb _ _ _ hl e2
theorem anX{w:World}{va:Value}{la:List Nat}(ha:RN w va la)(hna:la.length<=1099511627775):
  Calls prog 35 #[va] w fun e w'=>e= .returned (.int .i64 ((bitLen (nval WB la):Nat):Int))/\w=w':=by
 have ka:=dS la;by_cases h0:aP la=0
 ·obtain⟨oa,ca,rfl,_⟩:=id ha;have CA:=dV ha z7
  rw[h0]at CA;have hv:=(jV aZ).2 h0;have HV:=hid hv;have HCA:=hid CA;clear hv CA ha h0 ka
  go_enter func35,ntmps35
  go_wp2_with fail;refine HCA.out.mono ?_;rintro e w' ⟨rfl,rfl⟩;go_wp2;go_ret;exact⟨by rw[HV.out];rfl,rfl⟩
 ·rcases ha.shape with⟨rfl,_⟩|⟨bx,ox,ca,rfl,a0,a1,a2,a3⟩
  ·exact absurd (by simp[aP]) h0
  have CA:=hid (dV ha z7)
  have hc:=a3 (aP la - 1) z7
  have hgl:=jg ha.sm (aP la - 1);have HL:=hid (ac6 _ hgl w);have hb:=bitLen_le64 hgl;have hv:=akR ha.sm h0;have hz:((aP la:Int)==0)=false:=by simp;omega
  have h0':0 < aP la:=z7
  have HV:=hid hv;clear hv ha h0 a3 hgl
  go_enter func35,ntmps35
  go_wp2_with fail;refine CA.out.mono ?_;rintro e w' ⟨rfl,rfl⟩
  go_wp2_with fail;refine HL.out.mono ?_;rintro e w' ⟨rfl,rfl⟩;go_wp2;go_ret;exact⟨by rw[HV.out];exact congrArg Ending.returned (by go_num),rfl⟩
theorem akU{w:World}{va:Value}{la:List Nat}(ha:RN w va la)(hna:la.length<=1099511627775)(h0:aP la=0):
  Calls prog 45 #[va] w fun e w'=>e= .returned (.tuple #[.int .u64 0,.bool true])/\w=w':=by
 obtain⟨oa,ca,rfl,_⟩:=id ha;have CA:=dV ha z7
 rw[h0]at CA;have HCA:=hid CA;clear CA ha h0 hna
 go_enter func45,ntmps45
 go_wp2_with fail;refine HCA.out.mono ?_;rintro e w' ⟨rfl,rfl⟩;go_wp2
 go_ret2
 exact⟨rfl,rfl⟩
theorem aoE{w:World}{va:Value}{la:List Nat}(ha:RN w va la)(hna:la.length<=1099511627775)(h0:aP la=1):
  Calls prog 45 #[va] w fun e w'=>e= .returned (.tuple #[.int .u64 ((gd la 0:Nat):Int),.bool true])/\w=w':=by
 have ka:=dS la;rcases ha.shape with⟨rfl,_⟩|⟨bx,ox,ca,rfl,a0,a1,a2,a3⟩
 ·exact absurd h0 (by simp[aP])
 have CA:=dV ha z7
 rw[h0]at CA;have hc:=a3 0 z7
 rw[Nat.add_zero]at hc;have HCA:=hid CA;clear CA ha h0 a3
 go_enter func45,ntmps45
 go_wp2_with fail;refine HCA.out.mono ?_;rintro e w' ⟨rfl,rfl⟩;go_wp2
 go_ret2
 exact⟨rfl,rfl⟩
theorem ale{w:World}{va:Value}{la:List Nat}(ha:RN w va la)(hna:la.length<=1099511627775)(h0:1 < aP la):
  Calls prog 45 #[va] w fun e w'=>e= .returned (.tuple #[.int .u64 0,.bool false])/\w=w':=by
 obtain⟨oa,ca,rfl,_⟩:=id ha;have CA:=hid (dV ha z7)
 have hz:((aP la:Int)==0)=false:=by simp;omega
 have hz1:((aP la:Int)==1)=false:=by simp;omega
 clear ha hna
 go_enter func45,ntmps45
 go_wp2_with fail;refine CA.out.mono ?_;rintro e w' ⟨rfl,rfl⟩;go_wp2
 go_ret2
 exact⟨rfl,rfl⟩
theorem apN{w:World}{va:Value}{la:List Nat}(ha:RN w va la)(hna:la.length<=1099511627775):
  Calls prog 45 #[va] w fun e w'=>e= .returned (.tuple #[.int .u64 (((if nval WB la < WB then nval WB la else 0:Nat)):Int),.bool (decide (nval WB la < WB))])/\w=w':=by
 have hs:=ha.sm;have ht:=dO (B:=WB) la;rcases Nat.lt_trichotomy (aP la) 1 with h|h|h
 ·have h0:aP la=0:=z7
  refine(akU ha hna h0).mono fun e w' ⟨he,hw⟩=>?_
  have hv:=(jV aZ).2 h0;rw[hv];exact⟨by rw[he];simp[aZ],hw⟩
 ·refine(aoE ha hna h).mono fun e w' ⟨he,hw⟩=>?_
  have hv:nval WB la=gd la 0:=by
   have:=dD WB la 0;rw[Nat.zero_add,<-h,ht]at this;rw[this];simp[nval]
  rw[hv];have:=jg hs 0;exact⟨by rw[he];simp[this],hw⟩
 ·refine(ale ha hna h).mono fun e w' ⟨he,hw⟩=>?_
  have hv:¬nval WB la < WB:=by
   have h1:=(sj la).pos (B:=WB) (by intro e;have:=congrArg List.length e;rw[List.length_take,Nat.min_eq_left (dS la)]at this;simp only[List.length_nil]at this;omega)
   rw[List.length_take,Nat.min_eq_left (dS la),ht]at h1;have h2:WB ^ 1<=WB ^ (aP la - 1):=Nat.pow_le_pow_right aZ z7
   rw[Nat.pow_one]at h2;omega
  exact⟨by rw[he];simp[hv],hw⟩
