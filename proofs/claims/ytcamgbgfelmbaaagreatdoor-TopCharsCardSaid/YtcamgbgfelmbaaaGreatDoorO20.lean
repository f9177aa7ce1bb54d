import Derived.Test.YtcamgbgfelmbaaaGreatDoorProg
import Derived.Test.YtcamgbgfelmbaaaGreatDoorO19
import Derived.Laws.Externs
import Derived.Laws.Bits64b
import Derived.Deep.Cut
import Derived.Deep.DeepCutAuto
import Derived.Lib.Tables
import Derived.Lib.BitFns
import Derived.Laws.MathBits
set_option linter.all false
set_option maxRecDepth 1000000
set_option maxHeartbeats 2000000
open Go.Proofs.Tryz
namespace Go.Proofs.YtcamgbgfelmbaaaGreatDoor
open Go.RowKit QM
variable{L a l la lb:List Nat}{am b c ca e g i k m n q x y:Nat}{v va vb:Go.Value}{w wr:Go.World}
def aw3(b o n am:Nat)(l:List Nat)(hn:l.length=n)(hn2:n<=4398046511104)(w:World)
  (hc:∀i,i < n->w.cell? ⟨b,o+i,none⟩=some (.int .u64 ((gd l i:Nat):Int))) (hcap:n<=am):
  Calls prog 49 #[.slice (some ⟨b,o,none⟩) n am] w fun e w'=>e= .returned (.slice (some ⟨b,o,none⟩) (aO l) am)/\w=w':=by
 go_enter func49,ntmps49
 go_wp2
 go_loop [3] (fun k=>∃i:Nat,i<=n/\k= .int .i64 i/\∀j,i<=j->gd l j=0) (fun k=>(intOf k).toNat)
 case atStart=>exact⟨n,ya,rfl,fun j hj=>axE ya⟩
 case round=>
  obtain⟨i,hi,rfl,hz⟩:=hrel;by_cases h0:i=0
  ·subst h0;have ht:aO l=0:=(ae2 (fun j hj=>hz j hj) (.inl rfl)).symm
   have HT:=aq ht;clear ht hz;go_wp2;go_ret;exact⟨by rw[HT.out];rfl,rfl⟩
  ·have hci:=hc (i - 1) ya
   by_cases hx:gd l (i - 1)=0
   ·have hx1:(((gd l (i - 1):Nat):Int)==0)=true:=by simp[hx]
    have HX:=aq hx;have HZ:=aq hz;clear hx hz;go_wp2;go_round
    case rel=>exact⟨i - 1,ya,by go_num,fun j hj=>if h:j=i - 1 then h▸HX.out else HZ.out j ya⟩
    case measure=>simp[intOf];omega
   ·have hx1:(((gd l (i - 1):Nat):Int)==0)=false:=by simpa using hx
    have HT:=aq (ae2 (n:=i) hz (.inr hx));clear hx hz;go_wp2;go_ret;exact⟨by rw[HT.out];rfl,rfl⟩
def akT(oa:Option Addr)(am:Nat)(w:World):
  Calls prog 49 #[.slice oa 0 am] w fun e w'=>e= .returned (.slice oa 0 am)/\w=w':=by
 go_enter func49,ntmps49
 go_wp2
 go_loop [3] (fun k=>k= .int .i64 0) (fun k=>0)
 case atStart=>rfl
 case round=>
  subst hrel;go_wp2;go_ret;exact⟨rfl,rfl⟩
def dJ{oa:Option Addr}(h:RN w (.slice oa n am) l)(hn:l.length<=4398046511104):
  Calls prog 49 #[.slice oa n am] w fun e w'=>e= .returned (.slice oa (aO l) am)/\w=w':=by
 rcases h.shape with⟨rfl,oa',cap',e,_⟩|⟨b,o,cap',e,h0,h1,h2,h3⟩
 ·simp only[Value.slice.injEq]at e;obtain⟨rfl,rfl,rfl⟩:=e;exact akT _ _ _
 ·simp only[Value.slice.injEq]at e;obtain⟨rfl,rfl,rfl⟩:=e;exact aw3 _ _ _ _ _ rfl hn _ h3 h1
def awM(w:World):Calls prog 21 #[.int .u64 0] w fun e w'=>e= .returned (.slice none 0 0)/\w=w':=by
 go_enter func21,ntmps21
 go_wp2;go_ret;exact⟨rfl,rfl⟩
def ay3(x:Nat)(hx:0 < x)(w:World):Calls prog 21 #[.int .u64 (x:Int)] w fun e w'=>e= .returned (.slice (some ⟨w.heap.size,0,none⟩) 1 1)/\w'=w.alloc (.cells #[.int .u64 (x:Int)] 35):=by
 have hb:((x:Int)==0)=false:=by simp;omega
 clear hx
 go_enter func21,ntmps21
 go_wp2;go_ret;exact⟨rfl,rfl⟩
def lV(x y:Nat):Int:=if x < y then -1 else if x=y then 0 else 1
def ab1(h:x < y):lV x y= -1:=by simp[lV,h]
def anh(h:x=y):lV x y=0:=by simp[lV,h]
def ank(h:y < x):lV x y=1:=by unfold lV;rw[if_neg ya,if_neg ya]
def abQ{b:List Nat}(h:∀j,k<=j->gd a j=gd b j)(hl:aO a=aO b):(a.take (aO a)).drop k=(b.take (aO b)).drop k:=by
 have ha:=dI a;have hb:=dI b;apply List.ext_getElem
 ·simp;omega
 ·intro i h1 h2;simp at h1 h2
  have:=h (k+i) ya
  simpa[gd,List.getD_eq_getElem?_getD,List.getElem?_eq_getElem (show k+i < a.length by omega),List.getElem?_eq_getElem (show k+i < b.length by omega)]using this
def ap1{b:List Nat}(h:∀j,gd a j=gd b j)(hl:aO a=aO b):nval WB a=nval WB b:=by
 rw[<-dA a,<-dA b];exact congrArg _ (by simpa using abQ (k:=0) (fun j _=>h j) hl)
def aeZ{b:List Nat}(ha:Sm WB a)(hb:Sm WB b)(h:∀j,k+1<=j->gd a j=gd b j)(hl:aO a=aO b)(hk:k < aO a)(hx:gd a k < gd b k):nval WB a < nval WB b:=by
 have la:=dI a;have lb:=dI b;rw[<-dA a,<-dA b];refine ak3 (ha.take _) (hb.take _) (abQ h hl) (by simp;omega) ?_
 have e1:=sG (l:=a) (n:=aO a) (i:=k) hk;have e2:=sG (l:=b) (n:=aO b) (i:=k) ya
 unfold gd at*;rw[e1,e2];exact hx
def xJ{b:List Nat}(ha:Sm WB a)(h:aO a < aO b):nval WB a < nval WB b:=by
 have la:=dI a;have lb:=dI b;rw[<-dA a,<-dA b];exact aaQ aX (ha.take _) (uT b) (by simp;omega)
def abI(ha:RN w va la)(hb:RN w vb lb)(hna:la.length<=4398046511104)(hnb:lb.length<=4398046511104):
  Calls prog 89 #[va,vb] w fun e w'=>e= .returned (.int .i64 (lV (nval WB la) (nval WB lb)))/\Ext w w':=by
 have sa:=ha.sm;have sb:=hb.sm;have HSA:=aq sa;have HSB:=aq sb;have ka:=dI la;have kb:=dI lb;by_cases hl:aO la=aO lb
 ·by_cases h0:aO la=0
  ·have hf:lV (nval WB la) (nval WB lb)=0:=anh (by rw[(kK aX).2 h0,(kK aX).2 ya])
   have HF:=aq hf;obtain⟨oa,ca,rfl,_⟩:=id ha;obtain⟨ob,cb,rfl,_⟩:=id hb;have hb0:aO lb=0:=ya
   have hla:(aO la != aO lb)=false:=by simp[hl]
   have ca:=dJ ha hna;have cb:=dJ hb hnb;rw[h0]at ca;rw[hb0]at cb;have CA:=aq ca;have CB:=aq cb;clear hf h0 hb0 hl hla ca cb sa sb ka kb ha hb
   go_enter func89,ntmps89
   go_wp2_with fail;refine CA.out.mono ?_;rintro e w' ⟨rfl,rfl⟩
   go_wp2_with fail;refine CB.out.mono ?_;rintro e w' ⟨rfl,rfl⟩;go_wp2
   go_loop [5] (fun k=>k= .int .i64 (-1)) (fun k=>0)
   case atStart=>rfl
   case round=>
    subst hrel;go_wp2;go_ret;exact⟨by rw[HF.out];rfl,Ext.refl _⟩
  ·rcases ha.shape with⟨rfl,_⟩|⟨b,o,am,rfl,a0,a1,a2,a3⟩
   ·exact absurd (by simpa using ka) h0
   rcases hb.shape with⟨rfl,_⟩|⟨b',o',cap',rfl,b0,b1,b2,b3⟩
   ·exact absurd (by simp at kb;omega) h0
   have CA:=aq (dJ ha hna);have CB:=aq (dJ hb hnb);obtain⟨n,hn⟩:∃n,n=aO la:=⟨_,rfl⟩;rw[<-hn]at CA hl ka h0;rw[<-hl]at CB kb;have HL:=aq hl;have HN:=aq hn;clear hl hn ha hb sa sb
   go_enter func89,ntmps89
   go_wp2_with fail;refine CA.out.mono ?_;rintro e w' ⟨rfl,rfl⟩
   go_wp2_with fail;refine CB.out.mono ?_;rintro e w' ⟨rfl,rfl⟩;go_wp2
   go_loopw [5] (fun k wr=>∃i:Nat,i<=n/\k= .int .i64 ((i:Int) - 1)/\(∀j,i<=j->gd la j=gd lb j)/\Ext w wr) (fun k _=>(intOf k+1).toNat)
   case atStart=>exact⟨n,ya,rfl,fun j hj=>by rw[gd,gd,j6 (by have:=HN.out;omega),j6 (by have:=HL.out;omega)],Ext.refl _⟩
   case round=>
    obtain⟨i,hi,rfl,hz,hx⟩:=hrel;have HZ:=aq hz;clear hz;by_cases hi0:i=0
    ·subst hi0;have hf:lV (nval WB la) (nval WB lb)=0:=anh (ap1 (fun j=>HZ.out j ya) (by have:=HN.out;have:=HL.out;omega))
     have HF:=aq hf;clear hf;go_wp2;go_ret;exact⟨by rw[HF.out];rfl,hx⟩
    ·have hca:=hx.cell (a3 (i - 1) ya)
     have hcb:=hx.cell (b3 (i - 1) ya)
     have hn':=HN.out;have hl':=HL.out;have HNL:=aq (And.intro hn' hl');clear hn' hl';rcases Nat.lt_trichotomy (gd la (i - 1)) (gd lb (i - 1))with hlt|heq|hgt
     ·have hf:lV (nval WB la) (nval WB lb)= -1:=ab1 (aeZ (k:=i - 1) HSA.out HSB.out (fun j hj=>HZ.out j ya) (by have:=HNL.out;omega) (by have:=HNL.out;omega) hlt)
      have HF:=aq hf;clear hf;go_wp2
      go_region
      all_goals
       go_wp2;go_ret;exact⟨by rw[HF.out];rfl,hx.trans (Ext.drew _)⟩
     ·have hlt1:¬gd la (i - 1) < gd lb (i - 1):=ya
      have hlt2:¬gd lb (i - 1) < gd la (i - 1):=ya
      have HE:=aq heq;clear heq;go_wp2
      go_region
      all_goals
       go_wp2
       go_region
       all_goals
        go_wp2
        go_roundw
        case rel=>exact⟨i - 1,ya,by go_num,fun j hj=>if h:j=i - 1 then h▸HE.out else HZ.out j ya,(hx.trans (Ext.drew _)).trans (Ext.drew _)⟩
        case measure=>simp[intOf];omega
     ·have hlt1:¬gd la (i - 1) < gd lb (i - 1):=ya
      have hf:lV (nval WB la) (nval WB lb)=1:=ank (aeZ (k:=i - 1) HSB.out HSA.out (fun j hj=>(HZ.out j ya).symm) (by have:=HNL.out;omega) (by have:=HNL.out;omega) hgt)
      have HF:=aq hf;clear hf;go_wp2
      go_region
      all_goals
       go_wp2
       go_region
       all_goals
        go_wp2;go_ret;exact⟨by rw[HF.out];rfl,(hx.trans (Ext.drew _)).trans (Ext.drew _)⟩
 ·obtain⟨oa,ca,rfl,_⟩:=id ha;obtain⟨ob,cb,rfl,_⟩:=id hb;have CA:=aq (dJ ha hna);have CB:=aq (dJ hb hnb);have hne:((aO la:Int) != (aO lb:Int))=true:=by simp;omega
  rcases Nat.lt_or_gt_of_ne hl with hlt|hgt
  ·have HF:=aq (ab1 (xJ sa hlt));clear ha hb sa sb hl
   go_enter func89,ntmps89
   go_wp2_with fail;refine CA.out.mono ?_;rintro e w' ⟨rfl,rfl⟩
   go_wp2_with fail;refine CB.out.mono ?_;rintro e w' ⟨rfl,rfl⟩;go_wp2;go_ret;exact⟨by rw[HF.out];rfl,Ext.refl _⟩
  ·have HF:=aq (ank (xJ sb hgt));have hlt:¬aO la < aO lb:=ya
   clear ha hb sa sb hl
   go_enter func89,ntmps89
   go_wp2_with fail;refine CA.out.mono ?_;rintro e w' ⟨rfl,rfl⟩
   go_wp2_with fail;refine CB.out.mono ?_;rintro e w' ⟨rfl,rfl⟩;go_wp2;go_ret;exact⟨by rw[HF.out];rfl,Ext.refl _⟩
def nR:(prog.info? 35).map (fun i=>(i.zero,i.size,i.bytes))=some (some (.int .u64 0),1,8):=by kernel_rfl
def wv(l:List Nat):List Value:=l.map fun x:Nat=>Value.int .u64 (x:Int)
def rV(l:List Nat):(wv l).length=l.length:=by simp[wv]
def ajG(l:List Nat):∀u∈wv l,u.oneCell'=true:=by
 intro u hu;simp[wv]at hu;obtain⟨a,_,rfl⟩:=hu;rfl
def a0m{j:Nat}{u:Value}(h:(wv l)[j]? =some u):j < l.length/\u= .int .u64 ((gd l j:Nat):Int):=by
 simp only[wv,List.getElem?_map,Option.map_eq_some_iff]at h
 obtain⟨a,ha,rfl⟩:=h;obtain⟨h1,h2⟩:=List.getElem?_eq_some_iff.1 ha
 exact⟨h1,by simp[gd,List.getD_eq_getElem?_getD,ha]⟩
def ao2(w:World):
  Calls prog 60 #[.slice none 0 0] w fun e w'=>e= .returned (.slice none 0 0)/\w=w':=by
 have hq:=fun w=>Lib.run_eql_slice_nil (P:=prog) w 31 35 none 0 0 0 0 underlying31
 go_enter func60,ntmps60
 go_wp2;go_ret;exact⟨rfl,rfl⟩
def ash(ad:Addr)(n am:Nat)(l:List Nat)(hl:l.length=n)(hn:n<=4398046511104)(w:World)(hc:∀j u,(wv l)[j]? =some u->w.cell? (ad.add j)=some u):
  Calls prog 60 #[.slice (some ad) n am] w fun e w'=>(∃v,e= .returned v/\w'.ownsRow w.heap.size 35 1 v n (wv l))/\Ext w w':=by
 have hq:=fun w=>Lib.run_eql_slice_nil (P:=prog) w 31 35 (some ad) n am 0 0 underlying31
 obtain⟨i0,hi,hz0,hz1,hz2⟩:=info_parts nR;have hown:(w.alloc (.cells #[] 35)).ownsRow w.heap.size 35 1 (.slice (some ⟨w.heap.size,0,none⟩) 0 0) 0 []:=World.ownsRow_made w #[] 0 (Nat.le_refl _) (by simp[maxLen]) rfl
 have hcs:∀j u,(wv l)[j]? =some u->(w.alloc (.cells #[] 35)).cell? (ad.add j)=some u:=fun j u h=>(Ext.alloc w _).cell (hc j u h)
 have hwl:(wv l).length=n*1:=by rw[rV];omega
 have HC:=aq hcs;have HL:=aq hwl;clear hl hc hcs hwl
 go_enter func60,ntmps60
 go_wp2_with (at_builtin;refine wpList_append_own _ rfl (.tmp 5) (.tmp 6) 31 rfl w.heap.size 35 i0 (.int .u64 0) 1 8 underlying31 hi hz0 hz1 hz2 rfl yb _ _ _ rfl hown ad n am (wv l) rfl HL.out HC.out (ajG _) (by unfold maxLen;omega) ya (by simp) ?_;intro v' w1 hown' hgrow _)
 go_ret;refine⟨⟨_,rfl,?_⟩,?_⟩
 ·simpa using hown'
 ·exact Below.grown (Ext.alloc w _) hgrow (by simp) (fun k hk=>Nat.le_of_eq (Option.some.inj hk))
def adA{ad:Addr}(h:RN w (.slice (some ad) n am) l):
  ∀j u,(wv l)[j]? =some u->w.cell? (ad.add j)=some u:=by
 intro j u hu;obtain⟨hj,rfl⟩:=a0m hu;obtain⟨oa,cap',hv,h1,h2,h3,h4,h5⟩:=h;simp only[Value.slice.injEq]at hv;obtain⟨rfl,rfl,rfl⟩:=hv;obtain⟨b,o,e,c⟩:=h5 j hj;simp only[Option.some.injEq]at e;subst e;rw[<-c];unfold Addr.add
 split <;> simp_all
def ap4{oa:Option Addr}(h:RN w (.slice oa n am) l)(hn:l.length<=4398046511104):
  Calls prog 60 #[.slice oa n am] w fun e w'=>(∃v,e= .returned v/\w'.ownsRow w.heap.size 35 1 v l.length (wv l))/\Ext w w':=by
 have hl:=h.len;subst hl;cases oa with
 |some ad=>exact ash ad _ am l rfl hn w (adA h)
 |none=>
  obtain⟨oa,cap',hv,h1,h2,h3,h4,h5⟩:=h;simp only[Value.slice.injEq]at hv;obtain⟨rfl,_,rfl⟩:=hv;have:=h3 rfl;subst this;have h0:l=[]:=List.eq_nil_of_length_eq_zero ya
  subst h0;refine(ao2 w).mono fun e w' ⟨he,hw⟩=>?_
  subst he hw;exact⟨⟨_,rfl,World.ownsRow_nil _ _ _ _⟩,Ext.refl _⟩
def aaw{base:Nat}(h:w.ownsRow base e 1 v l.length (wv l))(hs:Sm WB l):RN w v l:=by
 rcases h.2 with⟨rfl,h0⟩|⟨g,am,cur,rfl,hb,hg,hn,hm,hcs,htk⟩
 ·rw[List.eq_nil_of_length_eq_zero h0];exact RN.nil w
 ·refine RN.mk hs hn hm fun i hi=>?_
  have:=h.cellAt i ya
  rw[Nat.zero_add,this];simp[wv,List.getElem?_map,List.getElem?_eq_getElem hi,gd,List.getD_eq_getElem?_getD]
def ard{base:Nat}{oa:Option Addr}(h:w.ownsRow base e 1 (.slice oa n am) n (wv l))(hk:k<=n)(hk0:0 < k):
  w.ownsRow base e 1 (.slice oa k am) k (wv (l.take k)):=by
 have hl:=h.1;rw[rV]at hl;rcases h.2 with⟨e1,h0⟩|⟨g,cap',cur,e1,hb,hg,hn,hm,hcs,htk⟩
 ·omega
 ·simp only[Value.slice.injEq,true_and]at e1;obtain⟨rfl,rfl⟩:=e1;refine⟨by rw[rV,List.length_take];omega,.inr ⟨g,am,cur,rfl,hb,hg,ya,hm,hcs,?_⟩⟩
  have e2:wv (l.take k)=(wv l).take k:=by simp[wv,List.map_take]
  rw[e2,<-htk,List.take_take]
  congr 1;omega
def ON(base:Nat)(w:World)(v:Value)(n:Nat):Prop:=
 ∃l,w.ownsRow base 35 1 v l.length (wv l)/\Sm WB l/\Nrm l/\nval WB l=n/\(l=[]->v= .slice none 0 0)
def ON.nn{base:Nat}(h:ON base w v n):NN w v n:=by
 obtain⟨l,h1,h2,h3,h4,h5⟩:=h;exact⟨l,aaw h1 h2,h3,h4,h5⟩
def ON.zero(base:Nat)(w:World):ON base w (.slice none 0 0) 0:=⟨[],World.ownsRow_nil _ _ _ _,Sm.nil,Nrm.nil,rfl,fun _=>rfl⟩
def lW{base:Nat}(h:w.ownsRow base 35 1 v l.length (wv l))(hs:Sm WB l)(hn:l.length<=4398046511104):
  Calls prog 59 #[v] w fun e w'=>(∃v,e= .returned v/\ON base w' v (nval WB l))/\w=w':=by
 have hrn:=aaw h hs;obtain⟨oa,am,hv,_⟩:=id hrn;subst hv;have hnn:aO l≠0->ON base w (.slice oa (aO l) am) (nval WB l):=fun h0=>
  ⟨l.take (aO l),by have:=ard h (dI l) (Nat.pos_of_ne_zero h0);rwa [List.length_take,Nat.min_eq_left (dI l)],hs.take _,uT l,dA l,fun e=>absurd (by have:=congrArg List.length e;rw[List.length_take,Nat.min_eq_left (dI l)]at this;exact this) h0⟩
 have hz:aO l=0->nval WB l=0:=fun h0=>(kK aX).2 h0
 have HRN:=aq hrn;clear hrn h;by_cases h0:aO l=0
 ·have hb:((aO l:Int)==0)=true:=by simp[h0]
  have HZ:=aq (hz h0);clear h0 hz hnn
  go_enter func59,ntmps59
  go_wp2_with (go_at_call 49;refine(dJ HRN.out hn).mono ?_;rintro e w' ⟨rfl,rfl⟩)
  go_ret;exact⟨⟨_,rfl,by rw[HZ.out];exact ON.zero _ _⟩,rfl⟩
 ·have hb:((aO l:Int)==0)=false:=by simp;omega
  have HN:=aq (hnn h0);clear h0 hz hnn
  go_enter func59,ntmps59
  go_wp2_with (go_at_call 49;refine(dJ HRN.out hn).mono ?_;rintro e w' ⟨rfl,rfl⟩)
  go_ret;exact⟨⟨_,rfl,HN.out⟩,rfl⟩
def iq(h:RN w v l)(hn:l.length<=4398046511104):
  Calls prog 35 #[v] w fun e w'=>(∃v,e= .returned v/\ON w.heap.size w' v (nval WB l))/\Ext w w':=by
 obtain⟨oa,am,rfl,_⟩:=id h;have hk:=h.take (dI l);have hkl:(l.take (aO l)).length<=4398046511104:=by rw[List.length_take];omega
 have hv:=dA (B:=WB) l;have hs:=hk.sm;have HV:=aq hv;have HC:=aq (ap4 hk hkl);have HT:=aq (dJ h hn);clear hv hk h
 go_enter func35,ntmps35
 go_wp2_with fail;refine HT.out.mono ?_;rintro e w' ⟨rfl,rfl⟩
 go_wp2_with fail;refine HC.out.mono ?_;rintro e w1 ⟨⟨v1,rfl,ho⟩,hx⟩;have HO:=aq ho;clear ho
 go_wp2_with fail;refine(lW HO.out hs hkl).mono ?_;rintro e w' ⟨⟨v2,rfl,ho2⟩,rfl⟩;go_wp2;go_ret;exact⟨⟨_,rfl,by rw[<-HV.out];exact ho2⟩,hx⟩
def atw(x:Nat)(hx:x < WB)(w:World):Calls prog 21 #[.int .u64 (x:Int)] w fun e w'=>(∃v,e= .returned v/\ON w.heap.size w' v x)/\Ext w w':=by
 rcases Nat.eq_zero_or_pos x with h0|h0
 ·subst h0;exact(awM w).mono fun e w' ⟨he,hw⟩=>by subst he hw;exact⟨⟨_,rfl,ON.zero _ _⟩,Ext.refl _⟩
 ·refine(ay3 x h0 w).mono fun e w' ⟨he,hw⟩=>?_
  subst he hw;refine⟨⟨_,rfl,[x],⟨by simp[rV],.inr ⟨w.heap.size,1,_,rfl,Nat.le_refl _,heap_alloc_new w _,Nat.le_refl _,by simp[maxLen],by simp,by simp[wv]⟩⟩,Sm.nil.cons hx,.inr (by simp;omega),by simp[nval],fun e=>by simp at e⟩,Ext.alloc _ _⟩
def bV(n:Nat):Nat:=n % 18446744073709551616
def gK(n:Nat):Nat:=n / 18446744073709551616
def abf(n:Nat):bV n+WB*gK n=n:=by unfold bV gK WB;omega
def rY(n:Nat):bV n < WB:=by unfold bV WB;omega
def vJ(x y c:Nat)(hc:c<=1)(w:World):
  (callFunc 131 #[.int .u64 (x:Int),.int .u64 (y:Int),.int .u64 (c:Int)]).run prog w=
   .ok (.value (.tuple #[.int .u64 ((bV (x+y+c):Nat):Int),.int .u64 ((gK (x+y+c):Nat):Int)])) w:=by
 rw[run_callFunc_extern func131 (by kernel_rfl) (by kernel_rfl) (by kernel_rfl) (e:=add64Entry) (by kernel_rfl),run_add64 x y c ya ya ya ya]
 simp only[Result.andThen,bV,gK]
 congr 5 <;> omega
def akd(x y c:Nat)(hc:c<=1)(hy:y=0)(w:World):
  (callFunc 131 #[.int .u64 (x:Int),.int .u64 0,.int .u64 (c:Int)]).run prog w=
   .ok (.value (.tuple #[.int .u64 ((bV (x+y+c):Nat):Int),.int .u64 ((gK (x+y+c):Nat):Int)])) w:=by
 subst hy;exact vJ x 0 c hc w
def lg(x y:Nat)(w:World):
  (callFunc 131 #[.int .u64 (x:Int),.int .u64 (y:Int),.int .u64 0]).run prog w=
   .ok (.value (.tuple #[.int .u64 ((bV (x+y):Nat):Int),.int .u64 ((gK (x+y):Nat):Int)])) w:=vJ x y 0 ya w
def mac64(hx:x < WB)(hy:y < WB)(hg:g < WB)(hc:c < WB):
  gK (x*y)+gK (bV (x*y)+g)+gK (bV (bV (x*y)+g)+c) < WB/\
  bV (bV (bV (x*y)+g)+c)+WB*(gK (x*y)+gK (bV (x*y)+g)+gK (bV (bV (x*y)+g)+c))=g+x*y+c:=by
 have h:=aeO hx hy hg hc;have h1:=abf (x*y);have h2:=abf (bV (x*y)+g);have h3:=abf (bV (bV (x*y)+g)+c);generalize x*y=p at*;unfold WB at*;omega
def a0n:Array Value->Sem Value:=fun ao=>do
 let(x,y,b)<-Extern.MathBitsCarry.three "Sub64" ao
 pure (Extern.MathBitsCarry.pair ((x+Extern.MathBitsCarry.m64 - y - b) % Extern.MathBitsCarry.m64) (if x < y+b then 1 else 0))
def akr(x y b:Nat):Nat:=if x < y+b then 1 else 0
def yV(x y b:Nat):Nat:=(x+18446744073709551616 - y - b) % 18446744073709551616
def aak(hx:x < WB)(hy:y < WB)(hb:b<=1):yV x y b+y+b=x+WB*akr x y b/\yV x y b < WB/\akr x y b<=1:=by
 unfold yV akr;rw[bf]at*
 split <;> omega
def vB(x y b:Nat)(hb:b<=1)(w:World):
  (callFunc 132 #[.int .u64 (x:Int),.int .u64 (y:Int),.int .u64 (b:Int)]).run prog w=
   .ok (.value (.tuple #[.int .u64 ((yV x y b:Nat):Int),.int .u64 ((akr x y b:Nat):Int)])) w:=by
 rw[run_callFunc_extern func132 (by kernel_rfl) (by kernel_rfl) (by kernel_rfl) (e:=a0n) (by kernel_rfl)]
 have:b=0\/b=1:=ya
 rcases this with rfl|rfl <;> rfl
def akR(x y b:Nat)(hb:b<=1)(hy:y=0)(w:World):
  (callFunc 132 #[.int .u64 (x:Int),.int .u64 0,.int .u64 (b:Int)]).run prog w=
   .ok (.value (.tuple #[.int .u64 ((yV x y b:Nat):Int),.int .u64 ((akr x y b:Nat):Int)])) w:=by
 subst hy;exact vB x 0 b hb w
def uy(a:Nat)(ha:a < 18446744073709551616):bits .and .u64 (a:Int) 4294967295=((a % 4294967296:Nat):Int):=by
 have h:=bits_and_u64_nat a 4294967295 ha ya
 have e:a &&& 4294967295=a % 4294967296:=Nat.and_two_pow_sub_one_eq_mod a 32;rw[e]at h;exact h
def axx(a:Nat):(a:Int) / 4294967296=((a / 4294967296:Nat):Int):=ya
def awo(a b:Nat):(a:Int)*(b:Int)=((a*b:Nat):Int):=(Int.natCast_mul a b).symm
def avG(a b:Nat):(a:Int)+(b:Int)=((a+b:Nat):Int):=(Int.natCast_add a b).symm
def iB(a:Nat)(ha:a < 18446744073709551616):IntKind.u64.wrap (a:Int)=(a:Int):=by rw[IntKind.wrap_u64];omega
def rA(a:Nat):IntKind.u64.wrap (a:Int)=((a % 18446744073709551616:Nat):Int):=by rw[IntKind.wrap_u64];omega
def aqQ(x1 x0 y1 y0 K:Nat):(x1*K+x0)*(y1*K+y0)=x1*y1*(K*K)+(x1*y0+x0*y1)*K+x0*y0:=by grind
def rD{a:Nat}(ha:a<=4294967295)(hb:b<=4294967295):a*b<=18446744065119617025:=Nat.mul_le_mul ha hb
def bt_hi(x y:Nat)(hx:x < 18446744073709551616)(hy:y < 18446744073709551616):
  (x % 4294967296)*(y % 4294967296) < 18446744073709551616/\
  (x / 4294967296)*(y % 4294967296)+(x % 4294967296)*(y % 4294967296) / 4294967296 < 18446744073709551616/\
  ((x / 4294967296)*(y % 4294967296)+(x % 4294967296)*(y % 4294967296) / 4294967296) % 4294967296+(x % 4294967296)*(y / 4294967296) < 18446744073709551616/\
  (x / 4294967296)*(y / 4294967296)+((x / 4294967296)*(y % 4294967296)+(x % 4294967296)*(y % 4294967296) / 4294967296) / 4294967296+
   (((x / 4294967296)*(y % 4294967296)+(x % 4294967296)*(y % 4294967296) / 4294967296) % 4294967296+(x % 4294967296)*(y / 4294967296)) / 4294967296=x*y / 18446744073709551616:=by
 have e:x*y=(x / 4294967296)*(y / 4294967296)*(4294967296*4294967296)+((x / 4294967296)*(y % 4294967296)+(x % 4294967296)*(y / 4294967296))*4294967296+(x % 4294967296)*(y % 4294967296):=by
  rw[<-aqQ,Nat.div_add_mod' x 4294967296,Nat.div_add_mod' y 4294967296]
 have ha:=rD (a:=x / 4294967296) (b:=y / 4294967296) ya ya
 have hb:=rD (a:=x / 4294967296) (b:=y % 4294967296) ya ya
 have hc:=rD (a:=x % 4294967296) (b:=y / 4294967296) ya ya
 have hd:=rD (a:=x % 4294967296) (b:=y % 4294967296) ya ya
 rw[e];generalize (x / 4294967296)*(y / 4294967296)=a at*;generalize (x / 4294967296)*(y % 4294967296)=b at*;generalize (x % 4294967296)*(y / 4294967296)=c at*;generalize (x % 4294967296)*(y % 4294967296)=d at*;refine⟨ya,ya,ya,ya⟩
def uW(x y:Nat)(hx:x < WB)(hy:y < WB)(w:World):
  Calls prog 184 #[.int .u64 (x:Int),.int .u64 (y:Int)] w fun e w'=>e= .returned (.tuple #[.int .u64 ((gK (x*y):Nat):Int),.int .u64 ((bV (x*y):Nat):Int)])/\w=w':=by
 unfold WB at hx hy;unfold gK bV;obtain⟨bd,bt,bw,hhi⟩:=bt_hi x y hx hy;have ba:=rD (a:=x / 4294967296) (b:=y / 4294967296) ya ya
 have bb:=rD (a:=x / 4294967296) (b:=y % 4294967296) ya ya
 have bc:=rD (a:=x % 4294967296) (b:=y / 4294967296) ya ya
 have ba':x / 4294967296*(y / 4294967296) < 18446744073709551616:=ya
 have bb':x / 4294967296*(y % 4294967296) < 18446744073709551616:=ya
 have bc':x % 4294967296*(y / 4294967296) < 18446744073709551616:=ya
 have bh1:x / 4294967296*(y / 4294967296)+(x / 4294967296*(y % 4294967296)+x % 4294967296*(y % 4294967296) / 4294967296) / 4294967296 < 18446744073709551616:=ya
 have bh:x / 4294967296*(y / 4294967296)+(x / 4294967296*(y % 4294967296)+x % 4294967296*(y % 4294967296) / 4294967296) / 4294967296+((x / 4294967296*(y % 4294967296)+x % 4294967296*(y % 4294967296) / 4294967296) % 4294967296+x % 4294967296*(y / 4294967296)) / 4294967296 < 18446744073709551616:=ya
 go_enter func184,ntmps184
 go_wp2;simp only[uy x hx,uy y hy,axx,awo,avG,iB _ bd,iB _ bb',iB _ bt,uy _ bt,iB _ bc',iB _ bw,iB _ ba',iB _ bh1,iB _ bh,rA (x*y)];rw[hhi]
 go_ret2
 exact⟨rfl,rfl⟩
def aah{P:Program}{ae:Array Oper}{aa:List Oper}{o:Oper}{a:Act}{Q:Exit->Act->World->Prop}(hg:o.guard=none)(t:TypeId)(s:ByteArray)(k:Nat)(hop:o.op=Op.index t (.const (.string s)) (.tmp k))(hs:s=Lib.len8tab)(ht:P.underlying t=some .string)(y:Nat)(hy:y < 256)(hk:a.eval (.tmp k)= .int .u8 (y:Int))(hK:wpList P ae Q aa (a.put o.dst (.int .u8 ((bitLen y:Nat):Int))) w):
  wpList P ae Q (o::aa) a w:=by
 subst hs;have h1:=Lib.run_index_len8tab (P:=P) (w:=w) t .u8 (y:Int) ht ya ya
 have h2:Lib.len8 (y:Int)=((bitLen y:Nat):Int):=by
  have:∀n:Fin 256,Lib.len8 (n.val:Int)=(bitLen n.val:Int):=by decide+kernel
  exact this ⟨y,hy⟩
 refine wpList_plain hg fun K hK'=>?_
 unfold Oper.wp;have h3:a.eval (.const (.string Lib.len8tab))= .string Lib.len8tab:=rfl;simp only[execOp,hop,h3,hk];rw[Sem.run_bind,h1,h2];exact hK' _ _ hK
def vY(x y n m:Nat):Prop:=bitLen x=n+bitLen y/\y < m/\n<=64
def vY.next(h:vY x y n m)(b:Nat)(hb:n+b<=64)(hb0:2 ^ b<=y)(m':Nat)(hm:y / 2 ^ b < m'):vY x (y / 2 ^ b) (n+b) m':=
 ⟨by rw[h.1,bitLen_shift y b (Nat.ne_of_gt (Nat.div_pos hb0 (Nat.two_pow_pos _)))];omega,hm,hb⟩
def aoM(x:Nat):(x:Int) / 4294967296=((x / 2 ^ 32:Nat):Int):=ya
def ap0(x:Nat):(x:Int) / 65536=((x / 2 ^ 16:Nat):Int):=ya
def aqA(x:Nat):(x:Int) / 256=((x / 2 ^ 8:Nat):Int):=ya
def aeG(x:Nat)(hx:x < WB)(w:World):
  Calls prog 50 #[.int .u64 (x:Int)] w fun e w'=>e= .returned (.int .i64 (bitLen x:Nat))/\w=w':=by
 have HX:=aq hx;clear hx
 go_enter func50,ntmps50
 go_upto_if 4 with fail
 go_cut [0,2] (fun s0 s2 wx=>∃y n:Nat,s0= .int .u64 y/\s2= .int .i64 n/\Hid (vY x y n 4294967296/\n<=32)/\w=wx)
 case first=>
  by_cases h:4294967296<=x
  ·have hd:decide ((4294967296:Int)<=(x:Int))=true:=by simp;omega
   have h0:vY x x 0 (x+1):=⟨ya,ya,ya⟩
   have hr:=h0.next 32 ya h 4294967296 (by have:=HX.out;rw[bf]at this;omega)
   have HR:Hid (vY x (x / 2 ^ 32) 32 4294967296/\32<=32):=aq ⟨hr,ya⟩
   clear hr h h0;simp only[hd];clear hd;go_wp2
   go_meet
   exact⟨_,32,by rw[aoM],rfl,HR,rfl⟩
  ·have hd:decide ((4294967296:Int)<=(x:Int))=false:=by simp;omega
   have hr:vY x x 0 4294967296:=⟨ya,ya,ya⟩
   have HR:Hid (vY x x 0 4294967296/\0<=32):=aq ⟨hr,ya⟩
   clear hr h;simp only[hd];clear hd;go_wp2
   go_meet
   exact⟨x,0,rfl,rfl,HR,rfl⟩
 case rest=>
  obtain⟨y,n,rfl,rfl,hl,rfl⟩:=hcut;have hn32:n<=32:=hl.out.2
  go_upto_if 8 with fail
  go_cut [0,2] (fun s0 s2 wx=>∃y n:Nat,s0= .int .u64 y/\s2= .int .i64 n/\Hid (vY x y n 65536/\n<=48)/\w=wx)
  case first=>
   by_cases h:65536<=y
   ·have hd:decide ((65536:Int)<=(y:Int))=true:=by simp;omega
    have hr:=hl.out.1.next 16 ya h 65536 (by have:=hl.out.1.2.1;omega)
    have HR:Hid (vY x (y / 2 ^ 16) (n+16) 65536/\n+16<=48):=aq ⟨hr,ya⟩
    clear hr h;simp only[hd];clear hd;go_wp2
    go_meet
    exact⟨_,n+16,by rw[ap0],by go_num,HR,rfl⟩
   ·have hd:decide ((65536:Int)<=(y:Int))=false:=by simp;omega
    have hr:vY x y n 65536:=⟨hl.out.1.1,ya,ya⟩
    have HR:Hid (vY x y n 65536/\n<=48):=aq ⟨hr,ya⟩
    clear hr h;simp only[hd];clear hd;go_wp2
    go_meet
    exact⟨y,n,rfl,rfl,HR,rfl⟩
  case rest=>
   clear hl hn32;obtain⟨y,n,rfl,rfl,hl,rfl⟩:=hcut;have hn32:n<=48:=hl.out.2
   go_upto_if 14 with fail
   go_cut [0,2] (fun s0 s2 wx=>∃y n:Nat,s0= .int .u64 y/\s2= .int .i64 n/\Hid (vY x y n 256/\n<=56)/\w=wx)
   case first=>
    by_cases h:256<=y
    ·have hd:decide ((256:Int)<=(y:Int))=true:=by simp;omega
     have hr:=hl.out.1.next 8 ya h 256 (by have:=hl.out.1.2.1;omega)
     have HR:Hid (vY x (y / 2 ^ 8) (n+8) 256/\n+8<=56):=aq ⟨hr,ya⟩
     clear hr h;simp only[hd];clear hd;go_wp2
     go_meet
     exact⟨_,n+8,by rw[aqA],by go_num,HR,rfl⟩
    ·have hd:decide ((256:Int)<=(y:Int))=false:=by simp;omega
     have hr:vY x y n 256:=⟨hl.out.1.1,ya,ya⟩
     have HR:Hid (vY x y n 256/\n<=56):=aq ⟨hr,ya⟩
     clear hr h;simp only[hd];clear hd;go_wp2
     go_meet
     exact⟨y,n,rfl,rfl,HR,rfl⟩
   case rest=>
    clear hl hn32;obtain⟨y,n,rfl,rfl,hl,rfl⟩:=hcut;have hn32:n<=56:=hl.out.2;have hy:y<=255:=by have:=hl.out.1.2.1;omega
    have hb8:bitLen y<=8:=bitLen_le8 y ya
    go_wp2_with (with_reducible (refine aah rfl _ _ 21 rfl (by kernel_rfl) rfl y ya rfl ?_))
    go_ret;exact⟨by rw[hl.out.1.1];simp,rfl⟩
def bitLen_le64(hx:x < WB):bitLen x<=64:=by
 unfold bitLen
 split
 ·omega
 ·rename_i h0;have:=(Nat.log2_lt h0).2 (show x < 2 ^ 64 by rw[bf]at hx;omega)
  omega
def nV(x:Nat)(hx:x < WB)(w:World):
  Calls prog 91 #[.int .u64 (x:Int)] w fun e w'=>e= .returned (.int .i64 ((64 - bitLen x:Nat):Int))/\w=w':=by
 have hl:=bitLen_le64 hx;have HL:=aq (aeG x hx w);clear hx
 go_enter func91,ntmps91
 go_wp2_with fail;refine HL.out.mono ?_;rintro e w' ⟨rfl,rfl⟩;go_wp2;go_ret;exact⟨congrArg Ending.returned (by go_num),rfl⟩
def Arr(base:Nat)(w:World)(g:Nat)(l:List Nat):Prop:=
 w.ownsRow base 35 1 (.slice (some ⟨g,0,none⟩) l.length l.length) l.length (wv l)
def Arr.cell{base g:Nat}{w:World}{l:List Nat}(h:Arr base w g l){i:Nat}(hi:i < l.length):w.cell? ⟨g,i,none⟩=some (.int .u64 ((gd l i:Nat):Int)):=by
 rw[World.ownsRow.cellAt h i ya]
 simp[wv,List.getElem?_map,List.getElem?_eq_getElem hi,gd,List.getD_eq_getElem?_getD]
def Arr.frozen{base g:Nat}{w:World}{l:List Nat}(h:Arr base w g l)(i:Nat):w.frozen? ⟨g,i,none⟩=false:=World.ownsRow.frozenAt h i
def Arr.store{base:Nat}(h:Arr base w g l)(i x:Nat):Arr base (w.setCell ⟨g,i,none⟩ (.int .u64 (x:Int))) g (l.set i x):=by
 have:=(World.ownsRow.stored h i (.int .u64 (x:Int))).1;have e:(wv l).set i (.int .u64 (x:Int))=wv (l.set i x):=by simp[wv,List.map_set]
 rw[e]at this;simpa[Arr]using this
def Arr.base{base g:Nat}{w:World}{l:List Nat}(h:Arr base w g l):base<=g/\g < w.heap.size:=World.ownsRow.lt h g rfl
def Arr.ext{base:Nat}{w':World}(h:Arr base w g l)(he:Ext w w'):Arr base w' g l:=by
 refine World.ownsRow.kept h (w':=w') (row:=none) ⟨he.os,he.tape,he.output,he.size,fun k hk _=>he.block hk⟩ (.inr (by simp[Value.ownBlock]))
def yB{r:List Nat}:(r++List.replicate (m+1) 0).set r.length x=(r++[x])++List.replicate m 0:=by
 rw[List.replicate_succ,List.set_append_right _ _ (Nat.le_refl _),Nat.sub_self,List.set_cons_zero,List.append_assoc];rfl
def oG(n:Nat):(madeCells (Value.int .u64 0).cells (n*1)).toList=wv (List.replicate n 0):=by
 rw[Nat.mul_one];show (madeCells #[Value.int .u64 0] n).toList=_;rw[toList_madeCells_one];simp[wv]
def Arr.own{base:Nat}(h:Arr base w g l):w.ownsRow base 35 1 (.slice (some ⟨g,0,none⟩) l.length l.length) l.length (wv l):=h
def nW(la lb:List Nat)(k:Nat)(r:List Nat)(c:Nat):Prop:=je WB la lb k r c
def nW.start(la lb:List Nat):nW la lb 0 [] 0:=je.start _ _ _
def adw(hx:x < WB)(hy:y < WB)(hc:c<=1):gK (x+y+c)<=1:=by
 unfold gK;rw[bf]at*;omega
def nW.step{la lb:List Nat}{k c:Nat}{r:List Nat}(h:nW la lb k r c)(ha:Sm WB la)(hb:Sm WB lb):
  nW la lb (k+1) (r++[bV (gd la k+gd lb k+c)]) (gK (gd la k+gd lb k+c)):=
 je.step h (rY _) (adw (jv ha k) (jv hb k) h.2.2.1) (abf _)
def nW.done{la lb:List Nat}{n c:Nat}{r:List Nat}(h:nW la lb n r c)(ha:nval WB (la.take n)=nval WB la)(hb:nval WB (lb.take n)=nval WB lb):
  Sm WB (r++[c])/\nval WB (r++[c])=nval WB la+nval WB lb:=je.done h uq ha hb
def zK(ha:RN w va la)(hb:RN w vb lb)(hna:la.length<=1099511627775)(hnb:lb.length<=1099511627775):
  Calls prog 83 #[va,vb] w fun e w'=>(∃v,e= .returned v/\ON w.heap.size w' v (nval WB la+nval WB lb))/\Ext w w':=by
 obtain⟨oa,ca,rfl,_⟩:=id ha;obtain⟨ob,cb,rfl,_⟩:=id hb;have CA:=aq (dJ ha ya)
 have CB:=aq (dJ hb ya)
 -- the longer one,the shorter one
 obtain⟨ox,cx,lx,oy,cy,ly,hx,hy,hxy,hlx,hcase,hsum⟩:∃ox cx lx oy cy ly,RN w (.slice ox (aO lx) cx) (lx.take (aO lx))/\RN w (.slice oy (aO ly) cy) (ly.take (aO ly))/\aO ly<=aO lx/\aO lx<=1099511627775/\
   (aO la < aO lb/\ox=ob/\cx=cb/\lx=lb/\oy=oa/\cy=ca/\ly=la\/¬aO la < aO lb/\ox=oa/\cx=ca/\lx=la/\oy=ob/\cy=cb/\ly=lb)/\nval WB lx+nval WB ly=nval WB la+nval WB lb:=by
  have ka:=dI la;have kb:=dI lb;by_cases h:aO la < aO lb
  ·exact⟨ob,cb,lb,oa,ca,la,hb.take kb,ha.take ka,ya,ya,.inl ⟨h,rfl,rfl,rfl,rfl,rfl,rfl⟩,ya⟩
  ·exact⟨oa,ca,la,ob,cb,lb,ha.take ka,hb.take kb,ya,ya,.inr ⟨h,rfl,rfl,rfl,rfl,rfl,rfl⟩,ya⟩
 obtain⟨i0,hi,hz0,hz1,hz2⟩:=info_parts nR;have lx_sm:Hid (Sm WB lx):=aq (by rcases hcase with⟨_,_,_,rfl,_⟩|⟨_,_,_,rfl,_⟩ <;> first|exact hb.sm|exact ha.sm)
 have ly_sm:Hid (Sm WB ly):=aq (by rcases hcase with⟨_,_,_,_,_,_,rfl⟩|⟨_,_,_,_,_,_,rfl⟩ <;> first|exact ha.sm|exact hb.sm)
 have HS:=aq hsum;have HC:=aq hcase;clear hsum hcase ha hb hna hnb
 go_enter func83,ntmps83
 go_wp2_with fail;refine CA.out.mono ?_;rintro e w' ⟨rfl,rfl⟩
 go_wp2_with fail;refine CB.out.mono ?_;rintro e w' ⟨rfl,rfl⟩
 go_upto_if 17 with fail
 go_cut [0,1] (fun s0 s1 wx=>s0= .slice ox (aO lx) cx/\s1= .slice oy (aO ly) cy/\w=wx)
 case first=>
  rcases HC.out with⟨hlt,rfl,rfl,rfl,rfl,rfl,rfl⟩|⟨hlt,rfl,rfl,rfl,rfl,rfl,rfl⟩;all_goals
   go_wp2
   go_meet
   exact⟨rfl,rfl,rfl⟩
 case rest=>
  obtain⟨rfl,rfl,rfl⟩:=hcut;have hbytes:i0.bytes*(aO lx+1)<=281474976710656:=by rw[hz2];omega
  go_wp2_with (at_make;refine wpList_make_full _ rfl (.tmp 22) (.tmp 22) 31 rfl w.heap.size 35 i0 (.int .u64 0) 1 underlying31 hi hz0 hz1 .i64 .i64 _ _ (aO lx+1) rfl rfl ya ya hbytes (by unfold maxLen;omega) (Nat.le_refl _) ?_;intro w1 hown hgrow)
  have hA:Arr w.heap.size w1 w.heap.size (List.replicate (aO lx+1) 0):=by
   rw[oG]at hown;unfold Arr;rw[List.length_replicate];exact hown
  have hE:Ext w w1:=Below.grown (Below.refl _ _) hgrow (Nat.le_refl _) (fun k hk=>by cases hk)
  clear hown hgrow
  go_loopw [6,26] (fun c k wr=>∃(i:Nat) (r:List Nat) (cy:Nat),i<=aO lx/\k= .int .i64 i/\c= .int .u64 cy/\nW lx ly i r cy/\Arr w.heap.size wr w.heap.size (r++List.replicate (aO lx+1 - i) 0)/\Ext w wr) (fun _ k _=>aO lx - (intOf k).toNat)
  case atStart=>exact⟨0,[],0,ya,rfl,rfl,nW.start _ _,hA,hE⟩
  case round=>
   obtain⟨i,r,cc,hi',rfl,rfl,hinv,hAr,hEr⟩:=hrel;have hlen:(r++List.replicate (aO lx+1 - i) 0).length=aO lx+1:=by have:=hinv.1;simp;omega
   have hcy:=hinv.2.2.1;by_cases hilt:i < aO lx
   ·obtain⟨bx,ofx,rfl,hcx⟩:∃b o,ox=some ⟨b,o,none⟩/\wr.cell? ⟨b,o+i,none⟩=some (.int .u64 ((gd lx i:Nat):Int)):=by
     obtain⟨oa',cap',hv,h1,h2,h3,h4,h5⟩:=hx;simp only[Value.slice.injEq]at hv;obtain⟨rfl,e2,rfl⟩:=hv;obtain⟨b,o,e,c⟩:=h5 i ya
     rw[sG hilt]at c;exact⟨b,o,e,hEr.cell c⟩
    have hout:=hAr.cell (i:=i) ya
    have hfz:=hAr.frozen i;have hst:=hAr.store i (bV (gd lx i+gd ly i+cc));have hnew:(r++List.replicate (aO lx+1 - i) 0).set i (bV (gd lx i+gd ly i+cc))=(r++[bV (gd lx i+gd ly i+cc)])++List.replicate (aO lx+1 - (i+1)) 0:=by
     have e1:aO lx+1 - i=(aO lx+1 - (i+1))+1:=ya
     rw[e1,<-hinv.1];exact yB
    rw[hnew]at hst;have hstep:=hinv.step (lx_sm.out) (ly_sm.out);have hgr:Ext w (wr.setCell ⟨w.heap.size,i,none⟩ (.int .u64 ((bV (gd lx i+gd ly i+cc):Nat):Int))):=Below.setCell hEr (Nat.le_refl _) _;have HST:=aq hst;have HSTEP:=aq hstep;have HGR:=aq hgr;clear hst hstep hgr hnew hlen hinv hAr;by_cases hily:i < aO ly
    ·obtain⟨by',ofy,rfl,hcyy⟩:∃b o,oy=some ⟨b,o,none⟩/\wr.cell? ⟨b,o+i,none⟩=some (.int .u64 ((gd ly i:Nat):Int)):=by
      obtain⟨oa',cap',hv,h1,h2,h3,h4,h5⟩:=hy;simp only[Value.slice.injEq]at hv;obtain⟨rfl,e2,rfl⟩:=hv;obtain⟨b,o,e,c⟩:=h5 i ya
      rw[sG hily]at c;exact⟨b,o,e,hEr.cell c⟩
     have hadd:=vJ (gd lx i) (gd ly i) cc hcy;clear hx hy hEr;go_wp2
     go_roundw
     case rel=>exact⟨i+1,_,_,ya,by go_num,rfl,HSTEP.out,HST.out,HGR.out⟩
     case measure=>simp[intOf];omega
    ·have hadd:=akd (gd lx i) (gd ly i) cc hcy (j6 ya)
     clear hx hy hEr;go_wp2
     go_roundw
     case rel=>exact⟨i+1,_,_,ya,by go_num,rfl,HSTEP.out,HST.out,HGR.out⟩
     case measure=>simp[intOf];omega
   ·have hin:i=aO lx:=ya
    subst hin;have hdone:=hinv.done (dA lx) (jP fun j hj=>j6 ya)
    have hout:=hAr.cell (i:=aO lx) ya
    have hfz:=hAr.frozen (aO lx);have hst:=hAr.store (aO lx) cc;have e0:aO lx+1 - aO lx=0+1:=ya
    have hnew:(r++List.replicate (aO lx+1 - aO lx) 0).set (aO lx) cc=r++[cc]:=by
     rw[e0];have:=yB (r:=r) (m:=0) (x:=cc);rw[hinv.1]at this;simpa using this
    rw[hnew]at hst;have hrl:(r++[cc]).length=aO lx+1:=by simp[hinv.1]
    have hno:=lW hst.own hdone.1 ya
    rw[hrl]at hno;have hgr:Ext w (wr.setCell ⟨w.heap.size,aO lx,none⟩ (.int .u64 (cc:Int))):=Below.setCell hEr (Nat.le_refl _) _;have HNO:=aq hno;have HD:=aq hdone.2;have HGR:=aq hgr;clear hst hdone hgr hnew hlen hinv hAr hno hrl hx hy hEr e0
    go_wp2_with fail;refine HNO.out.mono ?_;rintro e w' ⟨⟨v,rfl,ho⟩,rfl⟩;go_wp2;go_ret;exact⟨⟨_,rfl,by rw[<-HS.out,<-HD.out];exact ho⟩,HGR.out⟩
def yQ{ox:Option Addr}{cx:Nat}{lx:List Nat}(hx:RN w (.slice ox n cx) (lx.take n))(hE:Ext w wr)(hi:i < n):
  ∃b o,ox=some ⟨b,o,none⟩/\wr.cell? ⟨b,o+i,none⟩=some (.int .u64 ((gd lx i:Nat):Int)):=by
 have hl:=hx.len;obtain⟨oa',cap',hv,h1,h2,h3,h4,h5⟩:=hx;simp only[Value.slice.injEq]at hv;obtain⟨rfl,e2,rfl⟩:=hv;obtain⟨b,o,e,c⟩:=h5 i ya
 rw[sG hi]at c;exact⟨b,o,e,hE.cell c⟩
def rT(la lb:List Nat)(k:Nat)(r:List Nat)(c:Nat):Prop:=kF WB la lb k r c
def rT.start(la lb:List Nat):rT la lb 0 [] 0:=kF.start _ _ _
def rT.step{la lb:List Nat}{k c:Nat}{r:List Nat}(h:rT la lb k r c)(ha:Sm WB la)(hb:Sm WB lb):
  rT la lb (k+1) (r++[yV (gd la k) (gd lb k) c]) (akr (gd la k) (gd lb k) c):=by
 have hs:=aak (jv ha k) (jv hb k) h.2.2.1;exact kF.step h hs.2.1 hs.2.2 hs.1
def rT.done{la lb:List Nat}{n c:Nat}{r:List Nat}(h:rT la lb n r c)(ha:nval WB (la.take n)=nval WB la)(hb:nval WB (lb.take n)=nval WB lb)(hle:nval WB lb<=nval WB la):
  nval WB r=nval WB la - nval WB lb:=kF.done h ha hb hle
def aoT(hb:Sm WB lb)(h:nval WB la<=nval WB lb):aO la<=aO lb:=by
 rcases Nat.lt_or_ge (aO lb) (aO la)with h1|h1
 ·have:=xJ hb h1;omega
 ·exact h1
def atS(ha:RN w va la)(hb:RN w vb lb)(hna:la.length<=1099511627775)(hnb:lb.length<=1099511627775)(hlt:nval WB la < nval WB lb):
  Calls prog 84 #[va,vb] w fun e w'=>e= .returned (.tuple #[.slice none 0 0,.bool false])/\Ext w w':=by
 have hc:=abI ha hb ya ya
 rw[ab1 hlt]at hc;have HC:=aq hc;clear ha hb hc hlt hna hnb
 go_enter func84,ntmps84
 go_wp2_with fail;refine HC.out.mono ?_;rintro e w1 ⟨rfl,hx⟩;go_wp2
 go_ret2
 exact⟨rfl,hx⟩
def asD(ha:RN w va la)(hb:RN w vb lb)(hna:la.length<=1099511627775)(hnb:lb.length<=1099511627775)(hle:nval WB lb<=nval WB la):
  Calls prog 84 #[va,vb] w fun e w'=>(∃v,e= .returned (.tuple #[v,.bool true])/\ON w.heap.size w' v (nval WB la - nval WB lb))/\Ext w w':=by
 have HC:=aq (abI ha hb ya ya)
 have hcge:¬lV (nval WB la) (nval WB lb) < 0:=by unfold lV;rw[if_neg ya];split <;> omega
 obtain⟨oa,ca,rfl,_⟩:=id ha;obtain⟨ob,cb,rfl,_⟩:=id hb;have htl:=aoT ha.sm hle;have ka:=dI la;have kb:=dI lb;have sa:=aq ha.sm;have sb:=aq hb.sm;have HLE:=aq hle;have HA:=aq ha;have HB:=aq hb;obtain⟨i0,hi,hz0,hz1,hz2⟩:=info_parts nR;clear ha hb hle
 go_enter func84,ntmps84
 go_wp2_with fail;refine HC.out.mono ?_;rintro e w1 ⟨rfl,hE1⟩;have ha1:=HA.out.ext hE1;have hb1:=HB.out.ext hE1;have CA:=aq (dJ ha1 ya)
 have CB:=aq (dJ hb1 ya)
 have hx:=ha1.take ka;have hy:=hb1.take kb;clear ha1 hb1
 go_wp2_with fail;refine CA.out.mono ?_;rintro e w' ⟨rfl,rfl⟩
 go_wp2_with fail;refine CB.out.mono ?_;rintro e w' ⟨rfl,rfl⟩;have hbytes:i0.bytes*(aO la)<=281474976710656:=by rw[hz2];omega
 go_wp2_with (at_make;refine wpList_make_full _ rfl (.tmp 19) (.tmp 19) 31 rfl w.heap.size 35 i0 (.int .u64 0) 1 underlying31 hi hz0 hz1 .i64 .i64 _ _ (aO la) rfl rfl ya ya hbytes (by unfold maxLen;omega) hE1.size ?_;intro w2 hown hgrow)
 obtain⟨g,hg⟩:∃g,g=w1.heap.size:=⟨_,rfl⟩;have hgw:w.heap.size<=g:=by have:=hE1.size;omega
 have hA:Arr w.heap.size w2 g (List.replicate (aO la) 0):=by
  rw[oG]at hown;unfold Arr;rw[List.length_replicate,hg];exact hown
 have hE:Ext w1 w2:=Below.grown (Below.refl _ _) hgrow (Nat.le_refl _) (fun k hk=>by cases hk)
 have hE2:=hE1.trans hE;rw[<-hg];have HG:=aq hg;clear hown hgrow hg
 go_loopw [7,23] (fun c k wr=>∃(i:Nat) (r:List Nat) (cy:Nat),i<=aO la/\k= .int .i64 i/\c= .int .u64 cy/\rT la lb i r cy/\Arr w.heap.size wr g (r++List.replicate (aO la - i) 0)/\Ext w1 wr) (fun _ k _=>aO la - (intOf k).toNat)
 case atStart=>exact⟨0,[],0,ya,rfl,rfl,rT.start _ _,hA,hE⟩
 case round=>
  obtain⟨i,r,cc,hi',rfl,rfl,hinv,hAr,hEr⟩:=hrel;have hlen:(r++List.replicate (aO la - i) 0).length=aO la:=by have:=hinv.1;simp;omega
  have hcy:=hinv.2.2.1;by_cases hilt:i < aO la
  ·obtain⟨bx,ofx,rfl,hcx⟩:=yQ hx hEr hilt;have hout:=hAr.cell (i:=i) ya
   have hfz:=hAr.frozen i;have hst:=hAr.store i (yV (gd la i) (gd lb i) cc);have hnew:(r++List.replicate (aO la - i) 0).set i (yV (gd la i) (gd lb i) cc)=(r++[yV (gd la i) (gd lb i) cc])++List.replicate (aO la - (i+1)) 0:=by
    have e1:aO la - i=(aO la - (i+1))+1:=ya
    rw[e1,<-hinv.1];exact yB
   rw[hnew]at hst;have hstep:=hinv.step sa.out sb.out;have hgr:Ext w1 (wr.setCell ⟨g,i,none⟩ (.int .u64 ((yV (gd la i) (gd lb i) cc:Nat):Int))):=Below.setCell hEr (by have:=HG.out;simp;omega) _
   have HST:=aq hst;have HSTEP:=aq hstep;have HGR:=aq hgr;clear hst hstep hgr hnew hlen hinv hAr;by_cases hily:i < aO lb
   ·obtain⟨by',ofy,rfl,hcyy⟩:=yQ hy hEr hily;have hadd:=vB (gd la i) (gd lb i) cc hcy;clear hx hy hEr;go_wp2
    go_roundw
    case rel=>exact⟨i+1,_,_,ya,by go_num,rfl,HSTEP.out,HST.out,HGR.out⟩
    case measure=>simp[intOf];omega
   ·have hadd:=akR (gd la i) (gd lb i) cc hcy (j6 ya)
    clear hx hy hEr;go_wp2
    go_roundw
    case rel=>exact⟨i+1,_,_,ya,by go_num,rfl,HSTEP.out,HST.out,HGR.out⟩
    case measure=>simp[intOf];omega
  ·have hin:i=aO la:=ya
   subst hin;have hdone:=hinv.done (dA la) (jP fun j hj=>j6 ya) HLE.out
   have hnew:r++List.replicate (aO la - aO la) 0=r:=by simp
   rw[hnew]at hAr;have hno:=lW hAr.own hinv.2.1 (by have:=hinv.1;omega)
   rw[hinv.1]at hno;have HNO:=aq hno;have HD:=aq hdone;have HGR:=aq (hE1.trans hEr);clear hdone hnew hlen hinv hAr hno hx hy hEr
   go_wp2_with fail;refine HNO.out.mono ?_;rintro e w' ⟨⟨v,rfl,ho⟩,rfl⟩;go_wp2
   go_ret2
   exact⟨⟨_,rfl,by rw[<-HD.out];exact ho⟩,HGR.out⟩
def qD{oa:Option Addr}(ha:RN w (.slice oa n ca) la)(hE:w.grownBy wr (some g))(hg:∀b o,oa=some ⟨b,o,none⟩->b≠g)(hi:i < n):
  ∃b o,oa=some ⟨b,o,none⟩/\wr.cell? ⟨b,o+i,none⟩=some (.int .u64 ((gd la i:Nat):Int))/\b≠g:=by
 have hl:=ha.len;obtain⟨oa',cap',hv,h1,h2,h3,h4,h5⟩:=ha;simp only[Value.slice.injEq]at hv;obtain⟨rfl,e2,rfl⟩:=hv;obtain⟨b,o,e,c⟩:=h5 i ya
 exact⟨b,o,e,hE.cell c (by simpa using hg b o e),hg b o e⟩
def iH{a b c:World}{row:Option Nat}(h:a.grownBy b row)(k:b.grownBy c row):a.grownBy c row:=
 ⟨k.os.trans h.os,k.tape.trans h.tape,k.output.trans h.output,Nat.le_trans h.size k.size,fun i hi hr=>(k.block i (Nat.lt_of_lt_of_le hi h.size) hr).trans (h.block i hi hr)⟩
def jZ(w:World)(g i:Nat)(v:Value):w.grownBy (w.setCell ⟨g,i,none⟩ v) (some g):=
 ⟨rfl,rfl,rfl,by simp[World.setCell],fun k _ hk=>Below.heap_setCell _ _ _ _ (by intro e;exact hk (by rw[e]))⟩
def awO{base o:Nat}{oa:Option Addr}(hA:Arr base w g L)(ha:RN w (.slice oa la.length ca) la)(hg:0 < la.length->∀b o,oa=some ⟨b,o,none⟩->b≠g)(hx:x < WB)(hL:Sm WB L)(ho:o+la.length < L.length)(hn:L.length<=4398046511104)(h0:gd L (o+la.length)=0):
  Calls prog 179 #[.slice (some ⟨g,o,none⟩) (L.length - o) (L.length - o),.slice oa la.length ca,.int .u64 (x:Int)] w fun e w'=>e= .returned (.tuple #[])/\
   (∃r,r.length=la.length+1/\Arr base w' g (patch L o r)/\Sm WB (patch L o r)/\nval WB (patch L o r)=nval WB L+WB ^ o*(x*nval WB la))/\w.grownBy w' (some g):=by
 have hsa:=aq ha.sm;generalize hN:L.length=N at ho hn ⊢;generalize hnn:la.length=n at ha ho h0 hg ⊢;have HN:=aq hN;have HNN:=aq hnn;have HX:=aq hx;have HL:=aq hL;have H0:=aq h0;clear hN hnn hx hL h0
 go_enter func179,ntmps179
 go_wp2_with fail
 go_loopw [6,14] (fun c k wr=>∃(i:Nat) (r:List Nat) (cy:Nat),i<=n/\k= .int .i64 i/\c= .int .u64 cy/\mo WB (L.drop o) la x i r cy/\Arr base wr g (patch L o r)/\w.grownBy wr (some g)) (fun _ k _=>n - (intOf k).toNat)
 case atStart=>exact⟨0,[],0,ya,rfl,rfl,mo.start aX _ _ _,by rw[aa8];exact hA,World.grownBy.refl _ _⟩
 case round=>
  obtain⟨i,r,cc,hi',rfl,rfl,hinv,hAr,hEr⟩:=hrel;have hcc:=hinv.2.2.1;have hrl:=hinv.1;have hlen:(patch L o r).length=N:=by rw[gW (by have:=HN.out;omega)];exact HN.out
  by_cases hilt:i < n
  ·obtain⟨bx,ofx,rfl,hcx,hbg⟩:=qD ha hEr (hg ya) hilt
   have hout:=hAr.cell (i:=o+i) ya
   rw[qM (by have:=HN.out;omega) ya]at hout
   have hfz:=hAr.frozen (o+i);have hyl:=jv hsa.out i;have hgl:=jv HL.out (o+i);have hm:=mac64 HX.out hyl hgl hcc;have hM:=uW x (gd la i) HX.out hyl;have hst:=hAr.store (o+i) (bV (bV (bV (x*gd la i)+gd L (o+i))+cc));rw[<-hrl,kg (by have:=HN.out;omega),hrl]at hst
   have hstep:=hinv.step (rY _) hm.1 (by rw[kH];exact hm.2)
   have hgr:=iH hEr (jZ wr g (o+i) (.int .u64 ((bV (bV (bV (x*gd la i)+gd L (o+i))+cc):Nat):Int)));have hb:gK (x*gd la i)+gK (bV (x*gd la i)+gd L (o+i))+gK (bV (bV (x*gd la i)+gd L (o+i))+cc)<=18446744073709551615:=by have:=hm.1;rw[bf]at this;omega
   have ha1:=lg (bV (x*gd la i)) (gd L (o+i));have ha2:=lg (bV (bV (x*gd la i)+gd L (o+i))) cc;have HM:=aq hM;have HST:=aq hst;have HSTEP:=aq hstep;have HGR:=aq hgr;clear hM hst hstep hgr hm hyl hgl hlen hAr hinv hrl hEr hA ha hg hcc
   go_wp2_with fail;refine(HM.out _).mono ?_;rintro e w' ⟨rfl,rfl⟩;go_wp2
   go_roundw
   case rel=>exact⟨i+1,_,_,ya,by go_num,by go_num,HSTEP.out,HST.out,HGR.out⟩
   case measure=>simp[intOf];omega
  ·have hin:i=n:=ya
   subst hin;have hout:=hAr.cell (i:=o+i) ya
   rw[qM (by have:=HN.out;omega) ya,H0.out]at hout
   have hfz:=hAr.frozen (o+i);have hd:=aqm uq HL.out (Nat.le_of_eq HNN.out) (by have:=HN.out;omega) H0.out hinv
   have hst:=hAr.store (o+i) cc;rw[<-hrl,kg (by have:=HN.out;omega),hrl]at hst
   have hgr:=iH hEr (jZ wr g (o+i) (.int .u64 (cc:Int)));have hrl2:(r++[cc]).length=i+1:=by simp[hrl]
   have HST:=aq hst;have HD:=aq hd;have HGR:=aq hgr;have HR:=aq hrl2;clear hst hd hgr hlen hAr hinv hrl hrl2 hEr hA ha hg hcc;go_wp2
   go_end0
   exact⟨rfl,⟨r++[cc],HR.out,HST.out,HD.out.1,HD.out.2⟩,HGR.out⟩
def ar7{b q u a p:Nat}:a*u+p*(y*a)=a*(u+p*y):=by grind
def anA{B:Nat}(h:nval B L=nval B la*nval B (lb.take i)):nval B L+B ^ i*(gd lb i*nval B la)=nval B la*nval B (lb.take (i+1)):=by
 rw[bW,h];exact ar7 (b:=0) (q:=0)
def aqS(ha:RN w va la)(hb:RN w vb lb)(hna:la.length<=1099511627775)(hnb:lb.length<=1099511627775):
  Calls prog 133 #[va,vb] w fun e w'=>(∃v,e= .returned v/\ON w.heap.size w' v (nval WB la*nval WB lb))/\Ext w w':=by
 obtain⟨oa,ca,rfl,_⟩:=id ha;obtain⟨ob,cb,rfl,_⟩:=id hb;have ka:=dI la;have kb:=dI lb;have CA:=aq (dJ ha ya)
 have CB:=aq (dJ hb ya)
 have hx:=ha.take ka;have hy:=hb.take kb;have hxl:(la.take (aO la)).length=aO la:=by rw[List.length_take];omega
 have hax:∀b o,oa=some ⟨b,o,none⟩->0 < aO la->b < w.heap.size:=by
  intro b o e h0;obtain⟨b',o',e',hc⟩:=yQ hx (Ext.refl w) h0;have:=World.block_lt_of_cell? w _ hc;simp only at this;rw[e']at e;simp only[Option.some.injEq,Addr.mk.injEq]at e;omega
 have HAX:=aq hax;have HXL:=aq hxl;have sb:=aq hb.sm;obtain⟨i0,hi,hz0,hz1,hz2⟩:=info_parts nR;clear ha hb hax hxl
 go_enter func133,ntmps133
 go_wp2_with fail;refine CA.out.mono ?_;rintro e w' ⟨rfl,rfl⟩
 go_wp2_with fail;refine CB.out.mono ?_;rintro e w' ⟨rfl,rfl⟩;generalize hN:aO la+aO lb+1=N;have hbytes:i0.bytes*N<=281474976710656:=by rw[hz2];omega
 have HNN:=aq hN;have hN1:N<=2199023255551:=ya
 have hNi:((aO la:Int)+(aO lb:Int)+1)=(N:Int):=ya
 have HNI:=aq hNi;clear hN hNi
 go_wp2_with (at_make;refine wpList_make_full _ rfl (.tmp 17) (.tmp 17) 31 rfl w.heap.size 35 i0 (.int .u64 0) 1 underlying31 hi hz0 hz1 .i64 .i64 _ _ N rfl rfl HNI.out HNI.out hbytes (by unfold maxLen;omega) (Nat.le_refl _) ?_;intro w1 hown hgrow)
 have hA:Arr w.heap.size w1 w.heap.size (List.replicate N 0):=by
  rw[oG]at hown;unfold Arr;rw[List.length_replicate];exact hown
 have hE:Ext w w1:=Below.grown (Below.refl _ _) hgrow (Nat.le_refl _) (fun k hk=>by cases hk)
 clear hown hgrow
 go_loopw [21] (fun k wr=>∃(i:Nat) (L:List Nat),i<=aO lb/\k= .int .i64 i/\L.length=N/\Sm WB L/\nval WB L=nval WB (la.take (aO la))*nval WB (lb.take i)/\(∀j,aO la+i<=j->gd L j=0)/\Arr w.heap.size wr w.heap.size L/\Ext w wr) (fun k _=>aO lb - (intOf k).toNat)
 case atStart=>exact⟨0,List.replicate N 0,ya,rfl,by simp,Sm.replicate aX _,by rw[oq];simp[nval],fun j _=>by simp[gd,List.getD_eq_getElem?_getD,List.getElem?_replicate];split <;> rfl,hA,hE⟩
 case round=>
  obtain⟨i,L,hi',rfl,hLl,hLs,hLv,hLz,hAr,hEr⟩:=hrel;by_cases hilt:i < aO lb
  ·obtain⟨by',ofy,rfl,hcy⟩:=yQ hy hEr hilt;have hrx:RN wr (.slice oa (la.take (aO la)).length ca) (la.take (aO la)):=by rw[HXL.out];exact hx.ext hEr
   have hrow:=awO (o:=i) (x:=gd lb i) hAr hrx ?ap (jv sb.out i) hLs (by rw[HXL.out,hLl];have:=HNN.out;omega) ya (hLz _ (by rw[HXL.out];omega))
   case ap=>intro h0 b o e;have:=HAX.out b o e (by rw[HXL.out]at h0;exact h0);omega
   have HR:=aq hrow;rw[HXL.out,hLl]at HR;have HLV:=aq hLv;have HLZ:=aq hLz;have HLL:=aq hLl;have hlim:i+(aO la+1)<=N:=by have:=HNN.out;omega
   clear hrow hLv hLz hLs hLl hAr hrx hx hy
   go_wp2_with fail;refine HR.out.mono ?_;rintro e w2 ⟨rfl,⟨r,hr1,hr2,hr3,hr4⟩,hr5⟩;have h1:=aq hr1;have h2:=aq hr2;have h3:=aq hr3;have h4:=aq hr4;have h5:Ext w w2:=Below.grown hEr hr5 hEr.size (by intro k hk;cases hk;exact Nat.le_refl _)
   clear hr1 hr2 hr3 hr4 hr5;go_wp2
   go_roundw
   case rel=>exact⟨i+1,_,ya,by go_num,by rw[gW (by rw[HLL.out,h1.out];exact hlim)];exact HLL.out,h3.out,by rw[h4.out];exact anA HLV.out,fun j hj=>by rw[qM (by rw[HLL.out];omega) (by rw[h1.out];omega)];exact HLZ.out j ya,h2.out,h5⟩
   case measure=>simp[intOf];omega
  ·have hin:i=aO lb:=ya
   subst hin;have hno:=lW hAr.own hLs ya
   rw[hLl]at hno;rw[dA,dA]at hLv;have HNO:=aq hno;have HLV:=aq hLv;clear hno hLv hLz hLs hLl hAr hx hy
   go_wp2_with fail;refine HNO.out.mono ?_;rintro e w' ⟨⟨v,rfl,ho⟩,rfl⟩;go_wp2;go_ret;exact⟨⟨_,rfl,by rw[<-HLV.out];exact ho⟩,hEr⟩
def shl_z(hx:x < WB)(hc:c < 2 ^ b)(hb:b < 64):
  bits BinOp.or IntKind.u64 (c:Int) (IntKind.u64.wrap ((x:Int)*2 ^ b))=((c ||| (x*2 ^ b % 2 ^ 64):Nat):Int):=by
 have e1:((x:Int)*2 ^ b)=((x*2 ^ b:Nat):Int):=by rw[Int.natCast_mul,Int.natCast_pow];rfl
 have hc64:c < 2 ^ 64:=Nat.lt_of_lt_of_le hc (Nat.pow_le_pow_right ya ya)
 rw[e1,rA];exact bits_or_u64_nat _ _ hc64 (Nat.mod_lt _ (Nat.two_pow_pos 64))
def ad6(x k:Nat):((x:Int) / 2 ^ k)=((x / 2 ^ k:Nat):Int):=by
 rw[Int.natCast_ediv,Int.natCast_pow];rfl
def kS:WB=2 ^ 64:=yb
def shl_w(hx:x < WB)(hc:c < 2 ^ b)(hb:b < 64):
  (c ||| (x*2 ^ b % 2 ^ 64)) < WB/\x / 2 ^ (64 - b) < 2 ^ b/\(c ||| (x*2 ^ b % 2 ^ 64))+WB*(x / 2 ^ (64 - b))=c+2 ^ b*x:=by
 rw[kS]at*;exact ais hx hc hb
def al4(ha:RN w va la)(hna:la.length<=1099511627775)(hn:n<=1048576)(hnq:n / 64=q)(hnb:n % 64=b):
  Calls prog 92 #[va,.int .i64 (n:Int)] w fun e w'=>(∃v,e= .returned (.tuple #[v,.bool true])/\ON w.heap.size w' v (nval WB la*2 ^ n))/\Ext w w':=by
 obtain⟨oa,ca,rfl,_⟩:=id ha;have ka:=dI la;have CA:=aq (dJ ha ya)
 have hx:=ha.take ka;have hq:(n:Int) / 64=(q:Int):=ya
 have hr:(n:Int) % 64=(b:Int):=ya
 have hb64:b < 64:=ya
 have hqn:q<=16384:=ya
 obtain⟨i0,hi,hz0,hz1,hz2⟩:=info_parts nR;have sa:=aq ha.sm;have HNQ:=aq hnq;have HNB:=aq hnb;clear ha hnq hnb
 go_enter func92,ntmps92
 go_wp2_with fail;refine CA.out.mono ?_;rintro e w' ⟨rfl,rfl⟩;generalize hN:aO la+q+1=N;have hbytes:i0.bytes*N<=281474976710656:=by rw[hz2];omega
 have hN1:N<=2199023255551:=ya
 have hNle:aO la+q+1<=N:=ya
 have hNi:((aO la:Int)+(q:Int)+1)=(N:Int):=ya
 have HNN:=aq hN;have HNI:=aq hNi;clear hN hNi
 go_wp2_with (at_make;refine wpList_make_full _ rfl (.tmp 28) (.tmp 28) 31 rfl w.heap.size 35 i0 (.int .u64 0) 1 underlying31 hi hz0 hz1 .i64 .i64 _ _ N rfl rfl HNI.out HNI.out hbytes (by unfold maxLen;omega) (Nat.le_refl _) ?_;intro w1 hown hgrow)
 have hA:Arr w.heap.size w1 w.heap.size (List.replicate N 0):=by
  rw[oG]at hown;unfold Arr;rw[List.length_replicate];exact hown
 have hE:Ext w w1:=Below.grown (Below.refl _ _) hgrow (Nat.le_refl _) (fun k hk=>by cases hk)
 clear hown hgrow
 go_loopw [32] (fun k wr=>∃(i:Nat) (r:List Nat) (c:Nat),i<=aO la/\k= .int .i64 i/\mo WB [] la (2 ^ b) i r c/\c < 2 ^ b/\Arr w.heap.size wr w.heap.size (patch (List.replicate N 0) q (r++[c]))/\Ext w wr) (fun k _=>aO la - (intOf k).toNat)
 case atStart=>exact⟨0,[],0,ya,rfl,mo.start aX _ _ _,Nat.two_pow_pos _,by rw[List.nil_append,aiw (by have:=HNN.out;omega)];exact hA,hE⟩
 case round=>
  obtain⟨i,r,cc,hi',rfl,hinv,hcb,hAr,hEr⟩:=hrel;have hrl:=hinv.1;have hlen:(patch (List.replicate N 0) q (r++[cc])).length=N:=by rw[gW (by simp;have:=HNN.out;omega)];simp
  by_cases hilt:i < aO la
  ·obtain⟨bx,ofx,rfl,hcx⟩:=yQ hx hEr hilt;have hout:=hAr.cell (i:=q+i) (by have:=HNN.out;omega)
   have hfz:=hAr.frozen (q+i);have hout2:=hAr.cell (i:=q+i+1) (by have:=HNN.out;omega)
   have hfz2:=hAr.frozen (q+i+1);have hcell:gd (patch (List.replicate N 0) q (r++[cc])) (q+i)=cc:=by
    rw[afR (by simp;have:=HNN.out;omega) ya (by simp;omega),hrl,Nat.sub_self];rfl
   rw[hcell]at hout;have hsh:=shl_w (jv sa.out i) hcb hb64;have hZ:=aq (shl_z (jv sa.out i) hcb hb64);have hstep:=hinv.step hsh.1 (Nat.lt_of_lt_of_le hsh.2.1 (by rw[kS];exact Nat.pow_le_pow_right ya ya)) (by rw[hsh.2.2];simp[gd];omega)
   have hst:=hAr.store (q+i) (cc ||| (gd la i*2 ^ b % 2 ^ 64));rw[<-hrl,af4 (by simp;have:=HNN.out;omega),hrl]at hst
   have hst2:=hst.store (q+i+1) (gd la i / 2 ^ (64 - b));have e2:q+i+1=q+(r++[cc ||| (gd la i*2 ^ b % 2 ^ 64)]).length:=by simp[hrl];omega
   have hl2:q+(r++[cc ||| (gd la i*2 ^ b % 2 ^ 64)]).length < (List.replicate N 0).length:=by simp[hrl];have:=HNN.out;omega
   rw[show (patch (List.replicate N 0) q (r++[cc ||| gd la i*2 ^ b % 2 ^ 64])).set (q+i+1) (gd la i / 2 ^ (64 - b))=patch (List.replicate N 0) q ((r++[cc ||| (gd la i*2 ^ b % 2 ^ 64)])++[gd la i / 2 ^ (64 - b)])from by rw[e2];exact kg hl2]at hst2
   have HSH:=aq hsh;have HSTEP:=aq hstep;have HST:=aq hst;have HST2:=aq hst2;have HRL:=aq hrl;clear hcell hlen hAr hinv hsh hstep hst hst2 e2 hl2 hrl;by_cases hb0:b=0
   ·have hbp:b<=0:=ya
    have hhi:gd la i / 2 ^ (64 - b)=0:=by have:=HSH.out.2.1;rw[hb0]at this ⊢;omega
    have HHI:=aq hhi;clear hb0 hhi;go_wp2
    go_roundw
    case rel=>
     rw[hZ.out];refine⟨i+1,_,_,ya,by go_num,HSTEP.out,HSH.out.2.1,?_,?_⟩
     ·rw[HHI.out,ape (by simp[HRL.out];have:=HNN.out;omega) (ag0 _ _)];exact HST.out
     ·exact Below.setCell hEr (Nat.le_refl _) _
    case measure=>simp[intOf];omega
   ·have hbp:0 < b:=ya
    go_wp2
    go_roundw
    case rel=>
     rw[hZ.out,ad6];refine⟨i+1,_,_,ya,by go_num,HSTEP.out,HSH.out.2.1,HST2.out,?_⟩
     exact Below.setCell (Below.setCell hEr (Nat.le_refl _) _) (Nat.le_refl _) _
    case measure=>simp[intOf];omega
  ·have hin:i=aO la:=ya
   subst hin;have hno:=lW hAr.own (yL (Sm.replicate aX _) (hinv.2.1.append (Sm.nil.cons hinv.2.2.1))) (by rw[hlen];omega)
   rw[hlen]at hno;have hv:nval WB (patch (List.replicate N 0) q (r++[cc]))=nval WB la*2 ^ n:=by
    rw[abe (by have:=HNN.out;omega),gT,hrl]
    have:=hinv.2.2.2;rw[this,dA];have e3:2 ^ n=WB ^ q*2 ^ b:=by rw[kS,<-Nat.pow_mul,<-Nat.pow_add];congr 1;have:=HNQ.out;have:=HNB.out;omega
    rw[e3];simp only[List.take_nil,nval,Nat.zero_add];rw[Nat.mul_comm (nval WB la),Nat.mul_assoc]
   have HNO:=aq hno;have HLV:=aq hv;clear hno hv hlen hAr hinv hrl hx
   go_wp2_with fail;refine HNO.out.mono ?_;rintro e w' ⟨⟨v,rfl,ho⟩,rfl⟩;go_wp2
   go_ret2
   exact⟨⟨_,rfl,by rw[<-HLV.out];exact ho⟩,hEr⟩
def shr_z{y:Nat}(hx:x < WB)(hb:0 < b)(hb2:b < 64):
  bits BinOp.or IntKind.u64 ((x:Int) / 2 ^ b) (IntKind.u64.wrap ((y:Int)*2 ^ (64 - b)))=((x / 2 ^ b+2 ^ (64 - b)*(y % 2 ^ b):Nat):Int):=by
 have e1:((y:Int)*2 ^ (64 - b))=((y*2 ^ (64 - b):Nat):Int):=by rw[Int.natCast_mul,Int.natCast_pow];rfl
 rw[e1,rA,ad6];have hx':x < 2 ^ 64:=by rw[kS]at hx;exact hx
 have hd:x / 2 ^ b < 2 ^ 64:=Nat.lt_of_le_of_lt (Nat.div_le_self _ _) hx';have:=bits_or_u64_nat (x / 2 ^ b) (y*2 ^ (64 - b) % 2 ^ 64) hd (Nat.mod_lt _ (Nat.two_pow_pos 64));rw[aue hx' hb hb2]at this;exact this
def aoH(ha:RN w va la)(hna:la.length<=1099511627775)(hn:n<=9223372036854775807)(hnq:n / 64=q)(hnb:n % 64=b)(hq0:aO la<=q):
  Calls prog 94 #[va,.int .i64 (n:Int)] w fun e w'=>e= .returned (.tuple #[.slice none 0 0,.bool true])/\w=w':=by
 obtain⟨oa,ca,rfl,_⟩:=id ha;have CA:=aq (dJ ha ya)
 have hq:(n:Int) / 64=(q:Int):=ya
 have hr:(n:Int) % 64=(b:Int):=ya
 have hb64:b < 64:=ya
 clear ha hnq hnb
 go_enter func94,ntmps94
 go_wp2_with fail;refine CA.out.mono ?_;rintro e w' ⟨rfl,rfl⟩;go_wp2
 go_ret2
 exact⟨rfl,rfl⟩
def axf(ha:RN w va la)(hna:la.length<=1099511627775)(hn:n<=9223372036854775807)(hnq:n / 64=q)(hnb:n % 64=b)(hq0:q < aO la):
  Calls prog 94 #[va,.int .i64 (n:Int)] w fun e w'=>(∃v,e= .returned (.tuple #[v,.bool true])/\ON w.heap.size w' v (nval WB la / 2 ^ n))/\Ext w w':=by
 have ka:=dI la;rcases ha.shape with⟨rfl,_⟩|⟨bx,ox,ca,rfl,a0,a1,a2,a3⟩
 ·exact absurd hq0 (by simp[aO])
 have CA:=aq (dJ ha ya)
 have sa:=aq ha.sm;have hq:(n:Int) / 64=(q:Int):=ya
 have hr:(n:Int) % 64=(b:Int):=ya
 have hb64:b < 64:=ya
 obtain⟨D,hD⟩:∃D,D=(la.take (aO la)).drop q:=⟨_,rfl⟩;obtain⟨m,hm⟩:∃m,m=aO la - q:=⟨_,rfl⟩;have hDl:D.length=m:=by rw[hD,List.length_drop,List.length_take];omega
 have hDs:Sm WB D:=by rw[hD];exact(ha.sm.take _).drop _
 have hDc:∀i,i < m->w.cell? ⟨bx,ox+q+i,none⟩=some (.int .u64 ((gd D i:Nat):Int)):=by
  intro i hi;have:=a3 (q+i) ya
  rw[<-Nat.add_assoc]at this;rw[this,hD,kH,sG ya]
 have hDv:nval WB D / 2 ^ b=nval WB la / 2 ^ n:=by
  rw[hD,aeb _ _ aX (ha.sm.take _),dA,Nat.div_div_eq_div_mul]
  congr 1
  rw[kS,<-Nat.pow_mul,<-Nat.pow_add];congr 1;omega
 have hmi:((aO la:Int) - (q:Int))=(m:Int):=ya
 have hmn:aO la - q=m:=hm.symm;have hm1:m<=1099511627775:=ya
 have hm0:0 < m:=ya
 obtain⟨i0,hi,hz0,hz1,hz2⟩:=info_parts nR;have HNQ:=aq hnq;have HNB:=aq hnb;have HDL:=aq hDl;have HDS:=aq hDs;have HDC:=aq hDc;have HDV:=aq hDv;have hbytes:i0.bytes*m<=281474976710656:=by rw[hz2];omega
 have hqc:q < ca:=ya
 clear ha hnq hnb hD hm hDl hDs hDc hDv a3 a0
 go_enter func94,ntmps94
 go_wp2_with fail;refine CA.out.mono ?_;rintro e w' ⟨rfl,rfl⟩
 go_wp2_with (at_make;refine wpList_make_full _ rfl (.tmp 28) (.tmp 28) 31 rfl w.heap.size 35 i0 (.int .u64 0) 1 underlying31 hi hz0 hz1 .i64 .i64 _ _ m rfl rfl ya ya hbytes (by unfold maxLen;omega) (Nat.le_refl _) ?_;intro w1 hown hgrow)
 have hA:Arr w.heap.size w1 w.heap.size (List.replicate m 0):=by
  rw[oG]at hown;unfold Arr;rw[List.length_replicate];exact hown
 have hE:Ext w w1:=Below.grown (Below.refl _ _) hgrow (Nat.le_refl _) (fun k hk=>by cases hk)
 clear hown hgrow hmn hmi
 go_loopw [32] (fun k wr=>∃(i:Nat) (r:List Nat),i<=m/\k= .int .i64 i/\nH WB (2 ^ b) D i r/\Arr w.heap.size wr w.heap.size (r++List.replicate (m - i) 0)/\Ext w wr) (fun k _=>m - (intOf k).toNat)
 case atStart=>exact⟨0,[],ya,rfl,nH.start _ _ _,hA,hE⟩
 case round=>
  obtain⟨i,r,hi',rfl,hinv,hAr,hEr⟩:=hrel;have hrl:=hinv.1;have hlen:(r++List.replicate (m - i) 0).length=m:=by simp;omega
  by_cases hilt:i < m
  ·have hcx:=hEr.cell (HDC.out i hilt);have hout:=hAr.cell (i:=i) ya
   have hfz:=hAr.frozen i;have hxl:=jv HDS.out i;have hbd:gd D i / 2 ^ b+2 ^ (64 - b)*(gd D (i+1) % 2 ^ b) < WB:=by
    have:=an7 (x:=gd D i) (y:=gd D (i+1)) (b:=b) (by rw[kS]at hxl;exact hxl) hb64
    rw[kS];exact this
   have hstep:=hinv.step (p:=2 ^ (64 - b)) (by rw[kS,<-Nat.pow_add];congr 1;omega) hbd
   have e1:m - i=(m - (i+1))+1:=ya
   have hset:∀x,(r++List.replicate (m - i) 0).set i x=(r++[x])++List.replicate (m - (i+1)) 0:=by
    intro x;rw[e1,<-hrl];exact yB
   have hst:=hAr.store i (gd D i / 2 ^ b+2 ^ (64 - b)*(gd D (i+1) % 2 ^ b));rw[hset]at hst;have hst1:=hAr.store i (gd D i / 2 ^ b);have hst2:=hst1.store i (gd D i / 2 ^ b+2 ^ (64 - b)*(gd D (i+1) % 2 ^ b));rw[List.set_set,hset]at hst2;have hfz2:=hst1.frozen i;have HSTEP:=aq hstep;have HST:=aq hst;have HST2:=aq hst2;have HRL:=aq hrl;have HXL:=aq hxl;clear hlen hAr hinv hstep hst hst2 hst1 e1 hset hrl hbd hxl;by_cases hb0:0 < b
   ·by_cases hi1:i+1 < m
    ·have hcx1:=hEr.cell (HDC.out (i+1) hi1);have hZ:=aq (shr_z (y:=gd D (i+1)) HXL.out hb0 hb64);have hguard:decide (0 < b)=true:=by simpa using hb0
     go_wp2
     go_region
     all_goals
      go_wp2
      go_roundw
      case rel=>
       rw[hZ.out,ad6];exact⟨i+1,_,ya,by go_num,HSTEP.out,HST2.out,(Below.setCell (Below.setCell hEr (Nat.le_refl _) _) (Nat.le_refl _) _).drew⟩
      case measure=>simp[intOf];omega
    ·have hy0:gd D (i+1)=0:=axE (by have:=HDL.out;omega)
     have HY:=aq hy0;clear hy0;go_wp2
     go_roundw
     case rel=>
      rw[ad6];refine⟨i+1,_,ya,by go_num,HSTEP.out,?_,Below.setCell hEr (Nat.le_refl _) _⟩
      have:=HST.out;rw[HY.out,Nat.zero_mod,Nat.mul_zero,Nat.add_zero]at this ⊢;exact this
     case measure=>simp[intOf];omega
   ·have hb1:b<=0:=ya
    have hy0:gd D (i+1) % 2 ^ b=0:=by rw[show b=0 from ya,Nat.pow_zero,Nat.mod_one]
    have HY:=aq hy0;clear hy0;go_wp2
    go_roundw
    case rel=>
     rw[ad6];refine⟨i+1,_,ya,by go_num,HSTEP.out,?_,Below.setCell hEr (Nat.le_refl _) _⟩
     have:=HST.out;rw[HY.out,Nat.mul_zero,Nat.add_zero]at this ⊢;exact this
    case measure=>simp[intOf];omega
  ·have hin:i=m:=ya
   subst hin;have hno:=lW hAr.own (by simpa using hinv.2.1) (by rw[hlen];omega)
   rw[hlen]at hno;have hv:nval WB (r++List.replicate (i - i) 0)=nval WB la / 2 ^ n:=by
    rw[Nat.sub_self,List.replicate_zero,List.append_nil,hinv.done (Nat.two_pow_pos _) (Nat.le_of_eq HDL.out)];exact HDV.out
   have HNO:=aq hno;have HLV:=aq hv;clear hno hv hlen hAr hinv hrl
   go_wp2_with fail;refine HNO.out.mono ?_;rintro e w' ⟨⟨v,rfl,ho⟩,rfl⟩;go_wp2
   go_ret2
   exact⟨⟨_,rfl,by rw[<-HLV.out];exact ho⟩,hEr⟩
def awI(ha:RN w va la)(hna:la.length<=1099511627775)(hn:n<=9223372036854775807):
  Calls prog 94 #[va,.int .i64 (n:Int)] w fun e w'=>(∃v,e= .returned (.tuple #[v,.bool true])/\ON w.heap.size w' v (nval WB la / 2 ^ n))/\Ext w w':=by
 rcases Nat.lt_or_ge (n / 64) (aO la)with h|h
 ·exact axf ha hna hn rfl rfl h
 ·refine(aoH ha hna hn rfl rfl h).mono fun e w' ⟨he,hw⟩=>?_
  subst he hw;have hlt:nval WB la < 2 ^ n:=by
   rw[<-dA la];refine Nat.lt_of_lt_of_le (eu (ha.sm.take _)) ?_;rw[kS,<-Nat.pow_mul,List.length_take];exact Nat.pow_le_pow_right ya ya
  exact⟨⟨_,rfl,by rw[Nat.div_eq_of_lt hlt];exact ON.zero _ _⟩,Ext.refl _⟩
def akN(x q r:Nat)(hx:x≠0)(hr:r < 2 ^ q):bitLen (r+2 ^ q*x)=q+bitLen x:=by
 have h1:(r+2 ^ q*x) / 2 ^ q=x:=by rw[Nat.add_mul_div_left _ _ (Nat.two_pow_pos _),Nat.div_eq_of_lt hr,Nat.zero_add]
 have:=bitLen_shift (r+2 ^ q*x) q (by rw[h1];exact hx)
 rw[h1]at this;exact this
def aoW(hs:Sm WB l)(h:aO l≠0):bitLen (nval WB l)=64*(aO l - 1)+bitLen (gd l (aO l - 1)):=by
 have hl:=vR h;have e1:nval WB l=nval WB (l.take (aO l - 1))+WB ^ (aO l - 1)*gd l (aO l - 1):=by
  have:=bW WB l (aO l - 1);rw[show aO l - 1+1=aO l from ya,dA]at this;exact this
 have e2:=eu (hs.take (aO l - 1));have e3:(l.take (aO l - 1)).length=aO l - 1:=by rw[List.length_take];have:=dI l;omega
 rw[e3]at e2;have e4:WB ^ (aO l - 1)=2 ^ (64*(aO l - 1)):=by rw[kS,<-Nat.pow_mul]
 rw[e1,e4];rw[e4]at e2;exact akN _ _ _ hl e2
def aq4(ha:RN w va la)(hna:la.length<=1099511627775):
  Calls prog 31 #[va] w fun e w'=>e= .returned (.int .i64 ((bitLen (nval WB la):Nat):Int))/\w=w':=by
 have ka:=dI la;by_cases h0:aO la=0
 ·obtain⟨oa,ca,rfl,_⟩:=id ha;have CA:=dJ ha ya
  rw[h0]at CA;have hv:=(kK aX).2 h0;have HV:=aq hv;have HCA:=aq CA;clear hv CA ha h0 ka
  go_enter func31,ntmps31
  go_wp2_with fail;refine HCA.out.mono ?_;rintro e w' ⟨rfl,rfl⟩;go_wp2;go_ret;exact⟨by rw[HV.out];rfl,rfl⟩
 ·rcases ha.shape with⟨rfl,_⟩|⟨bx,ox,ca,rfl,a0,a1,a2,a3⟩
  ·exact absurd (by simp[aO]) h0
  have CA:=aq (dJ ha ya)
  have hc:=a3 (aO la - 1) ya
  have hgl:=jv ha.sm (aO la - 1);have HL:=aq (aeG _ hgl w);have hb:=bitLen_le64 hgl;have hv:=aoW ha.sm h0;have hz:((aO la:Int)==0)=false:=by simp;omega
  have h0':0 < aO la:=ya
  have HV:=aq hv;clear hv ha h0 a3 hgl
  go_enter func31,ntmps31
  go_wp2_with fail;refine CA.out.mono ?_;rintro e w' ⟨rfl,rfl⟩
  go_wp2_with fail;refine HL.out.mono ?_;rintro e w' ⟨rfl,rfl⟩;go_wp2;go_ret;exact⟨by rw[HV.out];exact congrArg Ending.returned (by go_num),rfl⟩
def ao1(ha:RN w va la)(hna:la.length<=1099511627775)(h0:aO la=0):
  Calls prog 55 #[va] w fun e w'=>e= .returned (.tuple #[.int .u64 0,.bool true])/\w=w':=by
 obtain⟨oa,ca,rfl,_⟩:=id ha;have CA:=dJ ha ya
 rw[h0]at CA;have HCA:=aq CA;clear CA ha h0 hna
 go_enter func55,ntmps55
 go_wp2_with fail;refine HCA.out.mono ?_;rintro e w' ⟨rfl,rfl⟩;go_wp2
 go_ret2
 exact⟨rfl,rfl⟩
def aub(ha:RN w va la)(hna:la.length<=1099511627775)(h0:aO la=1):
  Calls prog 55 #[va] w fun e w'=>e= .returned (.tuple #[.int .u64 ((gd la 0:Nat):Int),.bool true])/\w=w':=by
 have ka:=dI la;rcases ha.shape with⟨rfl,_⟩|⟨bx,ox,ca,rfl,a0,a1,a2,a3⟩
 ·exact absurd h0 (by simp[aO])
 have CA:=dJ ha ya
 rw[h0]at CA;have hc:=a3 0 ya
 rw[Nat.add_zero]at hc;have HCA:=aq CA;clear CA ha h0 a3
 go_enter func55,ntmps55
 go_wp2_with fail;refine HCA.out.mono ?_;rintro e w' ⟨rfl,rfl⟩;go_wp2
 go_ret2
 exact⟨rfl,rfl⟩
def ap2(ha:RN w va la)(hna:la.length<=1099511627775)(h0:1 < aO la):
  Calls prog 55 #[va] w fun e w'=>e= .returned (.tuple #[.int .u64 0,.bool false])/\w=w':=by
 obtain⟨oa,ca,rfl,_⟩:=id ha;have CA:=aq (dJ ha ya)
 have hz:((aO la:Int)==0)=false:=by simp;omega
 have hz1:((aO la:Int)==1)=false:=by simp;omega
 clear ha hna
 go_enter func55,ntmps55
 go_wp2_with fail;refine CA.out.mono ?_;rintro e w' ⟨rfl,rfl⟩;go_wp2
 go_ret2
 exact⟨rfl,rfl⟩
def atL(ha:RN w va la)(hna:la.length<=1099511627775):
  Calls prog 55 #[va] w fun e w'=>e= .returned (.tuple #[.int .u64 (((if nval WB la < WB then nval WB la else 0:Nat)):Int),.bool (decide (nval WB la < WB))])/\w=w':=by
 have hs:=ha.sm;have ht:=dA (B:=WB) la;rcases Nat.lt_trichotomy (aO la) 1 with h|h|h
 ·have h0:aO la=0:=ya
  refine(ao1 ha hna h0).mono fun e w' ⟨he,hw⟩=>?_
  have hv:=(kK aX).2 h0;rw[hv];exact⟨by rw[he];simp[aX],hw⟩
 ·refine(aub ha hna h).mono fun e w' ⟨he,hw⟩=>?_
  have hv:nval WB la=gd la 0:=by
   have:=bW WB la 0;rw[Nat.zero_add,<-h,ht]at this;rw[this];simp[nval]
  rw[hv];have:=jv hs 0;exact⟨by rw[he];simp[this],hw⟩
 ·refine(ap2 ha hna h).mono fun e w' ⟨he,hw⟩=>?_
  have hv:¬nval WB la < WB:=by
   have h1:=(uT la).pos (B:=WB) (by intro e;have:=congrArg List.length e;rw[List.length_take,Nat.min_eq_left (dI la)]at this;simp only[List.length_nil]at this;omega)
   rw[List.length_take,Nat.min_eq_left (dI la),ht]at h1;have h2:WB ^ 1<=WB ^ (aO la - 1):=Nat.pow_le_pow_right aX ya
   rw[Nat.pow_one]at h2;omega
  exact⟨by rw[he];simp[hv],hw⟩
