import Derived.Test.YtmgfiodmdfaclaaGreatDoorA14
set_option linter.unusedVariables false
set_option linter.unusedSimpArgs false
namespace Go.Proofs.YtmgfiodmdfaclaaGreatDoor
open Go.RowKit QM SX LA
section
def zOk(x:lY):Bool:=if x.2.length=0 then !x.1 else decide (x.2.getD (x.2.length - 1) 0≠0)
theorem zA{x:lY}(hs:Sm WB x.2):zOk x=true↔x=cz (rzv x):=by
 constructor
 ·intro h;obtain⟨b,l⟩:=x;unfold zOk at h
  dsimp only at h hs
  have hn:Nrm l:=by
   split at h
   ·next h0=>exact .inl (List.eq_nil_of_length_eq_zero h0)
   ·exact .inr (of_decide_eq_true h)
  have hw:=uX hs hn;have hna:(sgn b (nval WB l)).natAbs=nval WB l:=by unfold sgn;split <;> omega
  show (b,l)=(decide (sgn b (nval WB l) < 0),wds (sgn b (nval WB l)).natAbs);rw[hna,←hw]
  congr 1
  split at h
  ·next h0=>
   have hb:b=false:=by simpa using h
   subst hb;exact(decide_eq_false (by unfold sgn;simp)).symm
  ·next h0=>
   have hne:nval WB l≠0:=fun e=>h0 (by rw[hw,e];exact(sD 0).2 rfl)
   cases b
   ·exact(decide_eq_false (by unfold sgn;simp)).symm
   ·exact(decide_eq_true (by unfold sgn;simp;omega)).symm
 ·intro h;rw[h];generalize rzv x=z;unfold zOk cz
  dsimp only
  split
  ·next h0=>
   have hz:=(sD z.natAbs).1 h0;rw[decide_eq_false (by omega)];rfl
  ·next h0=>
   rcases zL z.natAbs with h|h
   ·rw[h]at h0;exact absurd rfl h0
   ·exact decide_eq_true h
def qOk(q:gy):Bool:=zOk (q.1,q.2.1)&&zOk (q.2.2.1,q.2.2.2)&&decide (0 < rzv (q.2.2.1,q.2.2.2))&&decide (Int.gcd (rzv (q.1,q.2.1)) (rzv (q.2.2.1,q.2.2.2))=1)
theorem zU{q:gy}(hs:Sm WB q.2.1∧Sm WB q.2.2.2):qOk q=true↔q=cq (rqv q):=by
 have e1:=zA (x:=(q.1,q.2.1)) hs.1;have e2:=zA (x:=(q.2.2.1,q.2.2.2)) hs.2;unfold qOk;rw[Bool.and_eq_true,Bool.and_eq_true,Bool.and_eq_true,e1,e2,decide_eq_true_iff,decide_eq_true_iff];obtain⟨b,l,b',l'⟩:=q
 dsimp only
 constructor
 ·rintro⟨⟨⟨h1,h2⟩,h3⟩,h4⟩;have hr:rqv (b,l,b',l')=qv (rzv (b,l)) (rzv (b',l')):=rfl;have hX:Rd (rzv (b,l),rzv (b',l')) (rqv (b,l,b',l')) (l.length+l'.length+1):=⟨hr.symm,h3,h4,⟨Nat.lt_of_lt_of_le (ZQ.raw (b:=b) (l:=l) hs.1 (Nat.le_refl _)).b (Nat.pow_le_pow_right aY (by omega))⟩,⟨Nat.lt_of_lt_of_le (ZQ.raw (b:=b') (l:=l') hs.2 (Nat.le_refl _)).b (Nat.pow_le_pow_right aY (by omega))⟩⟩
  have hn:=hX.nf
  injection hn with n1 n2
  injection h1 with a1 a2
  injection h2 with a3 a4
  unfold cq;rw[←n1,←n2];exact Prod.ext a1 (Prod.ext a2 (Prod.ext a3 a4))
 ·intro h;generalize rqv (b,l,b',l')=v at h
  injection h with h1 h
  injection h with h2 h
  injection h with h3 h4
  have z1:rzv (b,l)=v.num:=by rw[h1,h2];exact mX v.num
  have z2:rzv (b',l')=(v.den:Int):=by rw[h3,h4];exact mX (v.den:Int)
  rw[z1,z2];refine⟨⟨⟨?_,?_⟩,?_⟩,?_⟩
  ·rw[h1,h2];rfl
  ·rw[h3,h4];rfl
  ·have:=v.den_nz;omega
  ·have h2:Nat.Coprime v.num.natAbs v.den:=v.reduced;unfold Int.gcd;rw[Int.natAbs_natCast];exact h2
theorem adF{α:Type}{p:α→Bool}(l:List α):decide (¬fi p l 0 < 0)=l.any p:=by
 rw[Bool.eq_iff_iff,decide_eq_true_iff,List.any_eq_true];constructor
 ·intro h;obtain⟨i,a,_,h2,h3⟩:=aie l 0 h;exact⟨a,List.mem_of_getElem? h2,h3⟩
 ·rintro⟨a,h1,h2⟩ h3;rw[ahM h3 a h1]at h2;cases h2
attribute [local irreducible] IntKind.wrap Go1 Reg WP aQ aR bO bN aN aB aj ah aV Sat
attribute [local irreducible] bS bV bX dx bW qv redS mf
theorem abS(x:lY)(hl:x.2.length≤1000000000):PureOK Tryz.prog 38 [.agg (z2A (rz x))] (.v (.bool (zOk x))):=by
 unfold zOk;refine PureOK.fnF Tryz.func38 Tryz.results38 Tryz.ntmps38 rfl rfl rfl (by simp[AV.ids,AV0.ids,Atom.ids]) rfl (fun w0 T B E0 hB=>?_)
 by_cases h0:x.2.length=0
 ·rw[if_pos h0];cases h1:x.1
  ·refine SX.goN ?_;refine aG ?_;rfl
  ·refine SX.goN ?_;refine aG ?_;rfl
 ·rw[if_neg h0];obtain⟨w,hw⟩:∃w,x.2[x.2.length - 1]? =some w:=⟨_,List.getElem?_eq_getElem (by omega)⟩
  have hg:x.2.getD (x.2.length - 1) 0=w:=by rw[List.getD_eq_getElem?_getD,hw];rfl
  rw[hg];refine SX.goN ?_;refine aG ?_;rw[decide_eq_decide];omega
theorem uQ(x:lY)(hl:x.2.length≤1000000000):PureOK Tryz.prog 87 [.agg (z2A (rz x))] (.v (.bool (zOk x))):=by
 unfold zOk;refine PureOK.fnF Tryz.func87 Tryz.results87 Tryz.ntmps87 rfl rfl rfl (by simp[AV.ids,AV0.ids,Atom.ids]) rfl (fun w0 T B E0 hB=>?_)
 by_cases h0:x.2.length=0
 ·rw[if_pos h0];cases h1:x.1
  ·refine SX.goN ?_;refine aG ?_;rfl
  ·refine SX.goN ?_;refine aG ?_;rfl
 ·rw[if_neg h0];obtain⟨w,hw⟩:∃w,x.2[x.2.length - 1]? =some w:=⟨_,List.getElem?_eq_getElem (by omega)⟩
  have hg:x.2.getD (x.2.length - 1) 0=w:=by rw[List.getD_eq_getElem?_getD,hw];rfl
  rw[hg];refine SX.goN ?_;refine aG ?_;rw[decide_eq_decide];omega
theorem arw(q:gy)(hs:Sm WB q.2.1∧Sm WB q.2.2.2)(hl:q.2.1.length+q.2.2.2.length≤1000000):PureOK Tryz.prog 40 [.agg (zN (Int.gcd (rzv (q.1,q.2.1)) (rzv (q.2.2.1,q.2.2.2)):Int)),.agg (zN 1)] (.v (.bool (decide (Int.gcd (rzv (q.1,q.2.1)) (rzv (q.2.2.1,q.2.2.2))=1)))):=by
 haveI b1:Bd (rzv (q.1,q.2.1)) q.2.1.length:=⟨(ZQ.raw (b:=q.1) hs.1 (Nat.le_refl _)).b⟩
 haveI b2:Bd (rzv (q.2.2.1,q.2.2.2)) q.2.2.2.length:=⟨(ZQ.raw (b:=q.2.2.1) hs.2 (Nat.le_refl _)).b⟩
 haveI b3:Bd (Int.gcd (rzv (q.1,q.2.1)) (rzv (q.2.2.1,q.2.2.2)):Int) (q.2.1.length+q.2.2.2.length):=⟨by rw[Int.natAbs_natCast];exact(BdN.igcd _ _ _ _).h⟩
 have h:=(ak4 (l:=zN (Int.gcd (rzv (q.1,q.2.1)) (rzv (q.2.2.1,q.2.2.2)):Int)) (l':=zN 1)).h (show q.2.1.length+q.2.2.2.length+1≤1099511627774 by omega)
 rw[show decide ((Int.gcd (rzv (q.1,q.2.1)) (rzv (q.2.2.1,q.2.2.2)):Int)=1)=decide (Int.gcd (rzv (q.1,q.2.1)) (rzv (q.2.2.1,q.2.2.2))=1)from decide_eq_decide.2 (by omega)]at h
 exact h
theorem aiV(q:gy)(hs:Sm WB q.2.1∧Sm WB q.2.2.2)(hl:q.2.1.length+q.2.2.2.length≤1000000):PureOK Tryz.prog 19 [.agg (q4A (rq q))] (.v (.bool (qOk q))):=by
 have c1:=abS (q.1,q.2.1) (by dsimp only;omega)
 have c2:=abS (q.2.2.1,q.2.2.2) (by dsimp only;omega)
 have cS:=mI (h:=ZI.raw q.2.2.1 q.2.2.2).h (show q.2.2.2.length≤1099511627775 by omega)
 have cG:=(afh (h:=ZI.raw q.1 q.2.1) (h':=ZI.raw q.2.2.1 q.2.2.2)).h (show q.2.1.length+q.2.2.2.length≤1099511627760 by omega)
 have o1:=akc;have cE:=arw q hs hl;unfold qOk;have hsg:=anm (rzv (q.2.2.1,q.2.2.2));change PureOK _ _ _ (.v (.int .i64 (aU (rzv (q.2.2.1,q.2.2.2)))))at cS
 change PureOK _ _ _ (.agg (zN (Int.gcd (rzv (q.1,q.2.1)) (rzv (q.2.2.1,q.2.2.2)):Int)))at cG
 generalize rzv (q.2.2.1,q.2.2.2)=z at*;refine PureOK.fnF Tryz.func19 Tryz.results19 Tryz.ntmps19 rfl rfl rfl (by simp[AV.ids,AV0.ids,Atom.ids]) rfl (fun w0 T B E0 hB=>?_)
 cases h1:zOk (q.1,q.2.1)
 ·rw[h1]at c1;refine SX.goN ?_;exact aG rfl
 ·rw[h1]at c1;cases h2:zOk (q.2.2.1,q.2.2.2)
  ·rw[h2]at c2;refine SX.goN ?_;exact aG rfl
  ·rw[h2]at c2;by_cases h3:0 < z
   ·refine SX.goN ?_;refine aG ?_;rw[decide_eq_true h3];rfl
   ·refine SX.goN ?_;refine aG ?_;rw[decide_eq_false h3];rfl
theorem af2(q:gy)(hs:Sm WB q.2.1∧Sm WB q.2.2.2)(hl:q.2.1.length+q.2.2.2.length≤1000000):PureOK Tryz.prog 81 [.agg (q4A (rq q))] (.v (.bool (qOk q))):=by
 have c1:=uQ (q.1,q.2.1) (by dsimp only;omega)
 have c2:=uQ (q.2.2.1,q.2.2.2) (by dsimp only;omega)
 have cS:=mI (h:=ZI.raw q.2.2.1 q.2.2.2).h (show q.2.2.2.length≤1099511627775 by omega)
 have cG:=(afh (h:=ZI.raw q.1 q.2.1) (h':=ZI.raw q.2.2.1 q.2.2.2)).h (show q.2.1.length+q.2.2.2.length≤1099511627760 by omega)
 have o1:=akc;have cE:=arw q hs hl;unfold qOk;have hsg:=anm (rzv (q.2.2.1,q.2.2.2));change PureOK _ _ _ (.v (.int .i64 (aU (rzv (q.2.2.1,q.2.2.2)))))at cS
 change PureOK _ _ _ (.agg (zN (Int.gcd (rzv (q.1,q.2.1)) (rzv (q.2.2.1,q.2.2.2)):Int)))at cG
 generalize rzv (q.2.2.1,q.2.2.2)=z at*;refine PureOK.fnF Tryz.func81 Tryz.results81 Tryz.ntmps81 rfl rfl rfl (by simp[AV.ids,AV0.ids,Atom.ids]) rfl (fun w0 T B E0 hB=>?_)
 cases h1:zOk (q.1,q.2.1)
 ·rw[h1]at c1;refine SX.goN ?_;exact aG rfl
 ·rw[h1]at c1;cases h2:zOk (q.2.2.1,q.2.2.2)
  ·rw[h2]at c2;refine SX.goN ?_;exact aG rfl
  ·rw[h2]at c2;by_cases h3:0 < z
   ·refine SX.goN ?_;refine aG ?_;rw[decide_eq_true h3];rfl
   ·refine SX.goN ?_;refine aG ?_;rw[decide_eq_false h3];rfl
theorem anK(l:List gy)(x:CA)(p:gy→Bool)(hx:∀v∈l,FnV Tryz.prog x [.agg (q4A (rq v))] (.v (.bool (p v))))(hl:l.length≤100000)(hx1:x.dO=true):
  PureOK Tryz.prog 135 [.r (ay 4 q4C (l.map rq)),.it (.one (.c x))] (.v (.int .i64 (fi p l 0))):=by
 have hlen:(l.map rq).length=l.length:=List.length_map _;refine PureOK.fnF Tryz.func135 Tryz.results135 Tryz.ntmps135 rfl rfl rfl (by simp[AV.ids,AV0.ids,Atom.ids]) rfl (fun w0 T B E0 hB=>?_)
 refine SX.goN ?_;refine W.loop (fun k=>k≤l.length∧fi p (l.drop k) k=fi p l 0) (fun k=>[(0,.r (ay 4 q4C (l.map rq))),(1,.it (.one (.c x))),(7,.v (.int .i64 (l.length:Int))),(8,.v (.int .i64 (k:Int)))]) (fun _=>[]) (fun k=>l.length - k) 0 ⟨Nat.zero_le _,rfl⟩ (fun k ⟨hk,he⟩=>?_)
 by_cases h:k < l.length
 ·obtain⟨r,hr⟩:∃r,l[k]? =some r:=⟨_,List.getElem?_eq_getElem h⟩
  have hf:=hx r (List.mem_of_getElem? hr);have hq:(l.map rq)[k]? =some (rq r):=by rw[List.getElem?_map,hr];rfl
  have h':k < (l.map rq).length:=by rw[List.length_map];exact h
  rw[wm hr]at he;cases hp:p r with
  |true=>
   rw[hp]at hf he;refine SX.goN ?_;refine gV ?_;rw[←he];rfl
  |false=>
   rw[hp]at hf he;refine SX.goN ?_;exact W.next (k+1) ⟨h,he⟩ (by omega)
 ·obtain rfl:k=l.length:=by omega
  rw[List.drop_length]at he;have h':¬l.length < (l.map rq).length:=by rw[List.length_map];omega
  refine SX.goN ?_;refine gV ?_;rw[←he];rfl
theorem ali(l:List gy)(x:CA)(p:gy→Bool)(hx:∀v∈l,FnV Tryz.prog x [.agg (q4A (rq v))] (.v (.bool (p v))))(hl:l.length≤100000)(hx1:x.dO=true):
  PureOK Tryz.prog 83 [.r (ay 4 q4C (l.map rq)),.it (.one (.c x))] (.v (.bool (l.any p))):=by
 have c:=anK l x p hx hl hx1;rw[←adF];refine PureOK.fnF Tryz.func83 Tryz.results83 Tryz.ntmps83 rfl rfl rfl (by simp[AV.ids,AV0.ids,Atom.ids]) rfl (fun w0 T B E0 hB=>?_)
 refine SX.goN ?_;refine aG ?_;rw[decide_eq_decide];omega
theorem aj5(l:List gy)(f:FuncId)(p:gy→Bool)(hx:∀v∈l,PureOK Tryz.prog f [.agg (q4A (rq v))] (.v (.bool (p v))))(hl:l.length≤100000):
  PureOK Tryz.prog 83 [.r (ay 4 q4C (l.map rq)),.it (.one (.clo f []))] (.v (.bool (l.any p))):=
 weakArgs (ali l (.sat (dM f [] [])) p (fun v h=>FnV.const (hx v h)) hl rfl) fun E S w vs hv=>by
  match vs,hv with
  |[u1,u2],⟨h1,h2,_⟩=>exact⟨h1,amL h2,trivial⟩
theorem alZ(l:List lY)(x:CA)(p:lY→Bool)(hx:∀v∈l,FnV Tryz.prog x [.agg (z2A (rz v))] (.v (.bool (p v))))(hl:l.length≤100000)(hx1:x.dO=true):
  PureOK Tryz.prog 136 [.r (ay 2 z2C (l.map rz)),.it (.one (.c x))] (.v (.int .i64 (fi p l 0))):=by
 have hlen:(l.map rz).length=l.length:=List.length_map _;refine PureOK.fnF Tryz.func136 Tryz.results136 Tryz.ntmps136 rfl rfl rfl (by simp[AV.ids,AV0.ids,Atom.ids]) rfl (fun w0 T B E0 hB=>?_)
 refine SX.goN ?_;refine W.loop (fun k=>k≤l.length∧fi p (l.drop k) k=fi p l 0) (fun k=>[(0,.r (ay 2 z2C (l.map rz))),(1,.it (.one (.c x))),(7,.v (.int .i64 (l.length:Int))),(8,.v (.int .i64 (k:Int)))]) (fun _=>[]) (fun k=>l.length - k) 0 ⟨Nat.zero_le _,rfl⟩ (fun k ⟨hk,he⟩=>?_)
 by_cases h:k < l.length
 ·obtain⟨r,hr⟩:∃r,l[k]? =some r:=⟨_,List.getElem?_eq_getElem h⟩
  have hf:=hx r (List.mem_of_getElem? hr);have hq:(l.map rz)[k]? =some (rz r):=by rw[List.getElem?_map,hr];rfl
  have h':k < (l.map rz).length:=by rw[List.length_map];exact h
  rw[wm hr]at he;cases hp:p r with
  |true=>
   rw[hp]at hf he;refine SX.goN ?_;refine gV ?_;rw[←he];rfl
  |false=>
   rw[hp]at hf he;refine SX.goN ?_;exact W.next (k+1) ⟨h,he⟩ (by omega)
 ·obtain rfl:k=l.length:=by omega
  rw[List.drop_length]at he;have h':¬l.length < (l.map rz).length:=by rw[List.length_map];omega
  refine SX.goN ?_;refine gV ?_;rw[←he];rfl
theorem alA(l:List lY)(x:CA)(p:lY→Bool)(hx:∀v∈l,FnV Tryz.prog x [.agg (z2A (rz v))] (.v (.bool (p v))))(hl:l.length≤100000)(hx1:x.dO=true):
  PureOK Tryz.prog 85 [.r (ay 2 z2C (l.map rz)),.it (.one (.c x))] (.v (.bool (l.any p))):=by
 have c:=alZ l x p hx hl hx1;rw[←adF];refine PureOK.fnF Tryz.func85 Tryz.results85 Tryz.ntmps85 rfl rfl rfl (by simp[AV.ids,AV0.ids,Atom.ids]) rfl (fun w0 T B E0 hB=>?_)
 refine SX.goN ?_;refine aG ?_;rw[decide_eq_decide];omega
theorem ajR(l:List lY)(f:FuncId)(p:lY→Bool)(hx:∀v∈l,PureOK Tryz.prog f [.agg (z2A (rz v))] (.v (.bool (p v))))(hl:l.length≤100000):
  PureOK Tryz.prog 85 [.r (ay 2 z2C (l.map rz)),.it (.one (.clo f []))] (.v (.bool (l.any p))):=
 weakArgs (alA l (.sat (dM f [] [])) p (fun v h=>FnV.const (hx v h)) hl rfl) fun E S w vs hv=>by
  match vs,hv with
  |[u1,u2],⟨h1,h2,_⟩=>exact⟨h1,amL h2,trivial⟩
theorem alu(l:List Nat)(x:CA)(p:Nat→Bool)(hx:∀v∈l,FnV Tryz.prog x [.v (.int .u64 (v:Int))] (.v (.bool (p v))))(hl:l.length≤100000)(hx1:x.dO=true):
  PureOK Tryz.prog 183 [.r (ay 1 wdC l),.it (.one (.c x))] (.v (.int .i64 (fi p l 0))):=by
 refine PureOK.fnF Tryz.func183 Tryz.results183 Tryz.ntmps183 rfl rfl rfl (by simp[AV.ids,AV0.ids,Atom.ids]) rfl (fun w0 T B E0 hB=>?_)
 refine SX.goN ?_;refine W.loop (fun k=>k≤l.length∧fi p (l.drop k) k=fi p l 0) (fun k=>[(0,.r (ay 1 wdC l)),(1,.it (.one (.c x))),(7,.v (.int .i64 (l.length:Int))),(8,.v (.int .i64 (k:Int)))]) (fun _=>[]) (fun k=>l.length - k) 0 ⟨Nat.zero_le _,rfl⟩ (fun k ⟨hk,he⟩=>?_)
 by_cases h:k < l.length
 ·obtain⟨r,hr⟩:∃r,l[k]? =some r:=⟨_,List.getElem?_eq_getElem h⟩
  have hf:=hx r (List.mem_of_getElem? hr);rw[wm hr]at he;cases hp:p r with
  |true=>
   rw[hp]at hf he;refine SX.goN ?_;refine gV ?_;rw[←he];rfl
  |false=>
   rw[hp]at hf he;refine SX.goN ?_;exact W.next (k+1) ⟨h,he⟩ (by omega)
 ·obtain rfl:k=l.length:=by omega
  rw[List.drop_length]at he;refine SX.goN ?_;refine gV ?_;rw[←he];rfl
theorem aod(l:List Nat)(x:CA)(p:Nat→Bool)(hx:∀v∈l,FnV Tryz.prog x [.v (.int .u64 (v:Int))] (.v (.bool (p v))))(hl:l.length≤100000)(hx1:x.dO=true):
  PureOK Tryz.prog 139 [.r (ay 1 wdC l),.it (.one (.c x))] (.v (.bool (l.any p))):=by
 have c:=alu l x p hx hl hx1;rw[←adF];refine PureOK.fnF Tryz.func139 Tryz.results139 Tryz.ntmps139 rfl rfl rfl (by simp[AV.ids,AV0.ids,Atom.ids]) rfl (fun w0 T B E0 hB=>?_)
 refine SX.goN ?_;refine aG ?_;rw[decide_eq_decide];omega
theorem am5(l:List Vl)(x:CA)(p:Vl→Bool)(hx:∀v∈l,FnV Tryz.prog x [.agg (vlA v)] (.v (.bool (p v))))(hl:l.length≤100000)(hx1:x.dO=true):
  PureOK Tryz.prog 141 [.r (ay 15 vlC l),.it (.one (.c x))] (.v (.int .i64 (fi p l 0))):=by
 rw[uV];refine PureOK.fnF Tryz.func141 Tryz.results141 Tryz.ntmps141 rfl rfl rfl (by simp[AV.ids,AV0.ids,Atom.ids]) rfl (fun w0 T B E0 hB=>?_)
 refine SX.goN ?_;refine W.loop (fun k=>k≤l.length∧fi p (l.drop k) k=fi p l 0) (fun k=>[(0,.r (ay 15 vlE l)),(1,.it (.one (.c x))),(7,.v (.int .i64 (l.length:Int))),(8,.v (.int .i64 (k:Int)))]) (fun _=>[]) (fun k=>l.length - k) 0 ⟨Nat.zero_le _,rfl⟩ (fun k ⟨hk,he⟩=>?_)
 by_cases h:k < l.length
 ·obtain⟨r,hr⟩:∃r,l[k]? =some r:=⟨_,List.getElem?_eq_getElem h⟩
  have hf:=hx r (List.mem_of_getElem? hr);rw[wm hr]at he;cases hp:p r with
  |true=>
   rw[hp]at hf he;refine SX.goN ?_;refine gV ?_;rw[←he];rfl
  |false=>
   rw[hp]at hf he;refine SX.goN ?_;exact W.next (k+1) ⟨h,he⟩ (by omega)
 ·obtain rfl:k=l.length:=by omega
  rw[List.drop_length]at he;refine SX.goN ?_;refine gV ?_;rw[←he];rfl
theorem anA(l:List Vl)(x:CA)(p:Vl→Bool)(hx:∀v∈l,FnV Tryz.prog x [.agg (vlA v)] (.v (.bool (p v))))(hl:l.length≤100000)(hx1:x.dO=true):
  PureOK Tryz.prog 90 [.r (ay 15 vlC l),.it (.one (.c x))] (.v (.bool (l.any p))):=by
 have c:=am5 l x p hx hl hx1;rw[←adF];refine PureOK.fnF Tryz.func90 Tryz.results90 Tryz.ntmps90 rfl rfl rfl (by simp[AV.ids,AV0.ids,Atom.ids]) rfl (fun w0 T B E0 hB=>?_)
 refine SX.goN ?_;refine aG ?_;rw[decide_eq_decide];omega
end
section
theorem vP0(v:Vl):vP v=0↔(v.k=1∨(v.q.2.1.length=0∧v.q.2.2.2.length=0∧v.q.1=false∧v.q.2.2.1=false))∧(v.k=2∨(v.r=0∧v.c=0∧v.a.length=0))∧(v.k=3∨v.po.length=0)∧(v.k=4∨(v.fr=0∧v.fc=0∧v.fa.length=0))∧(v.k=5∨v.ri.length=0)∧(v.k=4∨v.k=5∨v.p=0)∧(v.k=6∨v.li.length=0):=by
 have e:∀(p:Prop) [Decidable p],pt p=0↔¬p:=fun p _=>by unfold pt;split <;> simp_all
 unfold vP;rw[Nat.add_eq_zero_iff,Nat.add_eq_zero_iff,Nat.add_eq_zero_iff,Nat.add_eq_zero_iff,Nat.add_eq_zero_iff,Nat.add_eq_zero_iff,e,e,e,e,e,e,e,←adt];constructor
 ·rintro⟨⟨⟨⟨⟨⟨h1,h2⟩,h3⟩,h4⟩,h5⟩,h6⟩,h7⟩;refine⟨?_,by omega,by omega,by omega,by omega,by omega,by omega⟩
  by_cases h:v.k=1
  ·exact .inl h
  ·exact .inr (Decidable.byContradiction fun h'=>h1 ⟨h,h'⟩)
 ·rintro⟨h1,h2,h3,h4,h5,h6,h7⟩;refine⟨⟨⟨⟨⟨⟨?_,by omega⟩,by omega⟩,by omega⟩,by omega⟩,by omega⟩,by omega⟩
  rintro⟨h,h'⟩;exact h1.elim h h'
theorem nG{b:Bool}{l:List Nat}(h:l.length=0):bitLen (sgn b (nval WB l)).natAbs=0:=by
 rw[List.eq_nil_of_length_eq_zero h];cases b <;> rfl
def kiC(k:Int):List CA:=[.val (.int .i64 k)]
instance:dU kiC 1:=⟨fun _=>rfl⟩
attribute [local irreducible] IntKind.wrap Go1 Reg WP aQ aR bO bN aN aB aj ah aV Sat
attribute [local irreducible] bS bV bX dx bW qv redS mf
theorem anZ(l:List Int)(i:Int)(hl:l.length≤1000):PureOK Tryz.prog 182 [.r (ay 1 kiC l),.v (.int .i64 i)] (.v (.int .i64 (fi (fun a=>decide (i=a)) l 0))):=by
 refine PureOK.fnF Tryz.func182 Tryz.results182 Tryz.ntmps182 rfl rfl rfl (by simp[AV.ids,AV0.ids,Atom.ids]) rfl (fun w0 T B E0 hB=>?_)
 refine SX.goN ?_;refine W.loop (fun k=>k≤l.length∧fi (fun a=>decide (i=a)) (l.drop k) k=fi (fun a=>decide (i=a)) l 0) (fun k=>[(0,.r (ay 1 kiC l)),(1,.v (.int .i64 i)),(7,.v (.int .i64 (l.length:Int))),(8,.v (.int .i64 (k:Int)))]) (fun _=>[]) (fun k=>l.length - k) 0 ⟨Nat.zero_le _,rfl⟩ (fun k ⟨hk,he⟩=>?_)
 by_cases h:k < l.length
 ·obtain⟨r,hr⟩:∃r,l[k]? =some r:=⟨_,List.getElem?_eq_getElem h⟩
  rw[wm hr]at he;by_cases hp:i=r
  ·rw[if_pos (decide_eq_true hp)]at he;refine SX.goN ?_;exact gV he
  ·rw[if_neg (by rw[decide_eq_false hp];decide)]at he
   refine SX.goN ?_;exact W.next (k+1) ⟨h,he⟩ (by omega)
 ·obtain rfl:k=l.length:=by omega
  rw[List.drop_length]at he;refine SX.goN ?_;refine gV ?_;rw[←he];rfl
theorem ajV(k i:Int):PureOK Tryz.prog 133 [.r (ay 1 kiC [k]),.v (.int .i64 i)] (.v (.bool (decide (i=k)))):=by
 have c:=anZ [k] i (by rw[List.length_singleton];decide)
 refine PureOK.fnF Tryz.func133 Tryz.results133 Tryz.ntmps133 rfl rfl rfl (by simp[AV.ids,AV0.ids,Atom.ids]) rfl (fun w0 T B E0 hB=>?_)
 have e:fi (fun a=>decide (i=a)) [k] 0=if i=k then 0 else -1:=by
  unfold fi;by_cases h:i=k
  ·rw[if_pos (decide_eq_true h),if_pos h];rfl
  ·rw[if_neg (by rw[decide_eq_false h];decide),if_neg h];rfl
 rw[e]at c;by_cases h:i=k
 ·rw[if_pos h]at c;refine SX.goN ?_;refine aG ?_;rw[decide_eq_true h];first|rfl|decide
 ·rw[if_neg h]at c;refine SX.goN ?_;refine aG ?_;rw[decide_eq_false h];first|rfl|decide
theorem aL(k i:Int):PureOK Tryz.prog 132 [.v (.int .i64 i),.r (bK [.sat (ay 1 kiC [k])])] (.v (.bool (!decide (i=k)))):=by
 have c:=ajV k i;refine PureOK.fnF Tryz.func132 Tryz.results132 Tryz.ntmps132 rfl rfl rfl (by simp[AV.ids,AV0.ids,Atom.ids]) rfl (fun w0 T B E0 hB=>?_)
 refine SX.goN ?_;exact aG rfl
structure vZ0(v:Vl):Prop where
 q:(Sm WB v.q.2.1∧Sm WB v.q.2.2.2)∧v.q.2.1.length≤100000∧v.q.2.2.2.length≤100000
 a:∀x∈v.a,(Sm WB x.2.1∧Sm WB x.2.2.2)∧x.2.1.length≤100000∧x.2.2.2.length≤100000
 al:v.a.length≤100000
 po:∀x∈v.po,Sm WB x.2∧x.2.length≤100000
 pol:v.po.length≤100000
 p:v.p < WB
 fa:∀x∈v.fa,x < WB
 fal:v.fa.length≤100000
 ri:∀x∈v.ri,x < WB
 ril:v.ri.length≤100000
 lil:v.li.length≤100000
set_option maxRecDepth 20000 in
set_option maxHeartbeats 2000000 in
theorem afE(v:Vl)(hz:vZ0 v)(hk:v.k=1):PureOK Tryz.prog 80 [.agg (vlA v),.r (ay 1 kiC [v.k])] (.v (.bool (decide (vP v=0)))):=by
 have c1:FnV Tryz.prog (.sat (dM 132 [] [.sat (bK [.sat (ay 1 kiC [v.k])])])) [.v (.int .i64 1)] (.v (.bool (!decide (1=v.k)))):=FnV.clo (aL v.k 1);have c2:FnV Tryz.prog (.sat (dM 132 [] [.sat (bK [.sat (ay 1 kiC [v.k])])])) [.v (.int .i64 2)] (.v (.bool (!decide (2=v.k)))):=FnV.clo (aL v.k 2);have c3:FnV Tryz.prog (.sat (dM 132 [] [.sat (bK [.sat (ay 1 kiC [v.k])])])) [.v (.int .i64 3)] (.v (.bool (!decide (3=v.k)))):=FnV.clo (aL v.k 3);have c4:FnV Tryz.prog (.sat (dM 132 [] [.sat (bK [.sat (ay 1 kiC [v.k])])])) [.v (.int .i64 4)] (.v (.bool (!decide (4=v.k)))):=FnV.clo (aL v.k 4);have c5:FnV Tryz.prog (.sat (dM 132 [] [.sat (bK [.sat (ay 1 kiC [v.k])])])) [.v (.int .i64 5)] (.v (.bool (!decide (5=v.k)))):=FnV.clo (aL v.k 5);have c6:FnV Tryz.prog (.sat (dM 132 [] [.sat (bK [.sat (ay 1 kiC [v.k])])])) [.v (.int .i64 6)] (.v (.bool (!decide (6=v.k)))):=FnV.clo (aL v.k 6);have cb1:=(eu (h:=ZI.raw v.q.1 v.q.2.1)).h (show v.q.2.1.length≤1099511627775 by have:=hz.q.2.1;omega)
 have cb2:=(eu (h:=ZI.raw v.q.2.2.1 v.q.2.2.2)).h (show v.q.2.2.2.length≤1099511627775 by have:=hz.q.2.2;omega)
 have hP:=vP0 v;have f1:=nG (b:=v.q.1) (l:=v.q.2.1);have f2:=nG (b:=v.q.2.2.1) (l:=v.q.2.2.2);have b1:=hz.q.2.1;have b2:=hz.q.2.2;have b3:=hz.al;have b4:=hz.pol;have b5:=hz.fal;have b6:=hz.ril;have b7:=hz.lil;have l1:(v.a.map rq).length=v.a.length:=List.length_map _;have l2:(v.po.map rz).length=v.po.length:=List.length_map _;refine PureOK.fnF Tryz.func80 Tryz.results80 Tryz.ntmps80 rfl rfl rfl (by simp[AV.ids,AV0.ids,Atom.ids]) rfl (fun w0 T B E0 hB=>?_)
 refine SX.goN ?_;refine SX.WP.eX 3 hB rfl rfl ?_;refine SX.WP.dh ?_;have k0:v.k=1:=hk;have e1:(!decide ((1:Int)=v.k))=false:=by rw[k0];rfl
 have e2:(!decide ((2:Int)=v.k))=true:=by rw[k0];rfl
 have e3:(!decide ((3:Int)=v.k))=true:=by rw[k0];rfl
 have e4:(!decide ((4:Int)=v.k))=true:=by rw[k0];rfl
 have e5:(!decide ((5:Int)=v.k))=true:=by rw[k0];rfl
 have e6:(!decide ((6:Int)=v.k))=true:=by rw[k0];rfl
 rw[e1]at c1;rw[e2]at c2;rw[e3]at c3;rw[e4]at c4;rw[e5]at c5;rw[e6]at c6;clear e1 e2 e3 e4 e5 e6
 repeat'(first|refine SX.goN ?_|refine SX.W.ite (fun h=>?_) (fun h=>?_)|refine SX.W.iteN (fun h=>?_) (fun h=>?_)|refine SX.W.eY (fun h=>?_) (fun h=>?_)|refine SX.R.ite (fun h=>?_) (fun h=>?_)|refine SX.R.iteN (fun h=>?_) (fun h=>?_)|refine SX.R.eY (fun h=>?_) (fun h=>?_))
 all_goals
  refine aG ?_;refine Bool.eq_iff_iff.2 (Iff.trans ?_ decide_eq_true_iff.symm);rw[hP];constructor
  ·intro hh;first
    |(cases hh;done)
    |(try rw[decide_eq_true_iff]at hh
      refine⟨?_,?_,?_,?_,?_,?_,?_⟩ <;> first|omega|(refine .inr ⟨?_,?_,?_,?_⟩ <;> first|omega|assumption))
  ·rintro⟨h1,h2,h3,h4,h5,h6,h7⟩;first
    |rfl
    |(rw[decide_eq_true_iff];omega)
    |(exfalso;first|omega|(rcases h1 with h1|⟨g1,g2,g3,g4⟩ <;> first|omega|(clear c1 c2 c3 c4 c5 c6 f1 f2 hP;simp_all;done)))
set_option maxRecDepth 20000 in
set_option maxHeartbeats 2000000 in
theorem afe(v:Vl)(hz:vZ0 v)(hk:v.k=2):PureOK Tryz.prog 80 [.agg (vlA v),.r (ay 1 kiC [v.k])] (.v (.bool (decide (vP v=0)))):=by
 have c1:FnV Tryz.prog (.sat (dM 132 [] [.sat (bK [.sat (ay 1 kiC [v.k])])])) [.v (.int .i64 1)] (.v (.bool (!decide (1=v.k)))):=FnV.clo (aL v.k 1);have c2:FnV Tryz.prog (.sat (dM 132 [] [.sat (bK [.sat (ay 1 kiC [v.k])])])) [.v (.int .i64 2)] (.v (.bool (!decide (2=v.k)))):=FnV.clo (aL v.k 2);have c3:FnV Tryz.prog (.sat (dM 132 [] [.sat (bK [.sat (ay 1 kiC [v.k])])])) [.v (.int .i64 3)] (.v (.bool (!decide (3=v.k)))):=FnV.clo (aL v.k 3);have c4:FnV Tryz.prog (.sat (dM 132 [] [.sat (bK [.sat (ay 1 kiC [v.k])])])) [.v (.int .i64 4)] (.v (.bool (!decide (4=v.k)))):=FnV.clo (aL v.k 4);have c5:FnV Tryz.prog (.sat (dM 132 [] [.sat (bK [.sat (ay 1 kiC [v.k])])])) [.v (.int .i64 5)] (.v (.bool (!decide (5=v.k)))):=FnV.clo (aL v.k 5);have c6:FnV Tryz.prog (.sat (dM 132 [] [.sat (bK [.sat (ay 1 kiC [v.k])])])) [.v (.int .i64 6)] (.v (.bool (!decide (6=v.k)))):=FnV.clo (aL v.k 6);have cb1:=(eu (h:=ZI.raw v.q.1 v.q.2.1)).h (show v.q.2.1.length≤1099511627775 by have:=hz.q.2.1;omega)
 have cb2:=(eu (h:=ZI.raw v.q.2.2.1 v.q.2.2.2)).h (show v.q.2.2.2.length≤1099511627775 by have:=hz.q.2.2;omega)
 have hP:=vP0 v;have f1:=nG (b:=v.q.1) (l:=v.q.2.1);have f2:=nG (b:=v.q.2.2.1) (l:=v.q.2.2.2);have b1:=hz.q.2.1;have b2:=hz.q.2.2;have b3:=hz.al;have b4:=hz.pol;have b5:=hz.fal;have b6:=hz.ril;have b7:=hz.lil;have l1:(v.a.map rq).length=v.a.length:=List.length_map _;have l2:(v.po.map rz).length=v.po.length:=List.length_map _;refine PureOK.fnF Tryz.func80 Tryz.results80 Tryz.ntmps80 rfl rfl rfl (by simp[AV.ids,AV0.ids,Atom.ids]) rfl (fun w0 T B E0 hB=>?_)
 refine SX.goN ?_;refine SX.WP.eX 3 hB rfl rfl ?_;refine SX.WP.dh ?_;have k0:v.k=2:=hk;have e1:(!decide ((1:Int)=v.k))=true:=by rw[k0];rfl
 have e2:(!decide ((2:Int)=v.k))=false:=by rw[k0];rfl
 have e3:(!decide ((3:Int)=v.k))=true:=by rw[k0];rfl
 have e4:(!decide ((4:Int)=v.k))=true:=by rw[k0];rfl
 have e5:(!decide ((5:Int)=v.k))=true:=by rw[k0];rfl
 have e6:(!decide ((6:Int)=v.k))=true:=by rw[k0];rfl
 rw[e1]at c1;rw[e2]at c2;rw[e3]at c3;rw[e4]at c4;rw[e5]at c5;rw[e6]at c6;clear e1 e2 e3 e4 e5 e6
 repeat'(first|refine SX.goN ?_|refine SX.W.ite (fun h=>?_) (fun h=>?_)|refine SX.W.iteN (fun h=>?_) (fun h=>?_)|refine SX.W.eY (fun h=>?_) (fun h=>?_)|refine SX.R.ite (fun h=>?_) (fun h=>?_)|refine SX.R.iteN (fun h=>?_) (fun h=>?_)|refine SX.R.eY (fun h=>?_) (fun h=>?_))
 all_goals
  refine aG ?_;refine Bool.eq_iff_iff.2 (Iff.trans ?_ decide_eq_true_iff.symm);rw[hP];constructor
  ·intro hh;first
    |(cases hh;done)
    |(try rw[decide_eq_true_iff]at hh
      refine⟨?_,?_,?_,?_,?_,?_,?_⟩ <;> first|omega|(refine .inr ⟨?_,?_,?_,?_⟩ <;> first|omega|assumption))
  ·rintro⟨h1,h2,h3,h4,h5,h6,h7⟩;first
    |rfl
    |(rw[decide_eq_true_iff];omega)
    |(exfalso;first|omega|(rcases h1 with h1|⟨g1,g2,g3,g4⟩ <;> first|omega|(clear c1 c2 c3 c4 c5 c6 f1 f2 hP;simp_all;done)))
set_option maxRecDepth 20000 in
set_option maxHeartbeats 2000000 in
theorem aez(v:Vl)(hz:vZ0 v)(hk:v.k=3):PureOK Tryz.prog 80 [.agg (vlA v),.r (ay 1 kiC [v.k])] (.v (.bool (decide (vP v=0)))):=by
 have c1:FnV Tryz.prog (.sat (dM 132 [] [.sat (bK [.sat (ay 1 kiC [v.k])])])) [.v (.int .i64 1)] (.v (.bool (!decide (1=v.k)))):=FnV.clo (aL v.k 1);have c2:FnV Tryz.prog (.sat (dM 132 [] [.sat (bK [.sat (ay 1 kiC [v.k])])])) [.v (.int .i64 2)] (.v (.bool (!decide (2=v.k)))):=FnV.clo (aL v.k 2);have c3:FnV Tryz.prog (.sat (dM 132 [] [.sat (bK [.sat (ay 1 kiC [v.k])])])) [.v (.int .i64 3)] (.v (.bool (!decide (3=v.k)))):=FnV.clo (aL v.k 3);have c4:FnV Tryz.prog (.sat (dM 132 [] [.sat (bK [.sat (ay 1 kiC [v.k])])])) [.v (.int .i64 4)] (.v (.bool (!decide (4=v.k)))):=FnV.clo (aL v.k 4);have c5:FnV Tryz.prog (.sat (dM 132 [] [.sat (bK [.sat (ay 1 kiC [v.k])])])) [.v (.int .i64 5)] (.v (.bool (!decide (5=v.k)))):=FnV.clo (aL v.k 5);have c6:FnV Tryz.prog (.sat (dM 132 [] [.sat (bK [.sat (ay 1 kiC [v.k])])])) [.v (.int .i64 6)] (.v (.bool (!decide (6=v.k)))):=FnV.clo (aL v.k 6);have cb1:=(eu (h:=ZI.raw v.q.1 v.q.2.1)).h (show v.q.2.1.length≤1099511627775 by have:=hz.q.2.1;omega)
 have cb2:=(eu (h:=ZI.raw v.q.2.2.1 v.q.2.2.2)).h (show v.q.2.2.2.length≤1099511627775 by have:=hz.q.2.2;omega)
 have hP:=vP0 v;have f1:=nG (b:=v.q.1) (l:=v.q.2.1);have f2:=nG (b:=v.q.2.2.1) (l:=v.q.2.2.2);have b1:=hz.q.2.1;have b2:=hz.q.2.2;have b3:=hz.al;have b4:=hz.pol;have b5:=hz.fal;have b6:=hz.ril;have b7:=hz.lil;have l1:(v.a.map rq).length=v.a.length:=List.length_map _;have l2:(v.po.map rz).length=v.po.length:=List.length_map _;refine PureOK.fnF Tryz.func80 Tryz.results80 Tryz.ntmps80 rfl rfl rfl (by simp[AV.ids,AV0.ids,Atom.ids]) rfl (fun w0 T B E0 hB=>?_)
 refine SX.goN ?_;refine SX.WP.eX 3 hB rfl rfl ?_;refine SX.WP.dh ?_;have k0:v.k=3:=hk;have e1:(!decide ((1:Int)=v.k))=true:=by rw[k0];rfl
 have e2:(!decide ((2:Int)=v.k))=true:=by rw[k0];rfl
 have e3:(!decide ((3:Int)=v.k))=false:=by rw[k0];rfl
 have e4:(!decide ((4:Int)=v.k))=true:=by rw[k0];rfl
 have e5:(!decide ((5:Int)=v.k))=true:=by rw[k0];rfl
 have e6:(!decide ((6:Int)=v.k))=true:=by rw[k0];rfl
 rw[e1]at c1;rw[e2]at c2;rw[e3]at c3;rw[e4]at c4;rw[e5]at c5;rw[e6]at c6;clear e1 e2 e3 e4 e5 e6
 repeat'(first|refine SX.goN ?_|refine SX.W.ite (fun h=>?_) (fun h=>?_)|refine SX.W.iteN (fun h=>?_) (fun h=>?_)|refine SX.W.eY (fun h=>?_) (fun h=>?_)|refine SX.R.ite (fun h=>?_) (fun h=>?_)|refine SX.R.iteN (fun h=>?_) (fun h=>?_)|refine SX.R.eY (fun h=>?_) (fun h=>?_))
 all_goals
  refine aG ?_;refine Bool.eq_iff_iff.2 (Iff.trans ?_ decide_eq_true_iff.symm);rw[hP];constructor
  ·intro hh;first
    |(cases hh;done)
    |(try rw[decide_eq_true_iff]at hh
      refine⟨?_,?_,?_,?_,?_,?_,?_⟩ <;> first|omega|(refine .inr ⟨?_,?_,?_,?_⟩ <;> first|omega|assumption))
  ·rintro⟨h1,h2,h3,h4,h5,h6,h7⟩;first
    |rfl
    |(rw[decide_eq_true_iff];omega)
    |(exfalso;first|omega|(rcases h1 with h1|⟨g1,g2,g3,g4⟩ <;> first|omega|(clear c1 c2 c3 c4 c5 c6 f1 f2 hP;simp_all;done)))
set_option maxRecDepth 20000 in
set_option maxHeartbeats 2000000 in
theorem afB(v:Vl)(hz:vZ0 v)(hk:v.k=4):PureOK Tryz.prog 80 [.agg (vlA v),.r (ay 1 kiC [v.k])] (.v (.bool (decide (vP v=0)))):=by
 have c1:FnV Tryz.prog (.sat (dM 132 [] [.sat (bK [.sat (ay 1 kiC [v.k])])])) [.v (.int .i64 1)] (.v (.bool (!decide (1=v.k)))):=FnV.clo (aL v.k 1);have c2:FnV Tryz.prog (.sat (dM 132 [] [.sat (bK [.sat (ay 1 kiC [v.k])])])) [.v (.int .i64 2)] (.v (.bool (!decide (2=v.k)))):=FnV.clo (aL v.k 2);have c3:FnV Tryz.prog (.sat (dM 132 [] [.sat (bK [.sat (ay 1 kiC [v.k])])])) [.v (.int .i64 3)] (.v (.bool (!decide (3=v.k)))):=FnV.clo (aL v.k 3);have c4:FnV Tryz.prog (.sat (dM 132 [] [.sat (bK [.sat (ay 1 kiC [v.k])])])) [.v (.int .i64 4)] (.v (.bool (!decide (4=v.k)))):=FnV.clo (aL v.k 4);have c5:FnV Tryz.prog (.sat (dM 132 [] [.sat (bK [.sat (ay 1 kiC [v.k])])])) [.v (.int .i64 5)] (.v (.bool (!decide (5=v.k)))):=FnV.clo (aL v.k 5);have c6:FnV Tryz.prog (.sat (dM 132 [] [.sat (bK [.sat (ay 1 kiC [v.k])])])) [.v (.int .i64 6)] (.v (.bool (!decide (6=v.k)))):=FnV.clo (aL v.k 6);have cb1:=(eu (h:=ZI.raw v.q.1 v.q.2.1)).h (show v.q.2.1.length≤1099511627775 by have:=hz.q.2.1;omega)
 have cb2:=(eu (h:=ZI.raw v.q.2.2.1 v.q.2.2.2)).h (show v.q.2.2.2.length≤1099511627775 by have:=hz.q.2.2;omega)
 have hP:=vP0 v;have f1:=nG (b:=v.q.1) (l:=v.q.2.1);have f2:=nG (b:=v.q.2.2.1) (l:=v.q.2.2.2);have b1:=hz.q.2.1;have b2:=hz.q.2.2;have b3:=hz.al;have b4:=hz.pol;have b5:=hz.fal;have b6:=hz.ril;have b7:=hz.lil;have l1:(v.a.map rq).length=v.a.length:=List.length_map _;have l2:(v.po.map rz).length=v.po.length:=List.length_map _;refine PureOK.fnF Tryz.func80 Tryz.results80 Tryz.ntmps80 rfl rfl rfl (by simp[AV.ids,AV0.ids,Atom.ids]) rfl (fun w0 T B E0 hB=>?_)
 refine SX.goN ?_;refine SX.WP.eX 3 hB rfl rfl ?_;refine SX.WP.dh ?_;have k0:v.k=4:=hk;have e1:(!decide ((1:Int)=v.k))=true:=by rw[k0];rfl
 have e2:(!decide ((2:Int)=v.k))=true:=by rw[k0];rfl
 have e3:(!decide ((3:Int)=v.k))=true:=by rw[k0];rfl
 have e4:(!decide ((4:Int)=v.k))=false:=by rw[k0];rfl
 have e5:(!decide ((5:Int)=v.k))=true:=by rw[k0];rfl
 have e6:(!decide ((6:Int)=v.k))=true:=by rw[k0];rfl
 rw[e1]at c1;rw[e2]at c2;rw[e3]at c3;rw[e4]at c4;rw[e5]at c5;rw[e6]at c6;clear e1 e2 e3 e4 e5 e6
 repeat'(first|refine SX.goN ?_|refine SX.W.ite (fun h=>?_) (fun h=>?_)|refine SX.W.iteN (fun h=>?_) (fun h=>?_)|refine SX.W.eY (fun h=>?_) (fun h=>?_)|refine SX.R.ite (fun h=>?_) (fun h=>?_)|refine SX.R.iteN (fun h=>?_) (fun h=>?_)|refine SX.R.eY (fun h=>?_) (fun h=>?_))
 all_goals
  refine aG ?_;refine Bool.eq_iff_iff.2 (Iff.trans ?_ decide_eq_true_iff.symm);rw[hP];constructor
  ·intro hh;first
    |(cases hh;done)
    |(try rw[decide_eq_true_iff]at hh
      refine⟨?_,?_,?_,?_,?_,?_,?_⟩ <;> first|omega|(refine .inr ⟨?_,?_,?_,?_⟩ <;> first|omega|assumption))
  ·rintro⟨h1,h2,h3,h4,h5,h6,h7⟩;first
    |rfl
    |(rw[decide_eq_true_iff];omega)
    |(exfalso;first|omega|(rcases h1 with h1|⟨g1,g2,g3,g4⟩ <;> first|omega|(clear c1 c2 c3 c4 c5 c6 f1 f2 hP;simp_all;done)))
set_option maxRecDepth 20000 in
set_option maxHeartbeats 2000000 in
theorem afQ(v:Vl)(hz:vZ0 v)(hk:v.k=5):PureOK Tryz.prog 80 [.agg (vlA v),.r (ay 1 kiC [v.k])] (.v (.bool (decide (vP v=0)))):=by
 have c1:FnV Tryz.prog (.sat (dM 132 [] [.sat (bK [.sat (ay 1 kiC [v.k])])])) [.v (.int .i64 1)] (.v (.bool (!decide (1=v.k)))):=FnV.clo (aL v.k 1);have c2:FnV Tryz.prog (.sat (dM 132 [] [.sat (bK [.sat (ay 1 kiC [v.k])])])) [.v (.int .i64 2)] (.v (.bool (!decide (2=v.k)))):=FnV.clo (aL v.k 2);have c3:FnV Tryz.prog (.sat (dM 132 [] [.sat (bK [.sat (ay 1 kiC [v.k])])])) [.v (.int .i64 3)] (.v (.bool (!decide (3=v.k)))):=FnV.clo (aL v.k 3);have c4:FnV Tryz.prog (.sat (dM 132 [] [.sat (bK [.sat (ay 1 kiC [v.k])])])) [.v (.int .i64 4)] (.v (.bool (!decide (4=v.k)))):=FnV.clo (aL v.k 4);have c5:FnV Tryz.prog (.sat (dM 132 [] [.sat (bK [.sat (ay 1 kiC [v.k])])])) [.v (.int .i64 5)] (.v (.bool (!decide (5=v.k)))):=FnV.clo (aL v.k 5);have c6:FnV Tryz.prog (.sat (dM 132 [] [.sat (bK [.sat (ay 1 kiC [v.k])])])) [.v (.int .i64 6)] (.v (.bool (!decide (6=v.k)))):=FnV.clo (aL v.k 6);have cb1:=(eu (h:=ZI.raw v.q.1 v.q.2.1)).h (show v.q.2.1.length≤1099511627775 by have:=hz.q.2.1;omega)
 have cb2:=(eu (h:=ZI.raw v.q.2.2.1 v.q.2.2.2)).h (show v.q.2.2.2.length≤1099511627775 by have:=hz.q.2.2;omega)
 have hP:=vP0 v;have f1:=nG (b:=v.q.1) (l:=v.q.2.1);have f2:=nG (b:=v.q.2.2.1) (l:=v.q.2.2.2);have b1:=hz.q.2.1;have b2:=hz.q.2.2;have b3:=hz.al;have b4:=hz.pol;have b5:=hz.fal;have b6:=hz.ril;have b7:=hz.lil;have l1:(v.a.map rq).length=v.a.length:=List.length_map _;have l2:(v.po.map rz).length=v.po.length:=List.length_map _;refine PureOK.fnF Tryz.func80 Tryz.results80 Tryz.ntmps80 rfl rfl rfl (by simp[AV.ids,AV0.ids,Atom.ids]) rfl (fun w0 T B E0 hB=>?_)
 refine SX.goN ?_;refine SX.WP.eX 3 hB rfl rfl ?_;refine SX.WP.dh ?_;have k0:v.k=5:=hk;have e1:(!decide ((1:Int)=v.k))=true:=by rw[k0];rfl
 have e2:(!decide ((2:Int)=v.k))=true:=by rw[k0];rfl
 have e3:(!decide ((3:Int)=v.k))=true:=by rw[k0];rfl
 have e4:(!decide ((4:Int)=v.k))=true:=by rw[k0];rfl
 have e5:(!decide ((5:Int)=v.k))=false:=by rw[k0];rfl
 have e6:(!decide ((6:Int)=v.k))=true:=by rw[k0];rfl
 rw[e1]at c1;rw[e2]at c2;rw[e3]at c3;rw[e4]at c4;rw[e5]at c5;rw[e6]at c6;clear e1 e2 e3 e4 e5 e6
 repeat'(first|refine SX.goN ?_|refine SX.W.ite (fun h=>?_) (fun h=>?_)|refine SX.W.iteN (fun h=>?_) (fun h=>?_)|refine SX.W.eY (fun h=>?_) (fun h=>?_)|refine SX.R.ite (fun h=>?_) (fun h=>?_)|refine SX.R.iteN (fun h=>?_) (fun h=>?_)|refine SX.R.eY (fun h=>?_) (fun h=>?_))
 all_goals
  refine aG ?_;refine Bool.eq_iff_iff.2 (Iff.trans ?_ decide_eq_true_iff.symm);rw[hP];constructor
  ·intro hh;first
    |(cases hh;done)
    |(try rw[decide_eq_true_iff]at hh
      refine⟨?_,?_,?_,?_,?_,?_,?_⟩ <;> first|omega|(refine .inr ⟨?_,?_,?_,?_⟩ <;> first|omega|assumption))
  ·rintro⟨h1,h2,h3,h4,h5,h6,h7⟩;first
    |rfl
    |(rw[decide_eq_true_iff];omega)
    |(exfalso;first|omega|(rcases h1 with h1|⟨g1,g2,g3,g4⟩ <;> first|omega|(clear c1 c2 c3 c4 c5 c6 f1 f2 hP;simp_all;done)))
set_option maxRecDepth 20000 in
set_option maxHeartbeats 2000000 in
theorem aey(v:Vl)(hz:vZ0 v)(hk:v.k=6):PureOK Tryz.prog 80 [.agg (vlA v),.r (ay 1 kiC [v.k])] (.v (.bool (decide (vP v=0)))):=by
 have c1:FnV Tryz.prog (.sat (dM 132 [] [.sat (bK [.sat (ay 1 kiC [v.k])])])) [.v (.int .i64 1)] (.v (.bool (!decide (1=v.k)))):=FnV.clo (aL v.k 1);have c2:FnV Tryz.prog (.sat (dM 132 [] [.sat (bK [.sat (ay 1 kiC [v.k])])])) [.v (.int .i64 2)] (.v (.bool (!decide (2=v.k)))):=FnV.clo (aL v.k 2);have c3:FnV Tryz.prog (.sat (dM 132 [] [.sat (bK [.sat (ay 1 kiC [v.k])])])) [.v (.int .i64 3)] (.v (.bool (!decide (3=v.k)))):=FnV.clo (aL v.k 3);have c4:FnV Tryz.prog (.sat (dM 132 [] [.sat (bK [.sat (ay 1 kiC [v.k])])])) [.v (.int .i64 4)] (.v (.bool (!decide (4=v.k)))):=FnV.clo (aL v.k 4);have c5:FnV Tryz.prog (.sat (dM 132 [] [.sat (bK [.sat (ay 1 kiC [v.k])])])) [.v (.int .i64 5)] (.v (.bool (!decide (5=v.k)))):=FnV.clo (aL v.k 5);have c6:FnV Tryz.prog (.sat (dM 132 [] [.sat (bK [.sat (ay 1 kiC [v.k])])])) [.v (.int .i64 6)] (.v (.bool (!decide (6=v.k)))):=FnV.clo (aL v.k 6);have cb1:=(eu (h:=ZI.raw v.q.1 v.q.2.1)).h (show v.q.2.1.length≤1099511627775 by have:=hz.q.2.1;omega)
 have cb2:=(eu (h:=ZI.raw v.q.2.2.1 v.q.2.2.2)).h (show v.q.2.2.2.length≤1099511627775 by have:=hz.q.2.2;omega)
 have hP:=vP0 v;have f1:=nG (b:=v.q.1) (l:=v.q.2.1);have f2:=nG (b:=v.q.2.2.1) (l:=v.q.2.2.2);have b1:=hz.q.2.1;have b2:=hz.q.2.2;have b3:=hz.al;have b4:=hz.pol;have b5:=hz.fal;have b6:=hz.ril;have b7:=hz.lil;have l1:(v.a.map rq).length=v.a.length:=List.length_map _;have l2:(v.po.map rz).length=v.po.length:=List.length_map _;refine PureOK.fnF Tryz.func80 Tryz.results80 Tryz.ntmps80 rfl rfl rfl (by simp[AV.ids,AV0.ids,Atom.ids]) rfl (fun w0 T B E0 hB=>?_)
 refine SX.goN ?_;refine SX.WP.eX 3 hB rfl rfl ?_;refine SX.WP.dh ?_;have k0:v.k=6:=hk;have e1:(!decide ((1:Int)=v.k))=true:=by rw[k0];rfl
 have e2:(!decide ((2:Int)=v.k))=true:=by rw[k0];rfl
 have e3:(!decide ((3:Int)=v.k))=true:=by rw[k0];rfl
 have e4:(!decide ((4:Int)=v.k))=true:=by rw[k0];rfl
 have e5:(!decide ((5:Int)=v.k))=true:=by rw[k0];rfl
 have e6:(!decide ((6:Int)=v.k))=false:=by rw[k0];rfl
 rw[e1]at c1;rw[e2]at c2;rw[e3]at c3;rw[e4]at c4;rw[e5]at c5;rw[e6]at c6;clear e1 e2 e3 e4 e5 e6
 repeat'(first|refine SX.goN ?_|refine SX.W.ite (fun h=>?_) (fun h=>?_)|refine SX.W.iteN (fun h=>?_) (fun h=>?_)|refine SX.W.eY (fun h=>?_) (fun h=>?_)|refine SX.R.ite (fun h=>?_) (fun h=>?_)|refine SX.R.iteN (fun h=>?_) (fun h=>?_)|refine SX.R.eY (fun h=>?_) (fun h=>?_))
 all_goals
  refine aG ?_;refine Bool.eq_iff_iff.2 (Iff.trans ?_ decide_eq_true_iff.symm);rw[hP];constructor
  ·intro hh;first
    |(cases hh;done)
    |(try rw[decide_eq_true_iff]at hh
      refine⟨?_,?_,?_,?_,?_,?_,?_⟩ <;> first|omega|(refine .inr ⟨?_,?_,?_,?_⟩ <;> first|omega|assumption))
  ·rintro⟨h1,h2,h3,h4,h5,h6,h7⟩;first
    |rfl
    |(rw[decide_eq_true_iff];omega)
    |(exfalso;first|omega|(rcases h1 with h1|⟨g1,g2,g3,g4⟩ <;> first|omega|(clear c1 c2 c3 c4 c5 c6 f1 f2 hP;simp_all;done)))
set_option maxRecDepth 20000 in
set_option maxHeartbeats 2000000 in
theorem afa(v:Vl)(hz:vZ0 v)(hk:v.k≠1∧v.k≠2∧v.k≠3∧v.k≠4∧v.k≠5∧v.k≠6):PureOK Tryz.prog 80 [.agg (vlA v),.r (ay 1 kiC [v.k])] (.v (.bool (decide (vP v=0)))):=by
 have c1:FnV Tryz.prog (.sat (dM 132 [] [.sat (bK [.sat (ay 1 kiC [v.k])])])) [.v (.int .i64 1)] (.v (.bool (!decide (1=v.k)))):=FnV.clo (aL v.k 1);have c2:FnV Tryz.prog (.sat (dM 132 [] [.sat (bK [.sat (ay 1 kiC [v.k])])])) [.v (.int .i64 2)] (.v (.bool (!decide (2=v.k)))):=FnV.clo (aL v.k 2);have c3:FnV Tryz.prog (.sat (dM 132 [] [.sat (bK [.sat (ay 1 kiC [v.k])])])) [.v (.int .i64 3)] (.v (.bool (!decide (3=v.k)))):=FnV.clo (aL v.k 3);have c4:FnV Tryz.prog (.sat (dM 132 [] [.sat (bK [.sat (ay 1 kiC [v.k])])])) [.v (.int .i64 4)] (.v (.bool (!decide (4=v.k)))):=FnV.clo (aL v.k 4);have c5:FnV Tryz.prog (.sat (dM 132 [] [.sat (bK [.sat (ay 1 kiC [v.k])])])) [.v (.int .i64 5)] (.v (.bool (!decide (5=v.k)))):=FnV.clo (aL v.k 5);have c6:FnV Tryz.prog (.sat (dM 132 [] [.sat (bK [.sat (ay 1 kiC [v.k])])])) [.v (.int .i64 6)] (.v (.bool (!decide (6=v.k)))):=FnV.clo (aL v.k 6);have cb1:=(eu (h:=ZI.raw v.q.1 v.q.2.1)).h (show v.q.2.1.length≤1099511627775 by have:=hz.q.2.1;omega)
 have cb2:=(eu (h:=ZI.raw v.q.2.2.1 v.q.2.2.2)).h (show v.q.2.2.2.length≤1099511627775 by have:=hz.q.2.2;omega)
 have hP:=vP0 v;have f1:=nG (b:=v.q.1) (l:=v.q.2.1);have f2:=nG (b:=v.q.2.2.1) (l:=v.q.2.2.2);have b1:=hz.q.2.1;have b2:=hz.q.2.2;have b3:=hz.al;have b4:=hz.pol;have b5:=hz.fal;have b6:=hz.ril;have b7:=hz.lil;have l1:(v.a.map rq).length=v.a.length:=List.length_map _;have l2:(v.po.map rz).length=v.po.length:=List.length_map _;refine PureOK.fnF Tryz.func80 Tryz.results80 Tryz.ntmps80 rfl rfl rfl (by simp[AV.ids,AV0.ids,Atom.ids]) rfl (fun w0 T B E0 hB=>?_)
 refine SX.goN ?_;refine SX.WP.eX 3 hB rfl rfl ?_;refine SX.WP.dh ?_;have k0:=hk;have e1:(!decide ((1:Int)=v.k))=true:=by rw[decide_eq_false (by omega)];rfl
 have e2:(!decide ((2:Int)=v.k))=true:=by rw[decide_eq_false (by omega)];rfl
 have e3:(!decide ((3:Int)=v.k))=true:=by rw[decide_eq_false (by omega)];rfl
 have e4:(!decide ((4:Int)=v.k))=true:=by rw[decide_eq_false (by omega)];rfl
 have e5:(!decide ((5:Int)=v.k))=true:=by rw[decide_eq_false (by omega)];rfl
 have e6:(!decide ((6:Int)=v.k))=true:=by rw[decide_eq_false (by omega)];rfl
 rw[e1]at c1;rw[e2]at c2;rw[e3]at c3;rw[e4]at c4;rw[e5]at c5;rw[e6]at c6;clear e1 e2 e3 e4 e5 e6
 repeat'(first|refine SX.goN ?_|refine SX.W.ite (fun h=>?_) (fun h=>?_)|refine SX.W.iteN (fun h=>?_) (fun h=>?_)|refine SX.W.eY (fun h=>?_) (fun h=>?_)|refine SX.R.ite (fun h=>?_) (fun h=>?_)|refine SX.R.iteN (fun h=>?_) (fun h=>?_)|refine SX.R.eY (fun h=>?_) (fun h=>?_))
 all_goals
  refine aG ?_;refine Bool.eq_iff_iff.2 (Iff.trans ?_ decide_eq_true_iff.symm);rw[hP];constructor
  ·intro hh;first
    |(cases hh;done)
    |(try rw[decide_eq_true_iff]at hh
      refine⟨?_,?_,?_,?_,?_,?_,?_⟩ <;> first|omega|(refine .inr ⟨?_,?_,?_,?_⟩ <;> first|omega|assumption))
  ·rintro⟨h1,h2,h3,h4,h5,h6,h7⟩;first
    |rfl
    |(rw[decide_eq_true_iff];omega)
    |(exfalso;first|omega|(rcases h1 with h1|⟨g1,g2,g3,g4⟩ <;> first|omega|(clear c1 c2 c3 c4 c5 c6 f1 f2 hP;simp_all;done)))
theorem aku(v:Vl)(hz:vZ0 v):PureOK Tryz.prog 80 [.agg (vlA v),.r (ay 1 kiC [v.k])] (.v (.bool (decide (vP v=0)))):=by
 have hk:v.k=1∨v.k=2∨v.k=3∨v.k=4∨v.k=5∨v.k=6∨(v.k≠1∧v.k≠2∧v.k≠3∧v.k≠4∧v.k≠5∧v.k≠6):=by omega
 rcases hk with hk|hk|hk|hk|hk|hk|hk
 ·exact afE v hz hk
 ·exact afe v hz hk
 ·exact aez v hz hk
 ·exact afB v hz hk
 ·exact afQ v hz hk
 ·exact aey v hz hk
 ·exact afa v hz hk
end
section
def PrP(p:Nat):Prop:=2≤p∧p < 2147483648∧∀d,d < p→2≤d∧d*d≤p→p % d≠0
instance(p:Nat):Decidable (PrP p):=by unfold PrP;infer_instance
theorem wK(a b:Nat):(a:Int).tmod (b:Int)=((a % b:Nat):Int):=rfl
theorem alz(a b:Nat):(a:Int).tdiv (b:Int)=((a / b:Nat):Int):=rfl
theorem wrapN{n:Nat}(h:n < 18446744073709551616):IntKind.u64.wrap (n:Int)=(n:Int):=p8 (by omega) (by omega)
theorem PrP.intro{p d:Nat}(h1:2≤p)(h2:p < 2147483648)(h3:p < d*d)(h:∀e,2≤e→e < d→p % e≠0):PrP p:=⟨h1,h2,fun e _ he=>h e he.1 (by
 rcases Nat.lt_or_ge e d with h'|h'
 ·exact h'
 ·have:=Nat.mul_le_mul h' h';omega)⟩
theorem PrP.not{p d:Nat}(h1:2≤d)(h2:d*d≤p)(h3:p % d=0):¬PrP p:=fun h=>h.2.2 d (by
 have:=Nat.mul_le_mul h1 (Nat.le_refl d);omega) ⟨h1,h2⟩ h3
attribute [local irreducible] IntKind.wrap Go1 Reg WP aQ aR bO bN aN aB aj ah aV Sat
attribute [local irreducible] bS bV bX dx bW qv redS mf PrP
theorem ab4(p:Nat)(hp:p < 18446744073709551616):PureOK Tryz.prog 22 [.v (.int .u64 (p:Int))] (.v (.bool (decide (PrP p)))):=by
 refine PureOK.fnF Tryz.func22 Tryz.results22 Tryz.ntmps22 rfl rfl rfl (by simp[AV.ids,AV0.ids,Atom.ids]) rfl (fun w0 T B E0 hB=>?_)
 by_cases h1:p < 2
 ·have h1':(p:Int) < 2:=by omega
  refine SX.goN ?_;refine aG ?_;exact(decide_eq_false fun h=>by unfold PrP at h;omega).symm
 by_cases h2:2147483648≤p
 ·have h2':(p:Int)≥2147483648:=by omega
  refine SX.goN ?_;refine aG ?_;exact(decide_eq_false fun h=>by unfold PrP at h;omega).symm
 refine SX.goN ?_;refine W.loop (fun d=>2≤d∧d≤50000∧∀e,2≤e→e < d→p % e≠0) (fun d=>[(0,.v (.int .u64 (p:Int))),(3,.v (.int .u64 (d:Int)))]) (fun _=>[]) (fun d=>50001 - d) 2 ⟨by omega,by omega,fun e h h'=>by omega⟩ (fun d ⟨hd,hd2,he⟩=>?_)
 have hq:IntKind.u64.wrap ((p:Int).tdiv (d:Int))=((p / d:Nat):Int):=by rw[alz];exact wrapN (Nat.lt_of_le_of_lt (Nat.div_le_self p d) hp)
 have hr:IntKind.u64.wrap ((p:Int).tmod (d:Int))=((p % d:Nat):Int):=by rw[wK];exact wrapN (Nat.lt_of_le_of_lt (Nat.mod_le p d) hp)
 have hdz:(d:Int)≠0:=by omega
 by_cases h:d≤p / d
 ·have hdd:d*d≤p:=(Nat.le_div_iff_mul_le (by omega)).1 h
  by_cases h3:p % d=0
  ·refine SX.goN ?_;refine aG ?_;exact(decide_eq_false (PrP.not hd hdd h3)).symm
  ·have hd3:d≤46340:=by
    rcases Nat.lt_or_ge 46340 d with h4|h4
    ·have:=Nat.mul_le_mul h4 h4;omega
    ·exact h4
   refine SX.goN ?_;refine W.next (d+1) ⟨by omega,by omega,fun e h h'=>?_⟩ (by omega)
   by_cases h5:e < d
   ·exact he e h h5
   ·obtain rfl:e=d:=by omega
    exact h3
 ·have hdd:p < d*d:=by
   rcases Nat.lt_or_ge p (d*d)with h4|h4
   ·exact h4
   ·exact absurd ((Nat.le_div_iff_mul_le (by omega)).2 h4) h
  refine SX.goN ?_;refine aG ?_;exact(decide_eq_true (PrP.intro (by omega) (by omega) hdd he)).symm
theorem aa5(p:Nat)(hp:p < 18446744073709551616):PureOK Tryz.prog 138 [.v (.int .u64 (p:Int))] (.v (.bool (decide (PrP p)))):=by
 have hr2:IntKind.u64.wrap ((p:Int).tmod 2)=((p % 2:Nat):Int):=by rw[show (2:Int)=((2:Nat):Int)from rfl,wK];exact wrapN (Nat.lt_of_le_of_lt (Nat.mod_le p 2) hp)
 refine PureOK.fnF Tryz.func138 Tryz.results138 Tryz.ntmps138 rfl rfl rfl (by simp[AV.ids,AV0.ids,Atom.ids]) rfl (fun w0 T B E0 hB=>?_)
 by_cases h1:p < 2
 ·have h1':(p:Int) < 2:=by omega
  refine SX.goN ?_;refine aG ?_;rw[Bool.eq_iff_iff,decide_eq_true_iff];refine Iff.trans ?_ decide_eq_true_iff.symm;exact⟨fun h=>by omega,fun h=>by unfold PrP at h;omega⟩
 by_cases h2:2147483648≤p
 ·have h2':(p:Int)≥2147483648:=by omega
  refine SX.goN ?_;refine aG ?_;rw[Bool.eq_iff_iff,decide_eq_true_iff];refine Iff.trans ?_ decide_eq_true_iff.symm;exact⟨fun h=>by omega,fun h=>by unfold PrP at h;omega⟩
 by_cases h3:p % 2=0
 ·refine SX.goN ?_;refine aG ?_;rw[Bool.eq_iff_iff,decide_eq_true_iff];refine Iff.trans ?_ decide_eq_true_iff.symm;constructor
  ·intro h;obtain rfl:p=2:=by omega
   exact PrP.intro (d:=2) (by decide) (by decide) (by decide) (fun e h h'=>by omega)
  ·intro h;rcases Nat.lt_or_ge p 4 with h4|h4
   ·omega
   ·exact absurd h (PrP.not (d:=2) (by decide) (by omega) h3)
 refine SX.goN ?_;refine W.loop (fun d=>3≤d∧d≤50000∧d % 2=1∧∀e,2≤e→e < d→p % e≠0) (fun d=>[(0,.v (.int .u64 (p:Int))),(3,.v (.int .u64 (d:Int)))]) (fun _=>[]) (fun d=>50001 - d) 3 ⟨by omega,by omega,by omega,fun e h h'=>(show e=2 by omega)▸h3⟩ (fun d ⟨hd,hd2,hodd,he⟩=>?_)
 have hmm:d*d≤50000*50000:=Nat.mul_le_mul hd2 hd2;have hq:IntKind.u64.wrap ((d:Int)*(d:Int))=((d*d:Nat):Int):=by rw[←Int.natCast_mul];exact wrapN (by omega)
 have hr:IntKind.u64.wrap ((p:Int).tmod (d:Int))=((p % d:Nat):Int):=by rw[wK];exact wrapN (Nat.lt_of_le_of_lt (Nat.mod_le p d) hp)
 have hdz:(d:Int)≠0:=by omega
 by_cases h:d*d≤p
 ·by_cases h5:p % d=0
  ·refine SX.goN ?_;refine aG ?_;exact(decide_eq_false (PrP.not (by omega) h h5)).symm
  ·have hd3:d≤46340:=by
    rcases Nat.lt_or_ge 46340 d with h4|h4
    ·have:=Nat.mul_le_mul h4 h4;omega
    ·exact h4
   refine SX.goN ?_;refine W.next (d+2) ⟨by omega,by omega,by omega,fun e h h'=>?_⟩ (by omega)
   by_cases h6:e < d
   ·exact he e h h6
   ·by_cases h7:e=d
    ·subst h7;exact h5
    ·obtain rfl:e=d+1:=by omega
     intro h8;have h9:(d+1) % 2=0:=by omega
     have:p % 2=0:=Nat.mod_eq_zero_of_dvd (Nat.dvd_trans (Nat.dvd_of_mod_eq_zero h9) (Nat.dvd_of_mod_eq_zero h8));exact h3 this
 ·refine SX.goN ?_;refine aG ?_;exact(decide_eq_true (PrP.intro (by omega) (by omega) (by omega) he)).symm
end
end Go.Proofs.YtmgfiodmdfaclaaGreatDoor