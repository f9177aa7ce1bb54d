import Derived.Test.YtmgfiodmdfaclaaGreatDoorA18
import Derived.Test.YtmgfiodmdfaclaaGreatDoorA29
import Derived.Test.YtmgfiodmdfaclaaGreatDoorA9
set_option linter.unusedVariables false
set_option linter.unusedSimpArgs false
namespace Go.Proofs.YtmgfiodmdfaclaaGreatDoor
open Go.RowKit QM SX LA
section
theorem adZ(s:UInt8):∀{l:List (List UInt8)} {x:List UInt8},x∈l→x.length≤(jn s l).length
 |[a],x,h=>by rw[List.mem_singleton]at h;subst h;exact Nat.le_refl _
 |a::b::l,x,h=>by
  show x.length≤(a++(s::32::jn s (b::l))).length;rw[List.length_append,List.length_cons,List.length_cons];rw[List.mem_cons]at h;rcases h with rfl|h
  ·omega
  ·have:=adZ s h;omega
theorem amn(s:UInt8){m:Nat}:∀{l:List (List UInt8)},(∀x∈l,x.length≤m)→(jn s l).length≤l.length*(m+2)
 |[],_=>Nat.zero_le _
 |[a],h=>by have:=h a (List.mem_singleton.2 rfl);show a.length≤1*(m+2);omega
 |a::b::l,h=>by
  have h1:=h a (List.mem_cons_self ..);have h2:=amn s (l:=b::l) fun x hx=>h x (List.mem_cons_of_mem _ hx)
  show (a++(s::32::jn s (b::l))).length≤(l.length+1+1)*(m+2);rw[List.length_append,List.length_cons,List.length_cons,Nat.add_mul _ 1 (m+2)];rw[List.length_cons]at h2;omega
theorem aqY(c:Nat){m:Nat}:∀(i:Nat) {l:List (List UInt8)},(∀x∈l,x.length≤m)→(sq c i l).length≤l.length*(m+4)
 |_,[],_=>Nat.zero_le _
 |i,a::l,h=>by
  have h1:=h a (List.mem_cons_self ..);have h2:=aqY c (i+1) (l:=l) fun x hx=>h x (List.mem_cons_of_mem _ hx)
  show ((if 0 < i∧i % c=0 then [59,32]else [])++((if 0 < i % c then [44,32]else [])++(a++sq c (i+1) l))).length≤(l.length+1)*(m+4)
  have e1:(if 0 < i∧i % c=0 then [59,32]else []:List UInt8).length≤2:=by split <;> simp
  have e2:(if 0 < i % c then [44,32]else []:List UInt8).length≤2:=by split <;> simp
  rw[List.length_append,List.length_append,List.length_append,Nat.add_mul _ 1 (m+4)];omega
theorem aqV{r c m:Nat}{l:List (List UInt8)}(hl:l.length=r*c)(hr:r < WB)(hc:c < WB)(h:∀x∈l,x.length≤m):(tbS r c l).length≤l.length*(m+4)+50:=by
 unfold tbS
 split
 ·next h0=>
  have b1:=rU hr;have b2:=rU hc;simp only[List.length_append,List.length_cons,List.length_nil];omega
 ·next h0=>
  rw[←am1 hl (by omega) (by omega),List.length_cons,List.length_append]
  have:=aqY c 0 h;simp only[List.length_cons,List.length_nil];omega
theorem aof{m:Nat}{l:List (List UInt8)}(h:∀x∈l,x.length≤m):(plS l).length≤l.length*(m+2)+6:=by
 have:=amn 44 h;unfold plS;simp only[List.length_append,List.length_cons,List.length_nil];omega
theorem aqZ{s:List UInt8}{p:Nat}(hp:p < WB):(mdS s p).length≤s.length+28:=by
 have:=rU hp;unfold mdS;simp only[List.length_append,List.length_cons,List.length_nil];omega
theorem amx{z:Int}{K:Nat}(h:z.natAbs < WB ^ K):(zS z).length≤20*K+2:=agl (h:=⟨h⟩)
theorem aqT{x:Rat}{K:Nat}(h:RB x K):(qS x).length≤40*K+5:=by
 have h1:=amx h.n;have h2:(zS (x.den:Int)).length≤20*K+2:=amx (by rw[Int.natAbs_natCast];exact h.d)
 rw[qa9]
 split
 ·omega
 ·rw[List.length_append,List.length_cons];omega
theorem map_le{α:Type}{f:α→List UInt8}{m:Nat}{l:List α}(h:∀x∈l,(f x).length≤m):∀x∈l.map f,x.length≤m:=fun x hx=>by
 obtain⟨y,hy,rfl⟩:=List.mem_map.1 hx;exact h y hy
theorem Sh.le{d:Nat}{v:Vl}(h:Sh 2 v)(hw:vW1 d v):(tS v).length≤20000:=by
 obtain⟨w1,w2,w3,w4,w5,w6,w7,w8⟩:=hw;cases h with
 |num x h=>rw[uL];have:=aqT h;omega
 |mat r c vs hl hr hc h=>
  have h1:vs.length≤100:=by have:=w7.2.2.2;simpa using this
  rw[oh];have:=aqV (m:=85) (l:=vs.map qS) (by rw[List.length_map];exact hl) (by rw[aX];omega) (by rw[aX];omega) (map_le fun x hx=>by have:=aqT (h x hx);omega)
  rw[List.length_map]at this;have h2:=Nat.mul_le_mul_right (85+4) h1;omega
 |pol zs hl hn h=>
  have h1:zs.length≤5:=by have:=w1.1;simpa using this
  rw[uT];have:=aof (m:=42) (l:=zs.map zS) (map_le fun x hx=>amx (h x hx))
  rw[List.length_map]at this;have h2:=Nat.mul_le_mul_right (42+2) h1;omega
 |fld p r c l hp hl hr hc h=>
  have h1:l.length≤100:=w8.2.2;rw[uy];have:=aqV (m:=21) (l:=l.map aH) (by rw[List.length_map];exact hl) (by rw[aX];omega) (by rw[aX];omega) (map_le fun x hx=>rU (Nat.lt_trans (h x hx) hp.wb))
  rw[List.length_map]at this;have h2:=Nat.mul_le_mul_right (21+4) h1;have h3:=aqZ (s:=tbS r c (l.map aH)) hp.wb;omega
 |rng p l hp hl hn h=>
  have h1:l.length≤5:=w2;rw[u7];have:=aof (m:=21) (l:=l.map aH) (map_le fun x hx=>rU (Nat.lt_trans (h x hx) hp.wb))
  rw[List.length_map]at this;have h2:=Nat.mul_le_mul_right (21+2) h1;have h3:=aqZ (s:=plS (l.map aH)) hp.wb;omega
def tB:Nat→Nat
 |0=>20000
 |d+1=>4*tB d+20000
theorem tS_le:∀(d:Nat) {n:Nat} {v:Vl},vW d v→Cv 2 n v→(tS v).length≤tB d:=by
 intro d
 induction d with
 |zero=>
  intro n v hw hv;cases hv with
  |one h=>exact h.le hw.1
  |lst l hl h=>
   have:l=[]:=hw.2;subst this;rw[rM];decide
 |succ d ih=>
  intro n v hw hv;cases hv with
  |one h=>have:=h.le hw.1;show _≤4*tB d+20000;omega
  |lst l hl h=>
   have h1:l.length≤4:=hw.1.2.2.1;have h2:=amn 44 (m:=tB d) (l:=l.map tS) (map_le fun x hx=>ih (hw.2 x hx) (h x hx))
   rw[rM];rw[List.length_map]at h2;have h3:=Nat.mul_le_mul_right (tB d+2) h1;show (123::(jn 44 (l.map tS)++[125])).length≤4*tB d+20000;rw[List.length_cons,List.length_append,List.length_cons,List.length_nil];omega
attribute [local irreducible] IntKind.wrap Go1 Reg WP aQ aR bO bN aN aB aj ah aV Sat
attribute [local irreducible] bS bV bX dx bW qv redS mf PrP qOk zOk vP dL lz vF cq rqv fC dn dI pScale mulV jn sq aH qS zS tS tbS plS mdS
theorem aep{r c:Nat}{l:List (List UInt8)}(hl:l.length=r*c)(hr:r≤64)(hc:c≤64)(hb:(tbS r c l).length≤1000000000000):PureOK Tryz.prog 32 [.v (.int .i64 (r:Int)),.v (.int .i64 (c:Int)),.r (ay 1 txC l)] (.v (str (tbS r c l))):=by
 by_cases h:r=0∨c=0
 ·exact afF h (by omega) (by omega) l (.v (.bool true))
 ·exact ah9 (by omega) (by omega) hl (by omega) (by omega) hb
theorem asw(vs:List Rat):(vs.map cq).map (fun x=>qS (rqv x))=vs.map qS:=by
 rw[List.map_map];exact List.map_congr_left fun x _=>congrArg qS (iM x)
theorem ase(zs:List Int):(zs.map cz).map (fun x=>zS (rzv x))=zs.map zS:=by
 rw[List.map_map];exact List.map_congr_left fun x _=>congrArg zS (mX x)
theorem apZ(r c:Nat)(vs:List Rat):txL (gP r c vs)=vs.map qS:=by
 show (vs.map cq).map (fun x=>qS (rqv x))++[]++[]++[]++[]=_
 rw[asw];simp
theorem apf(zs:List Int):txL (iW zs)=zs.map zS:=by
 show []++(zs.map cz).map (fun x=>zS (rzv x))++[]++[]++[]=_
 rw[ase];simp
theorem aqJ(p r c:Nat)(l:List Nat):txL (lI p r c l)=l.map aH:=by
 show []++[]++l.map aH++[]++[]=_;simp
theorem ap7(p:Nat)(l:List Nat):txL (lN p l)=l.map aH:=by
 show []++[]++[]++l.map aH++[]=_;simp
theorem aqn(l:List Vl):txL (kG l)=l.map tS:=by
 show []++[]++[]++[]++l.map tS=_;simp
theorem ahY{z:Int}{K:Nat}(h:z.natAbs < WB ^ K)(hK:K≤100000):PureOK Tryz.prog 30 [.agg (z2A (rz (cz z)))] (.v (str (zS (rzv (cz z))))):=by
 have hl:(cz z).2.length≤K:=lZ h;exact aa2 (h:=(ZQ.raw (b:=(cz z).1) (aiM z) hl).zi).h (by omega)
theorem aft{x:Rat}{K:Nat}(hx:RB x K)(hK:K≤100000):PureOK Tryz.prog 29 [.agg (q4A (rq (cq x)))] (.v (str (qS (rqv (cq x))))):=by
 rw[iM];exact zM hx hK
theorem wu{K:Nat}{v:Vl}(h:Sh K v)(hK:K≤100000)(hb:(tS v).length≤1000000000000):PureOK Tryz.prog 12 [.agg (vlA v)] (.v (str (tS v))):=by
 cases h with
 |num x h=>
  refine jr _ _ hb (Nat.zero_le _) (Nat.zero_le _) (Nat.zero_le _) (Nat.zero_le _) (Nat.zero_le _) bR bR bR bR bR (.inl ⟨rfl,?_⟩);rw[uL];exact zM h hK
 |mat r c vs hl hr hc h=>
  have hm:=Nat.mul_le_mul hr hc;refine jr _ _ hb (by rw[List.length_map];omega) (Nat.zero_le _) (Nat.zero_le _) (Nat.zero_le _) (Nat.zero_le _) (fun x hx=>?_) bR bR bR bR (.inr (.inl ⟨rfl,?_⟩))
  ·obtain⟨y,hy,rfl⟩:=List.mem_map.1 hx;exact aft (h y hy) hK
  ·rw[←aaX,apZ,oh];rw[oh]at hb;exact aep (by rw[List.length_map];exact hl) hr hc hb
 |pol zs hl hn h=>
  rw[uT]at hb ⊢;refine jr _ _ hb (Nat.zero_le _) (by rw[List.length_map];omega) (Nat.zero_le _) (Nat.zero_le _) (Nat.zero_le _) bR (fun x hx=>?_) bR bR bR (.inr (.inr (.inl ⟨rfl,jn 44 (zs.map zS),?_,?_⟩)))
  ·obtain⟨y,hy,rfl⟩:=List.mem_map.1 hx;exact ahY (h y hy) hK
  ·rw[←aaX,apf];unfold plS at hb;simp only[List.length_append]at hb;exact abp _ (by omega) (by rw[List.length_map];omega)
  ·unfold plS;rw[List.append_assoc]
 |fld p r c l hp hl hr hc h=>
  have hm:=Nat.mul_le_mul hr hc;rw[uy]at hb ⊢;refine jr _ _ hb (Nat.zero_le _) (Nat.zero_le _) (show l.length≤100000 by omega) (Nat.zero_le _) (Nat.zero_le _) bR bR (fun x hx=>mK x (Nat.lt_trans (h x hx) hp.wb)) bR bR (.inr (.inr (.inr (.inl ⟨rfl,tbS r c (l.map aH),aH p,?_,mK p hp.wb,?_⟩))))
  ·rw[←aaX,aqJ];unfold mdS at hb;simp only[List.length_append]at hb;exact aep (by rw[List.length_map];exact hl) hr hc (by omega)
  ·unfold mdS;simp only[List.append_assoc]
 |rng p l hp hl hn h=>
  rw[u7]at hb ⊢;refine jr _ _ hb (Nat.zero_le _) (Nat.zero_le _) (Nat.zero_le _) (show l.length≤100000 by omega) (Nat.zero_le _) bR bR bR (fun x hx=>mK x (Nat.lt_trans (h x hx) hp.wb)) bR (.inr (.inr (.inr (.inr (.inl ⟨rfl,jn 44 (l.map aH),aH p,?_,mK p hp.wb,?_⟩)))))
  ·rw[←aaX,ap7];unfold mdS plS at hb;simp only[List.length_append]at hb;exact abp _ (by omega) (by rw[List.length_map];omega)
  ·unfold mdS plS;simp only[List.append_assoc,List.cons_append,List.nil_append]
theorem adD:∀{K:Nat} (n:Nat) {v:Vl},Cv K n v→K≤100000→(tS v).length≤1000000000000→PureOK Tryz.prog 12 [.agg (vlA v)] (.v (str (tS v))):=by
 intro K n
 induction n with
 |zero=>
  intro v hv hK hb;cases hv with
  |one h=>exact wu h hK hb
 |succ n ih=>
  intro v hv hK hb;cases hv with
  |one h=>exact wu h hK hb
  |lst l hl h=>
   rw[rM]at hb ⊢;rw[List.length_cons,List.length_append]at hb;have hx:∀x∈l,(tS x).length≤1000000000000:=fun x hx=>by
    have:=adZ 44 (List.mem_map_of_mem (f:=tS) hx);omega
   refine jr _ _ (by rw[List.length_cons,List.length_append];exact hb) (Nat.zero_le _) (Nat.zero_le _) (Nat.zero_le _) (Nat.zero_le _) (show l.length≤100000 by omega) bR bR bR bR (fun x hx2=>ih (h x hx2) hK (hx x hx2)) (.inr (.inr (.inr (.inr (.inr ⟨rfl,jn 44 (l.map tS),?_,?_⟩)))))
   ·rw[←aaX,aqn];exact abp _ (by omega) (by rw[List.length_map];omega)
   ·rfl
end
section
theorem aqe(s:UInt8):∀ws:List (List UInt8),Go.Lib.join ws [s,32]=jn s ws
 |[]=>rfl
 |a::l=>by rw[Go.Lib.join_cons,adV];rfl
theorem an3:∀{ws:List (List UInt8)} {j:Nat} {s:List UInt8},ws[j]? =some s→(ws.flatMap txC)[j]? =some (.val (str s))
 |[],j,s,h=>by simp at h
 |a::l,0,s,h=>by
  simp at h;subst h;rfl
 |a::l,j+1,s,h=>by
  rw[List.flatMap_cons];show ([CA.val (str a)]++l.flatMap txC)[j+1]? =_;simp at h
  simpa using an3 h
theorem abg{n:Nat}{l:List (List UInt8)}(h:l.length=n):ay 1 txC l=aI 1 n (l.flatMap txC):=by subst h;rfl
theorem zH{ws:List (List UInt8)}{k:Nat}{s:List UInt8}(h:ws[k]? =some s):(ws.take k).flatMap txC++[.val (str s)]=(ws.take (k+1)).flatMap txC:=by
 rw[List.take_add_one,h];simp[txC]
attribute [local irreducible] IntKind.wrap Go1 Reg WP aQ aR bO bN aN aB aj ah aV Sat
attribute [local irreducible] bS bV bX dx bW qv redS mf PrP qOk zOk vP dL lz vF cq rqv fC dn dI pScale mulV aH
theorem xg(s:UInt8)(ws:List (List UInt8))(hn:ws.length≤1000000)(hl:(jn s ws).length≤1000000000000):
  PureOK Tryz.prog 73 [.r (ay 1 txC ws),.v (str [s,32])] (.v (str (jn s ws))):=
 PureOK.gX ⟨_,Tryz.func73,rfl,rfl⟩ rfl fun E S w vs hl2 hv=>by
  match vs,hv with
  |[v1,v2],⟨h1,h2,_⟩=>
   have h1:(aI 1 ws.length (ws.flatMap txC)).has S w v1:=h1;have h2:v2=str [s,32]:=h2;subst h2;obtain⟨oa,cap,rfl,hcap,_,_,_,hcells⟩:=bF.1 h1;by_cases h0:ws=[]
   ·subst h0;refine(Tryz.strings_Join_none oa cap ⟨⟨[s,32]⟩⟩ w).mono fun e w' ⟨g1,g2⟩=>⟨str [],?_,rfl,?_⟩
    ·rw[g1]
    ·subst g2;exact Off.of_below (Below.refl _ _)
   ·obtain⟨a,ha⟩:∃a,ws[0]? =some a:=by
     cases ws with
     |nil=>exact absurd rfl h0
     |cons a l=>exact⟨a,rfl⟩
    obtain⟨b,o,u,rfl,hb,hc,hu⟩:=hcells 0 _ (an3 ha);have hmap:(ws.map fun x=>(⟨⟨x⟩⟩:ByteArray)).map (·.data.toList)=ws:=by
     rw[List.map_map];exact List.map_id _
    have hjl:(Go.Lib.join ((ws.map fun x=>(⟨⟨x⟩⟩:ByteArray)).map (·.data.toList)) (⟨⟨[s,32]⟩⟩:ByteArray).data.toList)=jn s ws:=by
     rw[hmap];exact aqe s ws
    have hbk:=World.block_lt_of_cell? _ _ hc;have J:=Tryz.strings_Join b o cap (ws.map fun x=>⟨⟨x⟩⟩) ⟨⟨[s,32]⟩⟩ w (fun j x hx=>by
     rw[List.getElem?_map]at hx
     obtain⟨t,ht,rfl⟩:=Option.map_eq_some_iff.1 hx;obtain⟨b',o',u',e,_,hc',hu'⟩:=hcells j _ (an3 ht);cases e;have hu2:u'=str t:=hu';rw[hc',hu2]) hbk (by rw[List.length_map];omega) (by rw[List.length_map];exact hcap) (by rw[hjl];omega)
    rw[List.length_map]at J;refine J.mono fun e w' ⟨g1,g2⟩=>⟨str (jn s ws),?_,rfl,Off.of_below g2⟩
    rw[g1,hjl]
theorem mW(x:Nat)(hx:x < 18446744073709551616):PureOK Tryz.prog 71 [.v (.int .u64 (x:Int))] (.v (str (aH x))):=by
 have c1:=ajY (x:Int) (by omega) (by omega)
 rw[Int.natAbs_natCast]at c1;have hx2:x < WB ^ 1:=by rw[Nat.pow_one,aX];omega
 haveI:NI (.sat (bB x)) x 1:=NI.aaL hx2
 have c2:=acA (a:= .sat (bB x)) (x:=x) (k:=1) hx2 (by decide)
 refine PureOK.fnF Tryz.func71 Tryz.results71 Tryz.ntmps71 rfl rfl rfl (by simp[AV.ids,AV0.ids,Atom.ids]) rfl (fun w0 T B E0 hB=>?_)
 refine SX.goM ?_;exact iN rfl
theorem acJ(ws:List (List UInt8))(x:CA)(hx1:x.dO=true)(hn:ws.length≤10000)(hl:(jn 44 ws).length≤100000000000)(hx:∀(i:Nat) (s:List UInt8),ws[i]? =some s→FnV Tryz.prog x [.v (.int .i64 (i:Int))] (.v (str s))):
  PureOK Tryz.prog 67 [.v (.int .i64 (ws.length:Int)),.it (.one (.c x))] (.v (str (plS ws))):=by
 have cJ:=xg 44 ws (by omega) (by omega)
 unfold plS;refine PureOK.fnF Tryz.func67 Tryz.results67 Tryz.ntmps67 rfl rfl rfl (by simp[AV.ids,AV0.ids,Atom.ids]) rfl (fun w0 T B E0 hB=>?_)
 refine SX.goM ?_;refine W.loop (fun k=>k≤ws.length) (fun k=>[(1,.it (.one (.c x))),(5,.own 100),(7,.v (.int .i64 (ws.length:Int))),(8,.v (.int .i64 (k:Int)))]) (fun k=>[(100,.row 9 1 k ((ws.take k).flatMap txC))]) (fun k=>ws.length - k) 0 (Nat.zero_le _) (fun k hk=>?_)
  (by
   refine SX.St.aW [(100,none)] (by intro b h;cases h) ?_ ?_ rfl
   ·repeat(first|exact trivial|refine⟨⟨_,rfl,SX.aC.same rfl⟩,?_⟩|refine⟨⟨_,rfl,SX.aC.nil rfl⟩,?_⟩)
   ·exact⟨SX.ak.bU rfl,trivial⟩)
 by_cases h:k < ws.length
 ·obtain⟨s,hs⟩:∃s,ws[k]? =some s:=⟨_,List.getElem?_eq_getElem h⟩
  have c:=hx k s hs;refine SX.goM ?_;refine W.next (k+1) h (by omega) (by
   refine SX.St.aW [(100,some 16)] (by intro b h;cases h) ?_ ?_ rfl
   ·repeat(first|exact trivial|refine⟨⟨_,rfl,SX.aC.same rfl⟩,?_⟩|refine⟨⟨_,rfl,SX.aC.own rfl⟩,?_⟩)
   ·exact⟨SX.ak.row rfl rfl rfl (zH hs),trivial⟩)
 ·obtain rfl:k=ws.length:=by omega
  rw[List.take_length];refine SX.WP.freeze 100 hB rfl ?_;refine SX.goM ?_;refine iN ?_;simp
end
section
theorem am7{α:Type}(c:Nat):∀(r:Nat) (l:List α) (i:Nat),i < r→(chk c r l)[i]? =some ((l.drop (i*c)).take c)
 |0,l,i,h=>absurd h (Nat.not_lt_zero _)
 |r+1,l,0,h=>by rw[Nat.zero_mul];rfl
 |r+1,l,i+1,h=>by
  show (chk c r (l.drop c))[i]? =_;rw[am7 c r (l.drop c) i (by omega),List.drop_drop,Nat.succ_mul,Nat.add_comm]
theorem aaP{α:Type}(c:Nat):∀(r:Nat) (l:List α),(chk c r l).length=r
 |0,l=>rfl
 |r+1,l=>by show (chk c r (l.drop c)).length+1=_;rw[aaP c r]
theorem apK{α:Type}{l:List α}{a c k:Nat}(hk:k < c):((l.drop a).take c)[k]? =l[a+k]? :=by
 rw[List.getElem?_take,if_pos hk,List.getElem?_drop]
attribute [local irreducible] IntKind.wrap Go1 Reg WP aQ aR bO bN aN aB aj ah aV Sat
attribute [local irreducible] bS bV bX dx bW qv redS mf PrP qOk zOk vP dL lz vF cq rqv fC dn dI pScale mulV aH jn qS zS
set_option maxRecDepth 20000 in
set_option maxHeartbeats 2000000 in
theorem abk{r c:Nat}(l:List (List UInt8))(x:CA)(hx1:x.dO=true)(hl:l.length=r*c)(hr:r≤64)(hc:c≤64)(hb:(tbS r c l).length≤10000000000)(hx:∀(i:Nat) (s:List UInt8),l[i]? =some s→FnV Tryz.prog x [.v (.int .i64 (i:Int))] (.v (str s))):
  PureOK Tryz.prog 65 [.v (.int .i64 (r:Int)),.v (.int .i64 (c:Int)),.it (.one (.c x))] (.v (str (tbS r c l))):=by
 have n1:=mW r (by omega)
 have n2:=mW c (by omega)
 unfold tbS at hb ⊢;by_cases h0:r=0∨c=0
 ·rw[if_pos h0]at hb ⊢;simp only[List.length_append]at hb;refine PureOK.fnF Tryz.func65 Tryz.results65 Tryz.ntmps65 rfl rfl rfl (by simp[AV.ids,AV0.ids,Atom.ids]) rfl (fun w0 T B E0 hB=>?_)
  by_cases h1:r=0
  ·subst h1;refine SX.goM ?_;refine iN ?_;simp
  ·have h2:=h0.resolve_left h1;subst h2;refine SX.goM ?_;refine iN ?_;simp
 rw[if_neg h0]at hb ⊢;rw[List.length_cons,List.length_append]at hb;have h1:¬r=0:=fun e=>h0 (.inl e)
 have h2:¬c=0:=fun e=>h0 (.inr e)
 obtain⟨R,hR⟩:∃R,R=(chk c r l).map (jn 44):=⟨_,rfl⟩;rw[←hR]at hb ⊢;have hRl:R.length=r:=by rw[hR,List.length_map,aaP]
 have cJ:=xg 59 R (by omega) (by omega)
 rw[abg hRl]at cJ;refine PureOK.fnF Tryz.func65 Tryz.results65 Tryz.ntmps65 rfl rfl rfl (by simp[AV.ids,AV0.ids,Atom.ids]) rfl (fun w0 T B E0 hB=>?_)
 refine SX.goM ?_;refine W.loop (fun i=>i≤r) (fun i=>[(1,.v (.int .i64 (c:Int))),(2,.it (.one (.c x))),(7,.own 101),(27,.v (.int .i64 (r:Int))),(28,.v (.int .i64 (i:Int)))]) (fun i=>[(101,.row 9 1 i ((R.take i).flatMap txC))]) (fun i=>r - i) 0 (Nat.zero_le _) (fun i hi=>?_)
  (by
   refine SX.St.aW [(101,none)] (by intro b h;cases h) ?_ ?_ rfl
   ·repeat(first|exact trivial|refine⟨⟨_,rfl,SX.aC.same rfl⟩,?_⟩|refine⟨⟨_,rfl,SX.aC.nil rfl⟩,?_⟩)
   ·exact⟨SX.ak.bU rfl,trivial⟩)
 by_cases h:i < r
 ·obtain⟨ri,hri⟩:∃ri,ri=(l.drop (i*c)).take c:=⟨_,rfl⟩;have hRi:R[i]? =some (jn 44 ri):=by rw[hR,List.getElem?_map,am7 c r l i h,hri];rfl
  have hm:=adZ 59 (List.mem_of_getElem? hRi);have hil:i*c+c≤r*c:=by rw[←Nat.succ_mul];exact Nat.mul_le_mul_right c h
  have hrl:ri.length=c:=by rw[hri,List.length_take,List.length_drop];omega
  have cI:=xg 44 ri (by omega) (by omega)
  rw[abg hrl]at cI;have hic:=Nat.mul_le_mul (show i≤64 by omega) hc
  refine SX.goM ?_;refine W.loop (fun k=>k≤c) (fun k=>[(1,.v (.int .i64 (c:Int))),(2,.it (.one (.c x))),(7,.own 101),(8,.v (.int .i64 (i:Int))),(9,.own 100),(27,.v (.int .i64 (r:Int))),(28,.v (.int .i64 (i:Int))),(31,.v (.int .i64 (c:Int))),(32,.v (.int .i64 (k:Int)))]) (fun k=>[(101,.row 9 1 i ((R.take i).flatMap txC)),(100,.row 9 1 k ((ri.take k).flatMap txC))]) (fun k=>c - k) 0 (Nat.zero_le _) (fun k hk=>?_)
   (by
    refine SX.St.aW [(101,some 101),(100,none)] (by intro b h;cases h) ?_ ?_ rfl
    ·repeat(first|exact trivial|refine⟨⟨_,rfl,SX.aC.same rfl⟩,?_⟩|refine⟨⟨_,rfl,SX.aC.nil rfl⟩,?_⟩|refine⟨⟨_,rfl,SX.aC.own rfl⟩,?_⟩)
    ·exact⟨SX.ak.row rfl rfl rfl rfl,SX.ak.bU rfl,trivial⟩)
  by_cases h3:k < c
  ·obtain⟨s,hs⟩:∃s,ri[k]? =some s:=⟨_,List.getElem?_eq_getElem (by omega)⟩
   have hs2:l[i*c+k]? =some s:=by rw[←apK (c:=c) h3,←hri];exact hs
   have cx:=hx (i*c+k) s hs2;refine SX.goM ?_;refine W.next (k+1) h3 (by omega) (by
    refine SX.St.aW [(101,some 101),(100,some 44)] (by intro b h;cases h) ?_ ?_ rfl
    ·repeat(first|exact trivial|refine⟨⟨_,rfl,SX.aC.same rfl⟩,?_⟩|refine⟨⟨_,rfl,SX.aC.own rfl⟩,?_⟩)
    ·exact⟨SX.ak.row rfl rfl rfl rfl,SX.ak.row rfl rfl rfl (zH hs),trivial⟩)
  ·obtain rfl:k=c:=by omega
   have e4:ri.take k=ri:=List.take_of_length_le (by omega)
   rw[e4];refine SX.WP.freeze 100 hB rfl ?_;refine SX.goM ?_;refine W.next (i+1) h (by omega) (by
    refine SX.St.aW [(101,some 50)] (by intro b h;cases h) ?_ ?_ rfl
    ·repeat(first|exact trivial|refine⟨⟨_,rfl,SX.aC.same rfl⟩,?_⟩|refine⟨⟨_,rfl,SX.aC.own rfl⟩,?_⟩)
    ·exact⟨SX.ak.row rfl rfl rfl (zH hRi),trivial⟩)
 ·obtain rfl:i=r:=by omega
  have e4:R.take i=R:=List.take_of_length_le (by omega)
  rw[e4];refine SX.WP.freeze 101 hB rfl ?_;refine SX.goM ?_;refine iN ?_;simp
theorem aei(v:Vl)(hp:v.p < 18446744073709551616)(s:List UInt8)(hs:s.length≤10000000000)(hd:(aH v.p).length≤1000):PureOK Tryz.prog 69 [.agg (vlA v),.v (str s)] (.v (str (mdS s v.p))):=by
 have n1:=mW v.p hp;unfold mdS;refine PureOK.fnF Tryz.func69 Tryz.results69 Tryz.ntmps69 rfl rfl rfl (by simp[AV.ids,AV0.ids,Atom.ids]) rfl (fun w0 T B E0 hB=>?_)
 refine SX.goM ?_;refine iN ?_;simp
section
variable(v:Vl){i:Nat}
theorem aoH{x:gy}{s:List UInt8}(hx:(v.a.map rq)[i]? =some (rq x))(hl:v.a.length≤100000)(c:PureOK Tryz.prog 29 [.agg (q4A (rq x))] (.v (str s))):
  PureOK Tryz.prog 66 [.v (.int .i64 (i:Int)),.r (bK (vlK v))] (.v (str s)):=by
 have h1:=jZ hx;refine PureOK.fnF Tryz.func66 Tryz.results66 Tryz.ntmps66 rfl rfl rfl (by simp[AV.ids,AV0.ids,Atom.ids]) rfl (fun w0 T B E0 hB=>?_)
 refine SX.goM ?_;exact iN rfl
theorem alB{x:lY}{s:List UInt8}(hx:(v.po.map rz)[i]? =some (rz x))(hl:v.po.length≤100000)(c:PureOK Tryz.prog 30 [.agg (z2A (rz x))] (.v (str s))):
  PureOK Tryz.prog 68 [.v (.int .i64 (i:Int)),.r (bK (vlK v))] (.v (str s)):=by
 have h1:=jZ hx;refine PureOK.fnF Tryz.func68 Tryz.results68 Tryz.ntmps68 rfl rfl rfl (by simp[AV.ids,AV0.ids,Atom.ids]) rfl (fun w0 T B E0 hB=>?_)
 refine SX.goM ?_;exact iN rfl
theorem ang{x:Nat}(hx:v.fa[i]? =some x)(hb:x < 18446744073709551616)(hl:v.fa.length≤100000):
  PureOK Tryz.prog 70 [.v (.int .i64 (i:Int)),.r (bK (vlK v))] (.v (str (aH x))):=by
 have h1:=jZ hx;have c:=mW x hb;refine PureOK.fnF Tryz.func70 Tryz.results70 Tryz.ntmps70 rfl rfl rfl (by simp[AV.ids,AV0.ids,Atom.ids]) rfl (fun w0 T B E0 hB=>?_)
 refine SX.goM ?_;exact iN rfl
theorem anV{x:Nat}(hx:v.ri[i]? =some x)(hb:x < 18446744073709551616)(hl:v.ri.length≤100000):
  PureOK Tryz.prog 72 [.v (.int .i64 (i:Int)),.r (bK (vlK v))] (.v (str (aH x))):=by
 have h1:=jZ hx;have c:=mW x hb;refine PureOK.fnF Tryz.func72 Tryz.results72 Tryz.ntmps72 rfl rfl rfl (by simp[AV.ids,AV0.ids,Atom.ids]) rfl (fun w0 T B E0 hB=>?_)
 refine SX.goM ?_;exact iN rfl
end
end
section
theorem ahR{p:Nat}(h:p < WB):(aH p).length≤21:=rU h
attribute [local irreducible] IntKind.wrap Go1 Reg WP aQ aR bO bN aN aB aj ah aV Sat
attribute [local irreducible] bS bV bX dx bW qv redS mf PrP qOk zOk vP dL lz vF cq rqv fC dn dI pScale mulV jn sq aH qS zS tS tbS plS mdS
theorem aao{K:Nat}{v:Vl}(h:Sh K v)(hK:K≤100000)(hb:(tS v).length≤10000000000):PureOK Tryz.prog 45 [.agg (vlA v)] (.v (str (tS v))):=by
 cases h with
 |num x h=>
  rw[uL];have c:=zM h hK;refine PureOK.fnF Tryz.func45 Tryz.results45 Tryz.ntmps45 rfl rfl rfl (by simp[AV.ids,AV0.ids,Atom.ids]) rfl (fun w0 T B E0 hB=>?_)
  refine SX.goM ?_;exact iN rfl
 |mat r c vs hl hr hc h=>
  rw[oh]at hb ⊢;have hm:=Nat.mul_le_mul hr hc;have ml:(gP r c vs).a.length=vs.length:=List.length_map _;have cT:=abk (vs.map qS) (.sat (dM 66 [] [.sat (bK (vlK (gP r c vs)))])) rfl (by rw[List.length_map];exact hl) hr hc hb (fun i s hs=>by
   rw[List.getElem?_map]at hs
   obtain⟨x,hx,rfl⟩:=Option.map_eq_some_iff.1 hs;have cc:=aft (h x (List.mem_of_getElem? hx)) hK;rw[iM]at cc;exact FnV.clo (aoH (gP r c vs) (x:=cq x) (by show ((vs.map cq).map rq)[i]? =_;rw[List.getElem?_map,List.getElem?_map,hx];rfl) (by rw[ml];omega) cc))
  refine PureOK.fnF Tryz.func45 Tryz.results45 Tryz.ntmps45 rfl rfl rfl (by simp[AV.ids,AV0.ids,Atom.ids]) rfl (fun w0 T B E0 hB=>?_)
  refine SX.goM ?_;refine SX.WP.eX 1 hB rfl rfl ?_;refine SX.WP.dh ?_;refine SX.goM ?_;exact iN rfl
 |pol zs hl hn h=>
  rw[uT]at hb ⊢;have ml:(iW zs).po.length=zs.length:=List.length_map _;have hb2:(jn 44 (zs.map zS)).length≤100000000000:=by
   unfold plS at hb;simp only[List.length_append]at hb;omega
  have cT:=acJ (zs.map zS) (.sat (dM 68 [] [.sat (bK (vlK (iW zs)))])) rfl (by rw[List.length_map];exact hl) hb2 (fun i s hs=>by
   rw[List.getElem?_map]at hs
   obtain⟨x,hx,rfl⟩:=Option.map_eq_some_iff.1 hs;have cc:=ahY (h x (List.mem_of_getElem? hx)) hK;rw[mX]at cc;exact FnV.clo (alB (iW zs) (x:=cz x) (by show ((zs.map cz).map rz)[i]? =_;rw[List.getElem?_map,List.getElem?_map,hx];rfl) (by rw[ml];omega) cc))
  have e1:(zs.map zS).length=((iW zs).po.map rz).length:=by rw[List.length_map,List.length_map,ml]
  rw[e1]at cT;refine PureOK.fnF Tryz.func45 Tryz.results45 Tryz.ntmps45 rfl rfl rfl (by simp[AV.ids,AV0.ids,Atom.ids]) rfl (fun w0 T B E0 hB=>?_)
  refine SX.goM ?_;refine SX.WP.eX 1 hB rfl rfl ?_;refine SX.WP.dh ?_;refine SX.goM ?_;exact iN rfl
 |fld p r c l hp hl hr hc h=>
  rw[uy]at hb ⊢;have hm:=Nat.mul_le_mul hr hc;have hpb:=hp.wb;have hd:=ahR hpb;rw[aX]at hpb;have hb2:(tbS r c (l.map aH)).length≤10000000000:=by
   unfold mdS at hb;simp only[List.length_append]at hb;omega
  have cT:=abk (l.map aH) (.sat (dM 70 [] [.sat (bK (vlK (lI p r c l)))])) rfl (by rw[List.length_map];exact hl) hr hc hb2 (fun i s hs=>by
   rw[List.getElem?_map]at hs
   obtain⟨x,hx,rfl⟩:=Option.map_eq_some_iff.1 hs;have hxp:=h x (List.mem_of_getElem? hx);exact FnV.clo (ang (lI p r c l) hx (by omega) (by show l.length≤_;omega)))
  have cM:=aei (lI p r c l) hpb (tbS r c (l.map aH)) hb2 (by show (aH p).length≤_;omega)
  refine PureOK.fnF Tryz.func45 Tryz.results45 Tryz.ntmps45 rfl rfl rfl (by simp[AV.ids,AV0.ids,Atom.ids]) rfl (fun w0 T B E0 hB=>?_)
  refine SX.goM ?_;refine SX.WP.eX 1 hB rfl rfl ?_;refine SX.WP.gK (by kernel_rfl) ?_
  refine SX.goM ?_;exact iN rfl
 |rng p l hp hl hn h=>
  rw[u7]at hb ⊢;have hpb:=hp.wb;have hd:=ahR hpb;rw[aX]at hpb;have hb2:(plS (l.map aH)).length≤10000000000:=by
   unfold mdS at hb;simp only[List.length_append]at hb;omega
  have hb3:(jn 44 (l.map aH)).length≤100000000000:=by
   unfold plS at hb2;simp only[List.length_append]at hb2;omega
  have cT:=acJ (l.map aH) (.sat (dM 72 [] [.sat (bK (vlK (lN p l)))])) rfl (by rw[List.length_map];exact hl) hb3 (fun i s hs=>by
   rw[List.getElem?_map]at hs
   obtain⟨x,hx,rfl⟩:=Option.map_eq_some_iff.1 hs;have hxp:=h x (List.mem_of_getElem? hx);exact FnV.clo (anV (lN p l) hx (by omega) (by show l.length≤_;omega)))
  have e1:(l.map aH).length=(lN p l).ri.length:=List.length_map _;rw[e1]at cT;have cM:=aei (lN p l) hpb (plS (l.map aH)) hb2 (by show (aH p).length≤_;omega)
  refine PureOK.fnF Tryz.func45 Tryz.results45 Tryz.ntmps45 rfl rfl rfl (by simp[AV.ids,AV0.ids,Atom.ids]) rfl (fun w0 T B E0 hB=>?_)
  refine SX.goM ?_;refine SX.WP.eX 1 hB rfl rfl ?_;refine SX.WP.gK (by kernel_rfl) ?_
  refine SX.goM ?_;exact iN rfl
theorem aj3(l:List Vl)(hl:l.length≤10000)(hb:(jn 44 (l.map tS)).length≤10000000000)(hx:∀x∈l,PureOK Tryz.prog 45 [.agg (vlA x)] (.v (str (tS x)))):PureOK Tryz.prog 45 [.agg (vlA (kG l))] (.v (str (123::(jn 44 (l.map tS)++[125])))):=by
 have hml:(l.map tS).length=l.length:=List.length_map _;have ml:(kG l).li.length=l.length:=rfl;have cJ:=xg 44 (l.map tS) (by omega) (by omega)
 rw[abg hml]at cJ;rw[ab2];refine PureOK.fnF Tryz.func45 Tryz.results45 Tryz.ntmps45 rfl rfl rfl (by simp[AV.ids,AV0.ids,Atom.ids]) rfl (fun w0 T B E0 hB=>?_)
 refine SX.goM ?_;refine W.loop (fun k=>k≤l.length) (fun k=>[(3,.own 100),(52,.r (ay 15 vlE (kG l).li)),(53,.v (.int .i64 (l.length:Int))),(54,.v (.int .i64 (k:Int)))]) (fun k=>[(100,.row 9 1 k (((l.map tS).take k).flatMap txC))]) (fun k=>l.length - k) 0 (Nat.zero_le _) (fun k hk=>?_)
  (by
   refine SX.St.aW [(100,none)] (by intro b h;cases h) ?_ ?_ rfl
   ·repeat(first|exact trivial|refine⟨⟨_,rfl,SX.aC.same rfl⟩,?_⟩|refine⟨⟨_,rfl,SX.aC.nil rfl⟩,?_⟩)
   ·exact⟨SX.ak.bU rfl,trivial⟩)
 by_cases h:k < l.length
 ·obtain⟨x,hx'⟩:∃x,l[k]? =some x:=⟨_,List.getElem?_eq_getElem h⟩
  have hx2:(kG l).li[k]? =some x:=hx';have c:=hx x (List.mem_of_getElem? hx');have hs:(l.map tS)[k]? =some (tS x):=by rw[List.getElem?_map,hx'];rfl
  refine SX.goM ?_;refine W.next (k+1) h (by omega) (by
   refine SX.St.aW [(100,some 62)] (by intro b h;cases h) ?_ ?_ rfl
   ·repeat(first|exact trivial|refine⟨⟨_,rfl,SX.aC.same rfl⟩,?_⟩|refine⟨⟨_,rfl,SX.aC.own rfl⟩,?_⟩)
   ·exact⟨SX.ak.row rfl rfl rfl (zH hs),trivial⟩)
 ·obtain rfl:k=l.length:=by omega
  rw[List.take_of_length_le (by omega:(l.map tS).length≤l.length)]
  refine SX.WP.freeze 100 hB rfl ?_;refine SX.goM ?_;refine iN ?_;simp
theorem alH:∀{K:Nat} (n:Nat) {v:Vl},Cv K n v→K≤100000→(tS v).length≤10000000000→PureOK Tryz.prog 45 [.agg (vlA v)] (.v (str (tS v))):=by
 intro K n
 induction n with
 |zero=>
  intro v hv hK hb;cases hv with
  |one h=>exact aao h hK hb
 |succ n ih=>
  intro v hv hK hb;cases hv with
  |one h=>exact aao h hK hb
  |lst l hl h=>
   rw[rM]at hb ⊢;rw[List.length_cons,List.length_append]at hb;exact aj3 l hl (by omega) fun x hx=>ih (h x hx) hK (by
    have:=adZ 44 (List.mem_map_of_mem (f:=tS) hx);omega)
end
end Go.Proofs.YtmgfiodmdfaclaaGreatDoor