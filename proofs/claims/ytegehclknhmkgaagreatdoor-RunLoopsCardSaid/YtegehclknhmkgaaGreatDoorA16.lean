import Derived.Test.YtegehclknhmkgaaGreatDoorA15
set_option linter.unusedVariables false
set_option linter.unusedSimpArgs false
namespace Go.Proofs.YtegehclknhmkgaaGreatDoor
open Go.RowKit QM SX LA
section
section
theorem vP0(v:Vl):vP v=0↔(v.k=1∨(v.q.2.1.length=0∧v.q.2.2.2.length=0∧v.q.1=false∧v.q.2.2.1=false))∧(v.k=2∨(v.r=0∧v.c=0∧v.a.length=0))∧(v.k=3∨v.po.length=0)∧(v.k=4∨(v.fr=0∧v.fc=0∧v.fa.length=0))∧(v.k=5∨v.ri.length=0)∧(v.k=4∨v.k=5∨v.p=0)∧(v.k=6∨v.li.length=0):=by
 have e:∀(p:Prop) [Decidable p],pt p=0↔¬p:=fun p _=>by unfold pt;split <;> simp_all
 unfold vP;rw[Nat.add_eq_zero_iff,Nat.add_eq_zero_iff,Nat.add_eq_zero_iff,Nat.add_eq_zero_iff,Nat.add_eq_zero_iff,Nat.add_eq_zero_iff,e,e,e,e,e,e,e,←ane];constructor
 ·rintro⟨⟨⟨⟨⟨⟨h1,h2⟩,h3⟩,h4⟩,h5⟩,h6⟩,h7⟩;refine⟨?_,by omega,by omega,by omega,by omega,by omega,by omega⟩
  by_cases h:v.k=1
  ·exact .inl h
  ·exact .inr (Decidable.byContradiction fun h'=>h1 ⟨h,h'⟩)
 ·rintro⟨h1,h2,h3,h4,h5,h6,h7⟩;refine⟨⟨⟨⟨⟨⟨?_,by omega⟩,by omega⟩,by omega⟩,by omega⟩,by omega⟩,by omega⟩
  rintro⟨h,h'⟩;exact h1.elim h h'
theorem lQ{b:Bool}{l:List Nat}(h:l.length=0):bitLen (sgn b (nval WB l)).natAbs=0:=by
 rw[List.eq_nil_of_length_eq_zero h];cases b <;> rfl
def kiC(k:Int):List CA:=[.val (.int .i64 k)]
instance:eB kiC 1:=⟨fun _=>rfl⟩
attribute [local irreducible] IntKind.wrap Go1 Reg WP aN aQ bM bI aL aC aj ah aT Sat
attribute [local irreducible] dz bU bV dA bT qv dN mf
theorem aje(l:List Int)(i:Int)(hl:l.length≤1000):PureOK Tryz.prog 195 [.r (aF 1 kiC l),.v (.int .i64 i)] (.v (.int .i64 (fi (fun a=>decide (i=a)) l 0))):=by
 refine PureOK.fnF Tryz.func195 Tryz.results195 Tryz.ntmps195 rfl rfl rfl (by simp[AV.ids,AV0.ids,Atom.ids]) rfl (fun w0 T B E0 hB=>?_)
 refine SX.goM ?_;refine W.loop (fun k=>k≤l.length∧fi (fun a=>decide (i=a)) (l.drop k) k=fi (fun a=>decide (i=a)) l 0) (fun k=>[(0,.r (aF 1 kiC l)),(1,.v (.int .i64 i)),(7,.v (.int .i64 (l.length:Int))),(8,.v (.int .i64 (k:Int)))]) (fun _=>[]) (fun k=>l.length - k) 0 ⟨Nat.zero_le _,rfl⟩ (fun k ⟨hk,he⟩=>?_)
 by_cases h:k < l.length
 ·obtain⟨r,hr⟩:∃r,l[k]? =some r:=⟨_,List.getElem?_eq_getElem h⟩
  rw[p8 hr]at he;by_cases hp:i=r
  ·rw[if_pos (decide_eq_true hp)]at he;refine SX.goM ?_;exact iN he
  ·rw[if_neg (by rw[decide_eq_false hp];decide)]at he
   refine SX.goM ?_;exact W.next (k+1) ⟨h,he⟩ (by omega)
 ·obtain rfl:k=l.length:=by omega
  rw[List.drop_length]at he;refine SX.goM ?_;refine iN ?_;rw[←he];rfl
theorem ah9(k i:Int):PureOK Tryz.prog 146 [.r (aF 1 kiC [k]),.v (.int .i64 i)] (.v (.bool (decide (i=k)))):=by
 have c:=aje [k] i (by rw[List.length_singleton];decide)
 refine PureOK.fnF Tryz.func146 Tryz.results146 Tryz.ntmps146 rfl rfl rfl (by simp[AV.ids,AV0.ids,Atom.ids]) rfl (fun w0 T B E0 hB=>?_)
 have e:fi (fun a=>decide (i=a)) [k] 0=if i=k then 0 else -1:=by
  unfold fi;by_cases h:i=k
  ·rw[if_pos (decide_eq_true h),if_pos h];rfl
  ·rw[if_neg (by rw[decide_eq_false h];decide),if_neg h];rfl
 rw[e]at c;by_cases h:i=k
 ·rw[if_pos h]at c;refine SX.goM ?_;refine bK ?_;rw[decide_eq_true h];first|rfl|decide
 ·rw[if_neg h]at c;refine SX.goM ?_;refine bK ?_;rw[decide_eq_false h];first|rfl|decide
theorem aJ(k i:Int):PureOK Tryz.prog 145 [.v (.int .i64 i),.r (bR [.sat (aF 1 kiC [k])])] (.v (.bool (!decide (i=k)))):=by
 have c:=ah9 k i;refine PureOK.fnF Tryz.func145 Tryz.results145 Tryz.ntmps145 rfl rfl rfl (by simp[AV.ids,AV0.ids,Atom.ids]) rfl (fun w0 T B E0 hB=>?_)
 refine SX.goM ?_;exact bK rfl
structure vZ0(v:Vl):Prop where
 q:(Sm WB v.q.2.1∧Sm WB v.q.2.2.2)∧v.q.2.1.length≤100000∧v.q.2.2.2.length≤100000
 a:∀x∈v.a,(Sm WB x.2.1∧Sm WB x.2.2.2)∧x.2.1.length≤100000∧x.2.2.2.length≤100000
 al:v.a.length≤100000
 po:∀x∈v.po,Sm WB x.2∧x.2.length≤100000
 pol:v.po.length≤100000
 p:v.p < WB
 fa:∀x∈v.fa,x < WB
 fal:v.fa.length≤100000
 ri:∀x∈v.ri,x < WB
 ril:v.ri.length≤100000
 lil:v.li.length≤100000
set_option maxRecDepth 20000 in
set_option maxHeartbeats 2000000 in
theorem ady(v:Vl)(hz:vZ0 v)(hk:v.k=1):PureOK Tryz.prog 90 [.agg (vlA v),.r (aF 1 kiC [v.k])] (.v (.bool (decide (vP v=0)))):=by
 have c1:FnV Tryz.prog (.sat (eu 145 [] [.sat (bR [.sat (aF 1 kiC [v.k])])])) [.v (.int .i64 1)] (.v (.bool (!decide (1=v.k)))):=FnV.clo (aJ v.k 1);have c2:FnV Tryz.prog (.sat (eu 145 [] [.sat (bR [.sat (aF 1 kiC [v.k])])])) [.v (.int .i64 2)] (.v (.bool (!decide (2=v.k)))):=FnV.clo (aJ v.k 2);have c3:FnV Tryz.prog (.sat (eu 145 [] [.sat (bR [.sat (aF 1 kiC [v.k])])])) [.v (.int .i64 3)] (.v (.bool (!decide (3=v.k)))):=FnV.clo (aJ v.k 3);have c4:FnV Tryz.prog (.sat (eu 145 [] [.sat (bR [.sat (aF 1 kiC [v.k])])])) [.v (.int .i64 4)] (.v (.bool (!decide (4=v.k)))):=FnV.clo (aJ v.k 4);have c5:FnV Tryz.prog (.sat (eu 145 [] [.sat (bR [.sat (aF 1 kiC [v.k])])])) [.v (.int .i64 5)] (.v (.bool (!decide (5=v.k)))):=FnV.clo (aJ v.k 5);have c6:FnV Tryz.prog (.sat (eu 145 [] [.sat (bR [.sat (aF 1 kiC [v.k])])])) [.v (.int .i64 6)] (.v (.bool (!decide (6=v.k)))):=FnV.clo (aJ v.k 6);have cb1:=(dW (h:=ZI.raw v.q.1 v.q.2.1)).h (show v.q.2.1.length≤1099511627775 by have:=hz.q.2.1;omega)
 have cb2:=(dW (h:=ZI.raw v.q.2.2.1 v.q.2.2.2)).h (show v.q.2.2.2.length≤1099511627775 by have:=hz.q.2.2;omega)
 have hP:=vP0 v;have f1:=lQ (b:=v.q.1) (l:=v.q.2.1);have f2:=lQ (b:=v.q.2.2.1) (l:=v.q.2.2.2);have b1:=hz.q.2.1;have b2:=hz.q.2.2;have b3:=hz.al;have b4:=hz.pol;have b5:=hz.fal;have b6:=hz.ril;have b7:=hz.lil;have l1:(v.a.map rq).length=v.a.length:=List.length_map _;have l2:(v.po.map rz).length=v.po.length:=List.length_map _;refine PureOK.fnF Tryz.func90 Tryz.results90 Tryz.ntmps90 rfl rfl rfl (by simp[AV.ids,AV0.ids,Atom.ids]) rfl (fun w0 T B E0 hB=>?_)
 refine SX.goM ?_;refine SX.WP.iO 3 hB rfl rfl ?_;refine SX.WP.aB ?_;have k0:v.k=1:=hk;have e1:(!decide ((1:Int)=v.k))=false:=by rw[k0];rfl
 have e2:(!decide ((2:Int)=v.k))=true:=by rw[k0];rfl
 have e3:(!decide ((3:Int)=v.k))=true:=by rw[k0];rfl
 have e4:(!decide ((4:Int)=v.k))=true:=by rw[k0];rfl
 have e5:(!decide ((5:Int)=v.k))=true:=by rw[k0];rfl
 have e6:(!decide ((6:Int)=v.k))=true:=by rw[k0];rfl
 rw[e1]at c1;rw[e2]at c2;rw[e3]at c3;rw[e4]at c4;rw[e5]at c5;rw[e6]at c6;clear e1 e2 e3 e4 e5 e6
 repeat'(first|refine SX.goM ?_|refine SX.W.ite (fun h=>?_) (fun h=>?_)|refine SX.W.iteN (fun h=>?_) (fun h=>?_)|refine SX.W.eO (fun h=>?_) (fun h=>?_)|refine SX.R.ite (fun h=>?_) (fun h=>?_)|refine SX.R.iteN (fun h=>?_) (fun h=>?_)|refine SX.R.eO (fun h=>?_) (fun h=>?_))
 all_goals
  refine bK ?_;refine Bool.eq_iff_iff.2 (Iff.trans ?_ decide_eq_true_iff.symm);rw[hP];constructor
  ·intro hh;first
    |(cases hh;done)
    |(try rw[decide_eq_true_iff]at hh
      refine⟨?_,?_,?_,?_,?_,?_,?_⟩ <;> first|omega|(refine .inr ⟨?_,?_,?_,?_⟩ <;> first|omega|assumption))
  ·rintro⟨h1,h2,h3,h4,h5,h6,h7⟩;first
    |rfl
    |(rw[decide_eq_true_iff];omega)
    |(exfalso;first|omega|(rcases h1 with h1|⟨g1,g2,g3,g4⟩ <;> first|omega|(clear c1 c2 c3 c4 c5 c6 f1 f2 hP;simp_all;done)))
set_option maxRecDepth 20000 in
set_option maxHeartbeats 2000000 in
theorem acI(v:Vl)(hz:vZ0 v)(hk:v.k=2):PureOK Tryz.prog 90 [.agg (vlA v),.r (aF 1 kiC [v.k])] (.v (.bool (decide (vP v=0)))):=by
 have c1:FnV Tryz.prog (.sat (eu 145 [] [.sat (bR [.sat (aF 1 kiC [v.k])])])) [.v (.int .i64 1)] (.v (.bool (!decide (1=v.k)))):=FnV.clo (aJ v.k 1);have c2:FnV Tryz.prog (.sat (eu 145 [] [.sat (bR [.sat (aF 1 kiC [v.k])])])) [.v (.int .i64 2)] (.v (.bool (!decide (2=v.k)))):=FnV.clo (aJ v.k 2);have c3:FnV Tryz.prog (.sat (eu 145 [] [.sat (bR [.sat (aF 1 kiC [v.k])])])) [.v (.int .i64 3)] (.v (.bool (!decide (3=v.k)))):=FnV.clo (aJ v.k 3);have c4:FnV Tryz.prog (.sat (eu 145 [] [.sat (bR [.sat (aF 1 kiC [v.k])])])) [.v (.int .i64 4)] (.v (.bool (!decide (4=v.k)))):=FnV.clo (aJ v.k 4);have c5:FnV Tryz.prog (.sat (eu 145 [] [.sat (bR [.sat (aF 1 kiC [v.k])])])) [.v (.int .i64 5)] (.v (.bool (!decide (5=v.k)))):=FnV.clo (aJ v.k 5);have c6:FnV Tryz.prog (.sat (eu 145 [] [.sat (bR [.sat (aF 1 kiC [v.k])])])) [.v (.int .i64 6)] (.v (.bool (!decide (6=v.k)))):=FnV.clo (aJ v.k 6);have cb1:=(dW (h:=ZI.raw v.q.1 v.q.2.1)).h (show v.q.2.1.length≤1099511627775 by have:=hz.q.2.1;omega)
 have cb2:=(dW (h:=ZI.raw v.q.2.2.1 v.q.2.2.2)).h (show v.q.2.2.2.length≤1099511627775 by have:=hz.q.2.2;omega)
 have hP:=vP0 v;have f1:=lQ (b:=v.q.1) (l:=v.q.2.1);have f2:=lQ (b:=v.q.2.2.1) (l:=v.q.2.2.2);have b1:=hz.q.2.1;have b2:=hz.q.2.2;have b3:=hz.al;have b4:=hz.pol;have b5:=hz.fal;have b6:=hz.ril;have b7:=hz.lil;have l1:(v.a.map rq).length=v.a.length:=List.length_map _;have l2:(v.po.map rz).length=v.po.length:=List.length_map _;refine PureOK.fnF Tryz.func90 Tryz.results90 Tryz.ntmps90 rfl rfl rfl (by simp[AV.ids,AV0.ids,Atom.ids]) rfl (fun w0 T B E0 hB=>?_)
 refine SX.goM ?_;refine SX.WP.iO 3 hB rfl rfl ?_;refine SX.WP.aB ?_;have k0:v.k=2:=hk;have e1:(!decide ((1:Int)=v.k))=true:=by rw[k0];rfl
 have e2:(!decide ((2:Int)=v.k))=false:=by rw[k0];rfl
 have e3:(!decide ((3:Int)=v.k))=true:=by rw[k0];rfl
 have e4:(!decide ((4:Int)=v.k))=true:=by rw[k0];rfl
 have e5:(!decide ((5:Int)=v.k))=true:=by rw[k0];rfl
 have e6:(!decide ((6:Int)=v.k))=true:=by rw[k0];rfl
 rw[e1]at c1;rw[e2]at c2;rw[e3]at c3;rw[e4]at c4;rw[e5]at c5;rw[e6]at c6;clear e1 e2 e3 e4 e5 e6
 repeat'(first|refine SX.goM ?_|refine SX.W.ite (fun h=>?_) (fun h=>?_)|refine SX.W.iteN (fun h=>?_) (fun h=>?_)|refine SX.W.eO (fun h=>?_) (fun h=>?_)|refine SX.R.ite (fun h=>?_) (fun h=>?_)|refine SX.R.iteN (fun h=>?_) (fun h=>?_)|refine SX.R.eO (fun h=>?_) (fun h=>?_))
 all_goals
  refine bK ?_;refine Bool.eq_iff_iff.2 (Iff.trans ?_ decide_eq_true_iff.symm);rw[hP];constructor
  ·intro hh;first
    |(cases hh;done)
    |(try rw[decide_eq_true_iff]at hh
      refine⟨?_,?_,?_,?_,?_,?_,?_⟩ <;> first|omega|(refine .inr ⟨?_,?_,?_,?_⟩ <;> first|omega|assumption))
  ·rintro⟨h1,h2,h3,h4,h5,h6,h7⟩;first
    |rfl
    |(rw[decide_eq_true_iff];omega)
    |(exfalso;first|omega|(rcases h1 with h1|⟨g1,g2,g3,g4⟩ <;> first|omega|(clear c1 c2 c3 c4 c5 c6 f1 f2 hP;simp_all;done)))
set_option maxRecDepth 20000 in
set_option maxHeartbeats 2000000 in
theorem acR(v:Vl)(hz:vZ0 v)(hk:v.k=3):PureOK Tryz.prog 90 [.agg (vlA v),.r (aF 1 kiC [v.k])] (.v (.bool (decide (vP v=0)))):=by
 have c1:FnV Tryz.prog (.sat (eu 145 [] [.sat (bR [.sat (aF 1 kiC [v.k])])])) [.v (.int .i64 1)] (.v (.bool (!decide (1=v.k)))):=FnV.clo (aJ v.k 1);have c2:FnV Tryz.prog (.sat (eu 145 [] [.sat (bR [.sat (aF 1 kiC [v.k])])])) [.v (.int .i64 2)] (.v (.bool (!decide (2=v.k)))):=FnV.clo (aJ v.k 2);have c3:FnV Tryz.prog (.sat (eu 145 [] [.sat (bR [.sat (aF 1 kiC [v.k])])])) [.v (.int .i64 3)] (.v (.bool (!decide (3=v.k)))):=FnV.clo (aJ v.k 3);have c4:FnV Tryz.prog (.sat (eu 145 [] [.sat (bR [.sat (aF 1 kiC [v.k])])])) [.v (.int .i64 4)] (.v (.bool (!decide (4=v.k)))):=FnV.clo (aJ v.k 4);have c5:FnV Tryz.prog (.sat (eu 145 [] [.sat (bR [.sat (aF 1 kiC [v.k])])])) [.v (.int .i64 5)] (.v (.bool (!decide (5=v.k)))):=FnV.clo (aJ v.k 5);have c6:FnV Tryz.prog (.sat (eu 145 [] [.sat (bR [.sat (aF 1 kiC [v.k])])])) [.v (.int .i64 6)] (.v (.bool (!decide (6=v.k)))):=FnV.clo (aJ v.k 6);have cb1:=(dW (h:=ZI.raw v.q.1 v.q.2.1)).h (show v.q.2.1.length≤1099511627775 by have:=hz.q.2.1;omega)
 have cb2:=(dW (h:=ZI.raw v.q.2.2.1 v.q.2.2.2)).h (show v.q.2.2.2.length≤1099511627775 by have:=hz.q.2.2;omega)
 have hP:=vP0 v;have f1:=lQ (b:=v.q.1) (l:=v.q.2.1);have f2:=lQ (b:=v.q.2.2.1) (l:=v.q.2.2.2);have b1:=hz.q.2.1;have b2:=hz.q.2.2;have b3:=hz.al;have b4:=hz.pol;have b5:=hz.fal;have b6:=hz.ril;have b7:=hz.lil;have l1:(v.a.map rq).length=v.a.length:=List.length_map _;have l2:(v.po.map rz).length=v.po.length:=List.length_map _;refine PureOK.fnF Tryz.func90 Tryz.results90 Tryz.ntmps90 rfl rfl rfl (by simp[AV.ids,AV0.ids,Atom.ids]) rfl (fun w0 T B E0 hB=>?_)
 refine SX.goM ?_;refine SX.WP.iO 3 hB rfl rfl ?_;refine SX.WP.aB ?_;have k0:v.k=3:=hk;have e1:(!decide ((1:Int)=v.k))=true:=by rw[k0];rfl
 have e2:(!decide ((2:Int)=v.k))=true:=by rw[k0];rfl
 have e3:(!decide ((3:Int)=v.k))=false:=by rw[k0];rfl
 have e4:(!decide ((4:Int)=v.k))=true:=by rw[k0];rfl
 have e5:(!decide ((5:Int)=v.k))=true:=by rw[k0];rfl
 have e6:(!decide ((6:Int)=v.k))=true:=by rw[k0];rfl
 rw[e1]at c1;rw[e2]at c2;rw[e3]at c3;rw[e4]at c4;rw[e5]at c5;rw[e6]at c6;clear e1 e2 e3 e4 e5 e6
 repeat'(first|refine SX.goM ?_|refine SX.W.ite (fun h=>?_) (fun h=>?_)|refine SX.W.iteN (fun h=>?_) (fun h=>?_)|refine SX.W.eO (fun h=>?_) (fun h=>?_)|refine SX.R.ite (fun h=>?_) (fun h=>?_)|refine SX.R.iteN (fun h=>?_) (fun h=>?_)|refine SX.R.eO (fun h=>?_) (fun h=>?_))
 all_goals
  refine bK ?_;refine Bool.eq_iff_iff.2 (Iff.trans ?_ decide_eq_true_iff.symm);rw[hP];constructor
  ·intro hh;first
    |(cases hh;done)
    |(try rw[decide_eq_true_iff]at hh
      refine⟨?_,?_,?_,?_,?_,?_,?_⟩ <;> first|omega|(refine .inr ⟨?_,?_,?_,?_⟩ <;> first|omega|assumption))
  ·rintro⟨h1,h2,h3,h4,h5,h6,h7⟩;first
    |rfl
    |(rw[decide_eq_true_iff];omega)
    |(exfalso;first|omega|(rcases h1 with h1|⟨g1,g2,g3,g4⟩ <;> first|omega|(clear c1 c2 c3 c4 c5 c6 f1 f2 hP;simp_all;done)))
set_option maxRecDepth 20000 in
set_option maxHeartbeats 2000000 in
theorem acG(v:Vl)(hz:vZ0 v)(hk:v.k=4):PureOK Tryz.prog 90 [.agg (vlA v),.r (aF 1 kiC [v.k])] (.v (.bool (decide (vP v=0)))):=by
 have c1:FnV Tryz.prog (.sat (eu 145 [] [.sat (bR [.sat (aF 1 kiC [v.k])])])) [.v (.int .i64 1)] (.v (.bool (!decide (1=v.k)))):=FnV.clo (aJ v.k 1);have c2:FnV Tryz.prog (.sat (eu 145 [] [.sat (bR [.sat (aF 1 kiC [v.k])])])) [.v (.int .i64 2)] (.v (.bool (!decide (2=v.k)))):=FnV.clo (aJ v.k 2);have c3:FnV Tryz.prog (.sat (eu 145 [] [.sat (bR [.sat (aF 1 kiC [v.k])])])) [.v (.int .i64 3)] (.v (.bool (!decide (3=v.k)))):=FnV.clo (aJ v.k 3);have c4:FnV Tryz.prog (.sat (eu 145 [] [.sat (bR [.sat (aF 1 kiC [v.k])])])) [.v (.int .i64 4)] (.v (.bool (!decide (4=v.k)))):=FnV.clo (aJ v.k 4);have c5:FnV Tryz.prog (.sat (eu 145 [] [.sat (bR [.sat (aF 1 kiC [v.k])])])) [.v (.int .i64 5)] (.v (.bool (!decide (5=v.k)))):=FnV.clo (aJ v.k 5);have c6:FnV Tryz.prog (.sat (eu 145 [] [.sat (bR [.sat (aF 1 kiC [v.k])])])) [.v (.int .i64 6)] (.v (.bool (!decide (6=v.k)))):=FnV.clo (aJ v.k 6);have cb1:=(dW (h:=ZI.raw v.q.1 v.q.2.1)).h (show v.q.2.1.length≤1099511627775 by have:=hz.q.2.1;omega)
 have cb2:=(dW (h:=ZI.raw v.q.2.2.1 v.q.2.2.2)).h (show v.q.2.2.2.length≤1099511627775 by have:=hz.q.2.2;omega)
 have hP:=vP0 v;have f1:=lQ (b:=v.q.1) (l:=v.q.2.1);have f2:=lQ (b:=v.q.2.2.1) (l:=v.q.2.2.2);have b1:=hz.q.2.1;have b2:=hz.q.2.2;have b3:=hz.al;have b4:=hz.pol;have b5:=hz.fal;have b6:=hz.ril;have b7:=hz.lil;have l1:(v.a.map rq).length=v.a.length:=List.length_map _;have l2:(v.po.map rz).length=v.po.length:=List.length_map _;refine PureOK.fnF Tryz.func90 Tryz.results90 Tryz.ntmps90 rfl rfl rfl (by simp[AV.ids,AV0.ids,Atom.ids]) rfl (fun w0 T B E0 hB=>?_)
 refine SX.goM ?_;refine SX.WP.iO 3 hB rfl rfl ?_;refine SX.WP.aB ?_;have k0:v.k=4:=hk;have e1:(!decide ((1:Int)=v.k))=true:=by rw[k0];rfl
 have e2:(!decide ((2:Int)=v.k))=true:=by rw[k0];rfl
 have e3:(!decide ((3:Int)=v.k))=true:=by rw[k0];rfl
 have e4:(!decide ((4:Int)=v.k))=false:=by rw[k0];rfl
 have e5:(!decide ((5:Int)=v.k))=true:=by rw[k0];rfl
 have e6:(!decide ((6:Int)=v.k))=true:=by rw[k0];rfl
 rw[e1]at c1;rw[e2]at c2;rw[e3]at c3;rw[e4]at c4;rw[e5]at c5;rw[e6]at c6;clear e1 e2 e3 e4 e5 e6
 repeat'(first|refine SX.goM ?_|refine SX.W.ite (fun h=>?_) (fun h=>?_)|refine SX.W.iteN (fun h=>?_) (fun h=>?_)|refine SX.W.eO (fun h=>?_) (fun h=>?_)|refine SX.R.ite (fun h=>?_) (fun h=>?_)|refine SX.R.iteN (fun h=>?_) (fun h=>?_)|refine SX.R.eO (fun h=>?_) (fun h=>?_))
 all_goals
  refine bK ?_;refine Bool.eq_iff_iff.2 (Iff.trans ?_ decide_eq_true_iff.symm);rw[hP];constructor
  ·intro hh;first
    |(cases hh;done)
    |(try rw[decide_eq_true_iff]at hh
      refine⟨?_,?_,?_,?_,?_,?_,?_⟩ <;> first|omega|(refine .inr ⟨?_,?_,?_,?_⟩ <;> first|omega|assumption))
  ·rintro⟨h1,h2,h3,h4,h5,h6,h7⟩;first
    |rfl
    |(rw[decide_eq_true_iff];omega)
    |(exfalso;first|omega|(rcases h1 with h1|⟨g1,g2,g3,g4⟩ <;> first|omega|(clear c1 c2 c3 c4 c5 c6 f1 f2 hP;simp_all;done)))
set_option maxRecDepth 20000 in
set_option maxHeartbeats 2000000 in
theorem adI(v:Vl)(hz:vZ0 v)(hk:v.k=5):PureOK Tryz.prog 90 [.agg (vlA v),.r (aF 1 kiC [v.k])] (.v (.bool (decide (vP v=0)))):=by
 have c1:FnV Tryz.prog (.sat (eu 145 [] [.sat (bR [.sat (aF 1 kiC [v.k])])])) [.v (.int .i64 1)] (.v (.bool (!decide (1=v.k)))):=FnV.clo (aJ v.k 1);have c2:FnV Tryz.prog (.sat (eu 145 [] [.sat (bR [.sat (aF 1 kiC [v.k])])])) [.v (.int .i64 2)] (.v (.bool (!decide (2=v.k)))):=FnV.clo (aJ v.k 2);have c3:FnV Tryz.prog (.sat (eu 145 [] [.sat (bR [.sat (aF 1 kiC [v.k])])])) [.v (.int .i64 3)] (.v (.bool (!decide (3=v.k)))):=FnV.clo (aJ v.k 3);have c4:FnV Tryz.prog (.sat (eu 145 [] [.sat (bR [.sat (aF 1 kiC [v.k])])])) [.v (.int .i64 4)] (.v (.bool (!decide (4=v.k)))):=FnV.clo (aJ v.k 4);have c5:FnV Tryz.prog (.sat (eu 145 [] [.sat (bR [.sat (aF 1 kiC [v.k])])])) [.v (.int .i64 5)] (.v (.bool (!decide (5=v.k)))):=FnV.clo (aJ v.k 5);have c6:FnV Tryz.prog (.sat (eu 145 [] [.sat (bR [.sat (aF 1 kiC [v.k])])])) [.v (.int .i64 6)] (.v (.bool (!decide (6=v.k)))):=FnV.clo (aJ v.k 6);have cb1:=(dW (h:=ZI.raw v.q.1 v.q.2.1)).h (show v.q.2.1.length≤1099511627775 by have:=hz.q.2.1;omega)
 have cb2:=(dW (h:=ZI.raw v.q.2.2.1 v.q.2.2.2)).h (show v.q.2.2.2.length≤1099511627775 by have:=hz.q.2.2;omega)
 have hP:=vP0 v;have f1:=lQ (b:=v.q.1) (l:=v.q.2.1);have f2:=lQ (b:=v.q.2.2.1) (l:=v.q.2.2.2);have b1:=hz.q.2.1;have b2:=hz.q.2.2;have b3:=hz.al;have b4:=hz.pol;have b5:=hz.fal;have b6:=hz.ril;have b7:=hz.lil;have l1:(v.a.map rq).length=v.a.length:=List.length_map _;have l2:(v.po.map rz).length=v.po.length:=List.length_map _;refine PureOK.fnF Tryz.func90 Tryz.results90 Tryz.ntmps90 rfl rfl rfl (by simp[AV.ids,AV0.ids,Atom.ids]) rfl (fun w0 T B E0 hB=>?_)
 refine SX.goM ?_;refine SX.WP.iO 3 hB rfl rfl ?_;refine SX.WP.aB ?_;have k0:v.k=5:=hk;have e1:(!decide ((1:Int)=v.k))=true:=by rw[k0];rfl
 have e2:(!decide ((2:Int)=v.k))=true:=by rw[k0];rfl
 have e3:(!decide ((3:Int)=v.k))=true:=by rw[k0];rfl
 have e4:(!decide ((4:Int)=v.k))=true:=by rw[k0];rfl
 have e5:(!decide ((5:Int)=v.k))=false:=by rw[k0];rfl
 have e6:(!decide ((6:Int)=v.k))=true:=by rw[k0];rfl
 rw[e1]at c1;rw[e2]at c2;rw[e3]at c3;rw[e4]at c4;rw[e5]at c5;rw[e6]at c6;clear e1 e2 e3 e4 e5 e6
 repeat'(first|refine SX.goM ?_|refine SX.W.ite (fun h=>?_) (fun h=>?_)|refine SX.W.iteN (fun h=>?_) (fun h=>?_)|refine SX.W.eO (fun h=>?_) (fun h=>?_)|refine SX.R.ite (fun h=>?_) (fun h=>?_)|refine SX.R.iteN (fun h=>?_) (fun h=>?_)|refine SX.R.eO (fun h=>?_) (fun h=>?_))
 all_goals
  refine bK ?_;refine Bool.eq_iff_iff.2 (Iff.trans ?_ decide_eq_true_iff.symm);rw[hP];constructor
  ·intro hh;first
    |(cases hh;done)
    |(try rw[decide_eq_true_iff]at hh
      refine⟨?_,?_,?_,?_,?_,?_,?_⟩ <;> first|omega|(refine .inr ⟨?_,?_,?_,?_⟩ <;> first|omega|assumption))
  ·rintro⟨h1,h2,h3,h4,h5,h6,h7⟩;first
    |rfl
    |(rw[decide_eq_true_iff];omega)
    |(exfalso;first|omega|(rcases h1 with h1|⟨g1,g2,g3,g4⟩ <;> first|omega|(clear c1 c2 c3 c4 c5 c6 f1 f2 hP;simp_all;done)))
set_option maxRecDepth 20000 in
set_option maxHeartbeats 2000000 in
theorem ad5(v:Vl)(hz:vZ0 v)(hk:v.k=6):PureOK Tryz.prog 90 [.agg (vlA v),.r (aF 1 kiC [v.k])] (.v (.bool (decide (vP v=0)))):=by
 have c1:FnV Tryz.prog (.sat (eu 145 [] [.sat (bR [.sat (aF 1 kiC [v.k])])])) [.v (.int .i64 1)] (.v (.bool (!decide (1=v.k)))):=FnV.clo (aJ v.k 1);have c2:FnV Tryz.prog (.sat (eu 145 [] [.sat (bR [.sat (aF 1 kiC [v.k])])])) [.v (.int .i64 2)] (.v (.bool (!decide (2=v.k)))):=FnV.clo (aJ v.k 2);have c3:FnV Tryz.prog (.sat (eu 145 [] [.sat (bR [.sat (aF 1 kiC [v.k])])])) [.v (.int .i64 3)] (.v (.bool (!decide (3=v.k)))):=FnV.clo (aJ v.k 3);have c4:FnV Tryz.prog (.sat (eu 145 [] [.sat (bR [.sat (aF 1 kiC [v.k])])])) [.v (.int .i64 4)] (.v (.bool (!decide (4=v.k)))):=FnV.clo (aJ v.k 4);have c5:FnV Tryz.prog (.sat (eu 145 [] [.sat (bR [.sat (aF 1 kiC [v.k])])])) [.v (.int .i64 5)] (.v (.bool (!decide (5=v.k)))):=FnV.clo (aJ v.k 5);have c6:FnV Tryz.prog (.sat (eu 145 [] [.sat (bR [.sat (aF 1 kiC [v.k])])])) [.v (.int .i64 6)] (.v (.bool (!decide (6=v.k)))):=FnV.clo (aJ v.k 6);have cb1:=(dW (h:=ZI.raw v.q.1 v.q.2.1)).h (show v.q.2.1.length≤1099511627775 by have:=hz.q.2.1;omega)
 have cb2:=(dW (h:=ZI.raw v.q.2.2.1 v.q.2.2.2)).h (show v.q.2.2.2.length≤1099511627775 by have:=hz.q.2.2;omega)
 have hP:=vP0 v;have f1:=lQ (b:=v.q.1) (l:=v.q.2.1);have f2:=lQ (b:=v.q.2.2.1) (l:=v.q.2.2.2);have b1:=hz.q.2.1;have b2:=hz.q.2.2;have b3:=hz.al;have b4:=hz.pol;have b5:=hz.fal;have b6:=hz.ril;have b7:=hz.lil;have l1:(v.a.map rq).length=v.a.length:=List.length_map _;have l2:(v.po.map rz).length=v.po.length:=List.length_map _;refine PureOK.fnF Tryz.func90 Tryz.results90 Tryz.ntmps90 rfl rfl rfl (by simp[AV.ids,AV0.ids,Atom.ids]) rfl (fun w0 T B E0 hB=>?_)
 refine SX.goM ?_;refine SX.WP.iO 3 hB rfl rfl ?_;refine SX.WP.aB ?_;have k0:v.k=6:=hk;have e1:(!decide ((1:Int)=v.k))=true:=by rw[k0];rfl
 have e2:(!decide ((2:Int)=v.k))=true:=by rw[k0];rfl
 have e3:(!decide ((3:Int)=v.k))=true:=by rw[k0];rfl
 have e4:(!decide ((4:Int)=v.k))=true:=by rw[k0];rfl
 have e5:(!decide ((5:Int)=v.k))=true:=by rw[k0];rfl
 have e6:(!decide ((6:Int)=v.k))=false:=by rw[k0];rfl
 rw[e1]at c1;rw[e2]at c2;rw[e3]at c3;rw[e4]at c4;rw[e5]at c5;rw[e6]at c6;clear e1 e2 e3 e4 e5 e6
 repeat'(first|refine SX.goM ?_|refine SX.W.ite (fun h=>?_) (fun h=>?_)|refine SX.W.iteN (fun h=>?_) (fun h=>?_)|refine SX.W.eO (fun h=>?_) (fun h=>?_)|refine SX.R.ite (fun h=>?_) (fun h=>?_)|refine SX.R.iteN (fun h=>?_) (fun h=>?_)|refine SX.R.eO (fun h=>?_) (fun h=>?_))
 all_goals
  refine bK ?_;refine Bool.eq_iff_iff.2 (Iff.trans ?_ decide_eq_true_iff.symm);rw[hP];constructor
  ·intro hh;first
    |(cases hh;done)
    |(try rw[decide_eq_true_iff]at hh
      refine⟨?_,?_,?_,?_,?_,?_,?_⟩ <;> first|omega|(refine .inr ⟨?_,?_,?_,?_⟩ <;> first|omega|assumption))
  ·rintro⟨h1,h2,h3,h4,h5,h6,h7⟩;first
    |rfl
    |(rw[decide_eq_true_iff];omega)
    |(exfalso;first|omega|(rcases h1 with h1|⟨g1,g2,g3,g4⟩ <;> first|omega|(clear c1 c2 c3 c4 c5 c6 f1 f2 hP;simp_all;done)))
set_option maxRecDepth 20000 in
set_option maxHeartbeats 2000000 in
theorem adq(v:Vl)(hz:vZ0 v)(hk:v.k≠1∧v.k≠2∧v.k≠3∧v.k≠4∧v.k≠5∧v.k≠6):PureOK Tryz.prog 90 [.agg (vlA v),.r (aF 1 kiC [v.k])] (.v (.bool (decide (vP v=0)))):=by
 have c1:FnV Tryz.prog (.sat (eu 145 [] [.sat (bR [.sat (aF 1 kiC [v.k])])])) [.v (.int .i64 1)] (.v (.bool (!decide (1=v.k)))):=FnV.clo (aJ v.k 1);have c2:FnV Tryz.prog (.sat (eu 145 [] [.sat (bR [.sat (aF 1 kiC [v.k])])])) [.v (.int .i64 2)] (.v (.bool (!decide (2=v.k)))):=FnV.clo (aJ v.k 2);have c3:FnV Tryz.prog (.sat (eu 145 [] [.sat (bR [.sat (aF 1 kiC [v.k])])])) [.v (.int .i64 3)] (.v (.bool (!decide (3=v.k)))):=FnV.clo (aJ v.k 3);have c4:FnV Tryz.prog (.sat (eu 145 [] [.sat (bR [.sat (aF 1 kiC [v.k])])])) [.v (.int .i64 4)] (.v (.bool (!decide (4=v.k)))):=FnV.clo (aJ v.k 4);have c5:FnV Tryz.prog (.sat (eu 145 [] [.sat (bR [.sat (aF 1 kiC [v.k])])])) [.v (.int .i64 5)] (.v (.bool (!decide (5=v.k)))):=FnV.clo (aJ v.k 5);have c6:FnV Tryz.prog (.sat (eu 145 [] [.sat (bR [.sat (aF 1 kiC [v.k])])])) [.v (.int .i64 6)] (.v (.bool (!decide (6=v.k)))):=FnV.clo (aJ v.k 6);have cb1:=(dW (h:=ZI.raw v.q.1 v.q.2.1)).h (show v.q.2.1.length≤1099511627775 by have:=hz.q.2.1;omega)
 have cb2:=(dW (h:=ZI.raw v.q.2.2.1 v.q.2.2.2)).h (show v.q.2.2.2.length≤1099511627775 by have:=hz.q.2.2;omega)
 have hP:=vP0 v;have f1:=lQ (b:=v.q.1) (l:=v.q.2.1);have f2:=lQ (b:=v.q.2.2.1) (l:=v.q.2.2.2);have b1:=hz.q.2.1;have b2:=hz.q.2.2;have b3:=hz.al;have b4:=hz.pol;have b5:=hz.fal;have b6:=hz.ril;have b7:=hz.lil;have l1:(v.a.map rq).length=v.a.length:=List.length_map _;have l2:(v.po.map rz).length=v.po.length:=List.length_map _;refine PureOK.fnF Tryz.func90 Tryz.results90 Tryz.ntmps90 rfl rfl rfl (by simp[AV.ids,AV0.ids,Atom.ids]) rfl (fun w0 T B E0 hB=>?_)
 refine SX.goM ?_;refine SX.WP.iO 3 hB rfl rfl ?_;refine SX.WP.aB ?_;have k0:=hk;have e1:(!decide ((1:Int)=v.k))=true:=by rw[decide_eq_false (by omega)];rfl
 have e2:(!decide ((2:Int)=v.k))=true:=by rw[decide_eq_false (by omega)];rfl
 have e3:(!decide ((3:Int)=v.k))=true:=by rw[decide_eq_false (by omega)];rfl
 have e4:(!decide ((4:Int)=v.k))=true:=by rw[decide_eq_false (by omega)];rfl
 have e5:(!decide ((5:Int)=v.k))=true:=by rw[decide_eq_false (by omega)];rfl
 have e6:(!decide ((6:Int)=v.k))=true:=by rw[decide_eq_false (by omega)];rfl
 rw[e1]at c1;rw[e2]at c2;rw[e3]at c3;rw[e4]at c4;rw[e5]at c5;rw[e6]at c6;clear e1 e2 e3 e4 e5 e6
 repeat'(first|refine SX.goM ?_|refine SX.W.ite (fun h=>?_) (fun h=>?_)|refine SX.W.iteN (fun h=>?_) (fun h=>?_)|refine SX.W.eO (fun h=>?_) (fun h=>?_)|refine SX.R.ite (fun h=>?_) (fun h=>?_)|refine SX.R.iteN (fun h=>?_) (fun h=>?_)|refine SX.R.eO (fun h=>?_) (fun h=>?_))
 all_goals
  refine bK ?_;refine Bool.eq_iff_iff.2 (Iff.trans ?_ decide_eq_true_iff.symm);rw[hP];constructor
  ·intro hh;first
    |(cases hh;done)
    |(try rw[decide_eq_true_iff]at hh
      refine⟨?_,?_,?_,?_,?_,?_,?_⟩ <;> first|omega|(refine .inr ⟨?_,?_,?_,?_⟩ <;> first|omega|assumption))
  ·rintro⟨h1,h2,h3,h4,h5,h6,h7⟩;first
    |rfl
    |(rw[decide_eq_true_iff];omega)
    |(exfalso;first|omega|(rcases h1 with h1|⟨g1,g2,g3,g4⟩ <;> first|omega|(clear c1 c2 c3 c4 c5 c6 f1 f2 hP;simp_all;done)))
theorem ahV(v:Vl)(hz:vZ0 v):PureOK Tryz.prog 90 [.agg (vlA v),.r (aF 1 kiC [v.k])] (.v (.bool (decide (vP v=0)))):=by
 have hk:v.k=1∨v.k=2∨v.k=3∨v.k=4∨v.k=5∨v.k=6∨(v.k≠1∧v.k≠2∧v.k≠3∧v.k≠4∧v.k≠5∧v.k≠6):=by omega
 rcases hk with hk|hk|hk|hk|hk|hk|hk
 ·exact ady v hz hk
 ·exact acI v hz hk
 ·exact acR v hz hk
 ·exact acG v hz hk
 ·exact adI v hz hk
 ·exact ad5 v hz hk
 ·exact adq v hz hk
end
section
def PrP(p:Nat):Prop:=2≤p∧p < 2147483648∧∀d,d < p→2≤d∧d*d≤p→p % d≠0
instance(p:Nat):Decidable (PrP p):=by unfold PrP;infer_instance
theorem rM(a b:Nat):(a:Int).tmod (b:Int)=((a % b:Nat):Int):=rfl
theorem wrapN{n:Nat}(h:n < 18446744073709551616):IntKind.u64.wrap (n:Int)=(n:Int):=lZ (by omega) (by omega)
theorem PrP.intro{p d:Nat}(h1:2≤p)(h2:p < 2147483648)(h3:p < d*d)(h:∀e,2≤e→e < d→p % e≠0):PrP p:=⟨h1,h2,fun e _ he=>h e he.1 (by
 rcases Nat.lt_or_ge e d with h'|h'
 ·exact h'
 ·have:=Nat.mul_le_mul h' h';omega)⟩
theorem PrP.not{p d:Nat}(h1:2≤d)(h2:d*d≤p)(h3:p % d=0):¬PrP p:=fun h=>h.2.2 d (by
 have:=Nat.mul_le_mul h1 (Nat.le_refl d);omega) ⟨h1,h2⟩ h3
attribute [local irreducible] IntKind.wrap Go1 Reg WP aN aQ bM bI aL aC aj ah aT Sat
attribute [local irreducible] dz bU bV dA bT qv dN mf PrP
theorem afh(p:Nat)(hp:p < 18446744073709551616):PureOK Tryz.prog 151 [.v (.int .u64 (p:Int))] (.v (.bool (decide (PrP p)))):=by
 have hr2:IntKind.u64.wrap ((p:Int).tmod 2)=((p % 2:Nat):Int):=by rw[show (2:Int)=((2:Nat):Int)from rfl,rM];exact wrapN (Nat.lt_of_le_of_lt (Nat.mod_le p 2) hp)
 refine PureOK.fnF Tryz.func151 Tryz.results151 Tryz.ntmps151 rfl rfl rfl (by simp[AV.ids,AV0.ids,Atom.ids]) rfl (fun w0 T B E0 hB=>?_)
 by_cases h1:p < 2
 ·have h1':(p:Int) < 2:=by omega
  refine SX.goM ?_;refine bK ?_;rw[Bool.eq_iff_iff,decide_eq_true_iff];refine Iff.trans ?_ decide_eq_true_iff.symm;exact⟨fun h=>by omega,fun h=>by unfold PrP at h;omega⟩
 by_cases h2:2147483648≤p
 ·have h2':(p:Int)≥2147483648:=by omega
  refine SX.goM ?_;refine bK ?_;rw[Bool.eq_iff_iff,decide_eq_true_iff];refine Iff.trans ?_ decide_eq_true_iff.symm;exact⟨fun h=>by omega,fun h=>by unfold PrP at h;omega⟩
 by_cases h3:p % 2=0
 ·refine SX.goM ?_;refine bK ?_;rw[Bool.eq_iff_iff,decide_eq_true_iff];refine Iff.trans ?_ decide_eq_true_iff.symm;constructor
  ·intro h;obtain rfl:p=2:=by omega
   exact PrP.intro (d:=2) (by decide) (by decide) (by decide) (fun e h h'=>by omega)
  ·intro h;rcases Nat.lt_or_ge p 4 with h4|h4
   ·omega
   ·exact absurd h (PrP.not (d:=2) (by decide) (by omega) h3)
 refine SX.goM ?_;refine W.loop (fun d=>3≤d∧d≤50000∧d % 2=1∧∀e,2≤e→e < d→p % e≠0) (fun d=>[(0,.v (.int .u64 (p:Int))),(3,.v (.int .u64 (d:Int)))]) (fun _=>[]) (fun d=>50001 - d) 3 ⟨by omega,by omega,by omega,fun e h h'=>(show e=2 by omega)▸h3⟩ (fun d ⟨hd,hd2,hodd,he⟩=>?_)
 have hmm:d*d≤50000*50000:=Nat.mul_le_mul hd2 hd2;have hq:IntKind.u64.wrap ((d:Int)*(d:Int))=((d*d:Nat):Int):=by rw[←Int.natCast_mul];exact wrapN (by omega)
 have hr:IntKind.u64.wrap ((p:Int).tmod (d:Int))=((p % d:Nat):Int):=by rw[rM];exact wrapN (Nat.lt_of_le_of_lt (Nat.mod_le p d) hp)
 have hdz:(d:Int)≠0:=by omega
 by_cases h:d*d≤p
 ·by_cases h5:p % d=0
  ·refine SX.goM ?_;refine bK ?_;exact(decide_eq_false (PrP.not (by omega) h h5)).symm
  ·have hd3:d≤46340:=by
    rcases Nat.lt_or_ge 46340 d with h4|h4
    ·have:=Nat.mul_le_mul h4 h4;omega
    ·exact h4
   refine SX.goM ?_;refine W.next (d+2) ⟨by omega,by omega,by omega,fun e h h'=>?_⟩ (by omega)
   by_cases h6:e < d
   ·exact he e h h6
   ·by_cases h7:e=d
    ·subst h7;exact h5
    ·obtain rfl:e=d+1:=by omega
     intro h8;have h9:(d+1) % 2=0:=by omega
     have:p % 2=0:=Nat.mod_eq_zero_of_dvd (Nat.dvd_trans (Nat.dvd_of_mod_eq_zero h9) (Nat.dvd_of_mod_eq_zero h8));exact h3 this
 ·refine SX.goM ?_;refine bK ?_;exact(decide_eq_true (PrP.intro (by omega) (by omega) (by omega) he)).symm
end
section
abbrev vlK(v:Vl):List CA:=[.val (.int .i64 v.k),.val (.bool v.q.1),.sat (dQ v.q.2.1),.val (.bool v.q.2.2.1),.sat (dQ v.q.2.2.2),.val (.int .i64 v.r),.val (.int .i64 v.c),.sat (aF 4 q4C (v.a.map rq)),.sat (aF 2 z2C (v.po.map rz)),.val (.int .u64 (v.p:Int)),.val (.int .i64 v.fr),.val (.int .i64 v.fc),.sat (aF 1 wdC v.fa),.sat (aF 1 wdC v.ri),.sat (aF 15 vlC v.li)]
def dZ(r c:Int)(n:Nat):Bool:=decide (0≤r∧r≤64∧0≤c∧c≤64∧(n:Int)=r*c)
def mOk(r c:Int)(a:List kV):Bool:=a.all qOk&&dZ r c a.length
def lz(po:List qd):Bool:=decide (po.length=0)||decide (rzv (po.getD (po.length - 1) (false,[]))≠0)
def pOk(po:List qd):Bool:=po.all zOk&&lz po
def ltp(p x:Nat):Bool:=decide (x < p)
def fOk(r c:Int)(fa:List Nat)(p:Nat):Bool:=fa.all (ltp p)&&dZ r c fa.length
def lw(ri:List Nat):Bool:=decide (ri.length=0)||decide (ri.getD (ri.length - 1) 0≠0)
def rOk(p:Nat)(ri:List Nat):Bool:=ri.all (ltp p)&&lw ri
def vK(rec:Vl→Bool)(pos:Bool)(v:Vl):Bool:=decide (vP v=0)&&(if v.k=1 then qOk v.q else if v.k=2 then mOk v.r v.c v.a else if v.k=3 then pOk v.po else if v.k=4 then decide (PrP v.p)&&fOk v.fr v.fc v.fa v.p else if v.k=5 then decide (PrP v.p)&&rOk v.p v.ri else if v.k=6 then pos&&v.li.all rec else false)
def vF:Nat→Vl→Bool
 |0,v=>vK (fun _=>false) false v
 |d+1,v=>vK (vF d) true v
def vZ:Nat→Vl→Prop
 |0,v=>vZ0 v∧v.li=[]
 |n+1,v=>vZ0 v∧∀x∈v.li,vZ n x
theorem vZ.z{n:Nat}{v:Vl}(h:vZ n v):vZ0 v:=by cases n <;> exact h.1
theorem vF_P{d:Nat}{v:Vl}(h:vP v≠0):vF d v=false:=by
 cases d <;> (unfold vF vK;rw[decide_eq_false h];rfl)
theorem vF_1{d:Nat}{v:Vl}(h:vP v=0)(hk:v.k=1):vF d v=qOk v.q:=by
 cases d <;> (unfold vF vK;rw[decide_eq_true h,if_pos hk];rfl)
theorem vF_2{d:Nat}{v:Vl}(h:vP v=0)(hk:v.k=2):vF d v=mOk v.r v.c v.a:=by
 cases d <;> (unfold vF vK;rw[decide_eq_true h,if_neg (by omega),if_pos hk];rfl)
theorem vF_3{d:Nat}{v:Vl}(h:vP v=0)(hk:v.k=3):vF d v=pOk v.po:=by
 cases d <;> (unfold vF vK;rw[decide_eq_true h,if_neg (by omega),if_neg (by omega),if_pos hk];rfl)
theorem vF_4{d:Nat}{v:Vl}(h:vP v=0)(hk:v.k=4):vF d v=(decide (PrP v.p)&&fOk v.fr v.fc v.fa v.p):=by
 cases d <;> (unfold vF vK;rw[decide_eq_true h,if_neg (by omega),if_neg (by omega),if_neg (by omega),if_pos hk];rfl)
theorem vF_5{d:Nat}{v:Vl}(h:vP v=0)(hk:v.k=5):vF d v=(decide (PrP v.p)&&rOk v.p v.ri):=by
 cases d <;> (unfold vF vK;rw[decide_eq_true h,if_neg (by omega),if_neg (by omega),if_neg (by omega),if_neg (by omega),if_pos hk];rfl)
theorem vF_60{v:Vl}(hk:v.k=6):vF 0 v=false:=by
 unfold vF vK;rw[if_neg (by omega),if_neg (by omega),if_neg (by omega),if_neg (by omega),if_neg (by omega),if_pos hk];cases decide (vP v=0) <;> rfl
theorem vF_6{d:Nat}{v:Vl}(h:vP v=0)(hk:v.k=6):vF (d+1) v=v.li.all (vF d):=by
 unfold vF vK;rw[decide_eq_true h,if_neg (by omega),if_neg (by omega),if_neg (by omega),if_neg (by omega),if_neg (by omega),if_pos hk];rfl
theorem vF_7{d:Nat}{v:Vl}(hk:v.k≠1∧v.k≠2∧v.k≠3∧v.k≠4∧v.k≠5∧v.k≠6):vF d v=false:=by
 cases d <;> (unfold vF vK;rw[if_neg (by omega),if_neg (by omega),if_neg (by omega),if_neg (by omega),if_neg (by omega),if_neg (by omega)];cases decide (vP v=0) <;> rfl)
theorem xk{α:Type}(l:List α)(p:α→Bool):(!l.any fun x=>!p x)=l.all p:=by
 induction l with
 |nil=>rfl
 |cons a l ih=>rw[List.any_cons,List.all_cons,←ih];cases p a <;> simp
attribute [local irreducible] IntKind.wrap Go1 Reg WP aN aQ bM bI aL aC aj ah aT Sat
attribute [local irreducible] dz bU bV dA bT qv dN mf PrP qOk zOk vP dZ
theorem aeD(v:Vl)(x:Nat):PureOK Tryz.prog 153 [.v (.int .u64 (x:Int)),.r (bR (vlK v))] (.v (.bool (!ltp v.p x))):=by
 refine PureOK.fnF Tryz.func153 Tryz.results153 Tryz.ntmps153 rfl rfl rfl (by simp[AV.ids,AV0.ids,Atom.ids]) rfl (fun w0 T B E0 hB=>?_)
 refine SX.goM ?_;refine bK ?_;unfold ltp;rw[←decide_not,decide_eq_decide];omega
theorem aaG(v:Vl)(l:List Nat)(hp:v.p < WB)(hl:l.length≤100000):PureOK Tryz.prog 99 [.agg (vlA v),.r (aF 1 wdC l)] (.v (.bool (decide (PrP v.p)&&l.all (ltp v.p)))):=by
 have cP:=afh v.p (by rw[bY]at hp;exact hp)
 have cA:=ajR l (.sat (eu 153 [] [.sat (bR (vlK v))])) (fun x=>!ltp v.p x) (fun x _=>FnV.clo (aeD v x)) hl rfl
 rw[←xk];refine PureOK.fnF Tryz.func99 Tryz.results99 Tryz.ntmps99 rfl rfl rfl (by simp[AV.ids,AV0.ids,Atom.ids]) rfl (fun w0 T B E0 hB=>?_)
 refine SX.goM ?_;refine SX.WP.iO 2 hB rfl rfl ?_;refine SX.WP.aB ?_;by_cases h:PrP v.p
 ·rw[decide_eq_true h]at cP ⊢;refine SX.goM ?_;exact bK rfl
 ·rw[decide_eq_false h]at cP ⊢;refine SX.goM ?_;exact bK rfl
theorem adE(n:Int):PureOK Tryz.prog 150 [.v (.int .i64 n)] (.v (.bool (decide (0≤n∧n≤64)))):=by
 refine PureOK.fnF Tryz.func150 Tryz.results150 Tryz.ntmps150 rfl rfl rfl (by simp[AV.ids,AV0.ids,Atom.ids]) rfl (fun w0 T B E0 hB=>?_)
 by_cases h:n≥0
 ·refine SX.goM ?_;refine bK ?_;rw[decide_eq_decide];omega
 ·refine SX.goM ?_;refine bK ?_;exact(decide_eq_false fun h'=>h h'.1).symm
theorem acM(r c:Int){n:Nat}{cells:List CA}:PureOK Tryz.prog 98 [.agg [.c (.val (.int .i64 r)),.c (.val (.int .i64 c)),.c (.sat (aM 1 n cells))]] (.v (.bool (dZ r c n))):=by
 unfold dZ;have s1:=adE r;have s2:=adE c;refine PureOK.fnF Tryz.func98 Tryz.results98 Tryz.ntmps98 rfl rfl rfl (by simp[AV.ids,AV0.ids,Atom.ids]) rfl (fun w0 T B E0 hB=>?_)
 by_cases h1:0≤r∧r≤64
 ·rw[decide_eq_true h1]at s1;by_cases h2:0≤c∧c≤64
  ·rw[decide_eq_true h2]at s2;have hp:0≤r*c:=Int.mul_nonneg h1.1 h2.1;have hp2:r*c≤64*64:=Int.mul_le_mul h1.2 h2.2 h2.1 (by decide)
   refine SX.goM ?_;refine bK ?_;rw[decide_eq_decide];exact⟨fun h=>⟨h1.1,h1.2,h2.1,h2.2,h⟩,fun h=>h.2.2.2.2⟩
  ·rw[decide_eq_false h2]at s2;refine SX.goM ?_;refine bK ?_;exact(decide_eq_false fun h=>h2 ⟨h.2.2.1,h.2.2.2.1⟩).symm
 ·rw[decide_eq_false h1]at s1;refine SX.goM ?_;refine bK ?_;exact(decide_eq_false fun h=>h1 ⟨h.1,h.2.1⟩).symm
end
end
section
attribute [local irreducible] IntKind.wrap Go1 Reg WP aN aQ bM bI aL aC aj ah aT Sat
attribute [local irreducible] dz bU bV dA bT qv dN mf PrP qOk zOk vP dZ lz
theorem adF(q:kV)(hq:(Sm WB q.2.1∧Sm WB q.2.2.2)∧q.2.1.length≤100000∧q.2.2.2.length≤100000):PureOK Tryz.prog 94 [.agg (q4A (rq q))] (.v (.bool (!qOk q))):=by
 have c:=adB q hq.1 (by omega)
 refine PureOK.fnF Tryz.func94 Tryz.results94 Tryz.ntmps94 rfl rfl rfl (by simp[AV.ids,AV0.ids,Atom.ids]) rfl (fun w0 T B E0 hB=>?_)
 refine SX.goM ?_;exact bK rfl
theorem adl(z:qd)(hz:Sm WB z.2∧z.2.length≤100000):PureOK Tryz.prog 96 [.agg (z2A (rz z))] (.v (.bool (!zOk z))):=by
 have c:=qM z (by omega)
 refine PureOK.fnF Tryz.func96 Tryz.results96 Tryz.ntmps96 rfl rfl rfl (by simp[AV.ids,AV0.ids,Atom.ids]) rfl (fun w0 T B E0 hB=>?_)
 refine SX.goM ?_;exact bK rfl
theorem adv(v:Vl)(d:Int)(b:Bool)(hd:0 < d)(hd2:d≤100)(c:PureOK Tryz.prog 52 [.agg (vlA v),.v (.int .i64 (d - 1))] (.v (.bool b))):PureOK Tryz.prog 101 [.agg (vlA v),.r (bR [.val (.int .i64 d)])] (.v (.bool (!b))):=by
 refine PureOK.fnF Tryz.func101 Tryz.results101 Tryz.ntmps101 rfl rfl rfl (by simp[AV.ids,AV0.ids,Atom.ids]) rfl (fun w0 T B E0 hB=>?_)
 refine SX.goM ?_;exact bK rfl
theorem qmF(r c:Int){n:Nat}{cells:List CA}:PureOK Tryz.prog 92 [.agg [.c (.val (.int .i64 r)),.c (.val (.int .i64 c)),.c (.sat (aM 4 n cells))]] (.v (.bool (dZ r c n))):=by
 unfold dZ;exact(yh r c).h trivial
section
variable(v:Vl)(d:Nat)(hz:vZ0 v)
include hz
theorem lN:PureOK Tryz.prog 90 [.agg (vlA v),.r (aM 1 1 [.val (.int .i64 v.k)])] (.v (.bool (decide (vP v=0)))):=ahV v hz
theorem vO(hP:vP v≠0):PureOK Tryz.prog 52 [.agg (vlA v),.v (.int .i64 (d:Int))] (.v (.bool (vF d v))):=by
 have c:=lN v hz;rw[decide_eq_false hP]at c;rw[vF_P hP];refine PureOK.fnF Tryz.func52 Tryz.results52 Tryz.ntmps52 rfl rfl rfl (by simp[AV.ids,AV0.ids,Atom.ids]) rfl (fun w0 T B E0 hB=>?_)
 refine SX.goM ?_;exact bK rfl
theorem uj(hP:vP v=0)(hk:v.k=1):PureOK Tryz.prog 52 [.agg (vlA v),.v (.int .i64 (d:Int))] (.v (.bool (vF d v))):=by
 have c:=lN v hz;rw[decide_eq_true hP]at c;rw[vF_1 hP hk];have cF:=adB v.q hz.q.1 (by have:=hz.q.2;omega)
 refine PureOK.fnF Tryz.func52 Tryz.results52 Tryz.ntmps52 rfl rfl rfl (by simp[AV.ids,AV0.ids,Atom.ids]) rfl (fun w0 T B E0 hB=>?_)
 refine SX.goM ?_;exact bK rfl
theorem tZ(hP:vP v=0)(hk:v.k=2):PureOK Tryz.prog 52 [.agg (vlA v),.v (.int .i64 (d:Int))] (.v (.bool (vF d v))):=by
 have c:=lN v hz;rw[decide_eq_true hP]at c;rw[vF_2 hP hk];have cA:=air v.a 94 (fun x=>!qOk x) (fun x hx=>adF x (hz.a x hx)) hz.al
 have cF:=qmF v.r v.c (n:=(v.a.map rq).length) (cells:=(v.a.map rq).flatMap q4C);have hl:(v.a.map rq).length=v.a.length:=List.length_map _;unfold mOk;rw[←hl,←xk];cases h:dZ v.r v.c (v.a.map rq).length
 ·rw[h]at cF;refine PureOK.fnF Tryz.func52 Tryz.results52 Tryz.ntmps52 rfl rfl rfl (by simp[AV.ids,AV0.ids,Atom.ids]) rfl (fun w0 T B E0 hB=>?_)
  refine SX.goM ?_;refine bK ?_;rw[Bool.and_false]
 ·rw[h]at cF;refine PureOK.fnF Tryz.func52 Tryz.results52 Tryz.ntmps52 rfl rfl rfl (by simp[AV.ids,AV0.ids,Atom.ids]) rfl (fun w0 T B E0 hB=>?_)
  refine SX.goM ?_;refine bK ?_;rw[Bool.and_true]
theorem sF(hP:vP v=0)(hk:v.k=3):PureOK Tryz.prog 52 [.agg (vlA v),.v (.int .i64 (d:Int))] (.v (.bool (vF d v))):=by
 have c:=lN v hz;rw[decide_eq_true hP]at c;rw[vF_3 hP hk];have cA:=aho v.po 96 (fun x=>!zOk x) (fun x hx=>adl x (hz.po x hx)) hz.pol
 have hl:(v.po.map rz).length=v.po.length:=List.length_map _;have hb:=hz.pol;unfold pOk lz;rw[←xk];by_cases h0:v.po.length=0
 ·rw[decide_eq_true h0,Bool.true_or,Bool.and_true];refine PureOK.fnF Tryz.func52 Tryz.results52 Tryz.ntmps52 rfl rfl rfl (by simp[AV.ids,AV0.ids,Atom.ids]) rfl (fun w0 T B E0 hB=>?_)
  refine SX.goM ?_;exact bK rfl
 ·obtain⟨x,hx⟩:∃x,v.po[v.po.length - 1]? =some x:=⟨_,List.getElem?_eq_getElem (by omega)⟩
  have hq:(v.po.map rz)[(v.po.map rz).length - 1]? =some (rz x):=by rw[hl,List.getElem?_map,hx];rfl
  have hg:v.po.getD (v.po.length - 1) (false,[])=x:=by rw[List.getD_eq_getElem?_getD,hx];rfl
  have hax:=hz.po x (List.mem_of_getElem? hx);have cS:=(vD (h:=ZI.raw x.1 x.2)).h (show x.2.length≤1099511627775 by omega)
  have hs0:bO (rzv x)=0↔rzv x=0:=by unfold bO;(repeat' split) <;> omega
  change PureOK _ _ _ (.v (.int .i64 (bO (rzv x))))at cS
  rw[hg,decide_eq_false h0,Bool.false_or];by_cases h1:rzv x=0
  ·have h2:bO (rzv x)=0:=hs0.2 h1;rw[decide_eq_false (fun e=>e h1),Bool.and_false]
   refine PureOK.fnF Tryz.func52 Tryz.results52 Tryz.ntmps52 rfl rfl rfl (by simp[AV.ids,AV0.ids,Atom.ids]) rfl (fun w0 T B E0 hB=>?_)
   refine SX.goM ?_;exact bK rfl
  ·have h2:¬bO (rzv x)=0:=fun e=>h1 (hs0.1 e)
   rw[decide_eq_true h1,Bool.and_true];refine PureOK.fnF Tryz.func52 Tryz.results52 Tryz.ntmps52 rfl rfl rfl (by simp[AV.ids,AV0.ids,Atom.ids]) rfl (fun w0 T B E0 hB=>?_)
   refine SX.goM ?_;exact bK rfl
theorem su(hP:vP v=0)(hk:v.k=4):PureOK Tryz.prog 52 [.agg (vlA v),.v (.int .i64 (d:Int))] (.v (.bool (vF d v))):=by
 have c:=lN v hz;rw[decide_eq_true hP]at c;rw[vF_4 hP hk];have cB:=aaG v v.fa hz.p hz.fal;have cF:PureOK Tryz.prog 98 [.agg [.c (.val (.int .i64 v.fr)),.c (.val (.int .i64 v.fc)),.c (.sat (aF 1 wdC v.fa))]] (.v (.bool (dZ v.fr v.fc v.fa.length))):=acM v.fr v.fc;unfold fOk;cases h:dZ v.fr v.fc v.fa.length
 ·rw[h]at cF;refine PureOK.fnF Tryz.func52 Tryz.results52 Tryz.ntmps52 rfl rfl rfl (by simp[AV.ids,AV0.ids,Atom.ids]) rfl (fun w0 T B E0 hB=>?_)
  refine SX.goM ?_;refine bK ?_;rw[Bool.and_false,Bool.and_false]
 ·rw[h]at cF;refine PureOK.fnF Tryz.func52 Tryz.results52 Tryz.ntmps52 rfl rfl rfl (by simp[AV.ids,AV0.ids,Atom.ids]) rfl (fun w0 T B E0 hB=>?_)
  refine SX.goM ?_;refine bK ?_;rw[Bool.and_true]
theorem rE(hP:vP v=0)(hk:v.k=5):PureOK Tryz.prog 52 [.agg (vlA v),.v (.int .i64 (d:Int))] (.v (.bool (vF d v))):=by
 have c:=lN v hz;rw[decide_eq_true hP]at c;rw[vF_5 hP hk];have cB:=aaG v v.ri hz.p hz.ril;have hb:=hz.ril;unfold rOk lw;rw[←Bool.and_assoc];generalize (decide (PrP v.p)&&v.ri.all (ltp v.p))=b at cB ⊢;cases b
 ·refine PureOK.fnF Tryz.func52 Tryz.results52 Tryz.ntmps52 rfl rfl rfl (by simp[AV.ids,AV0.ids,Atom.ids]) rfl (fun w0 T B E0 hB=>?_)
  refine SX.goM ?_;exact bK rfl
 ·by_cases h0:v.ri.length=0
  ·rw[decide_eq_true h0];refine PureOK.fnF Tryz.func52 Tryz.results52 Tryz.ntmps52 rfl rfl rfl (by simp[AV.ids,AV0.ids,Atom.ids]) rfl (fun w0 T B E0 hB=>?_)
   refine SX.goM ?_;exact bK rfl
  ·obtain⟨x,hx⟩:∃x,v.ri[v.ri.length - 1]? =some x:=⟨_,List.getElem?_eq_getElem (by omega)⟩
   have hg:v.ri.getD (v.ri.length - 1) 0=x:=by rw[List.getD_eq_getElem?_getD,hx];rfl
   rw[hg,decide_eq_false h0,Bool.false_or,Bool.true_and];refine PureOK.fnF Tryz.func52 Tryz.results52 Tryz.ntmps52 rfl rfl rfl (by simp[AV.ids,AV0.ids,Atom.ids]) rfl (fun w0 T B E0 hB=>?_)
   refine SX.goM ?_;refine bK ?_;rw[decide_eq_decide];omega
theorem uf(hP:vP v=0)(hk:v.k=6)(hd:d≤20)(hr:∀e,d=e+1→∀x∈v.li,PureOK Tryz.prog 52 [.agg (vlA x),.v (.int .i64 (e:Int))] (.v (.bool (vF e x)))):PureOK Tryz.prog 52 [.agg (vlA v),.v (.int .i64 (d:Int))] (.v (.bool (vF d v))):=by
 have c:=lN v hz;rw[decide_eq_true hP]at c;cases d with
 |zero=>
  rw[vF_60 hk];refine PureOK.fnF Tryz.func52 Tryz.results52 Tryz.ntmps52 rfl rfl rfl (by simp[AV.ids,AV0.ids,Atom.ids]) rfl (fun w0 T B E0 hB=>?_)
  refine SX.goM ?_;refine SX.WP.iO 3 hB rfl rfl ?_;refine SX.WP.aB ?_;refine SX.goM ?_;exact bK rfl
 |succ e=>
  rw[vF_6 hP hk,←xk];have cA:=alv v.li (.sat (eu 101 [] [.sat (bR [.val (.int .i64 ((e+1:Nat):Int))])])) (fun x=>!vF e x) (fun x hx=>FnV.clo (adv x ((e+1:Nat):Int) (vF e x) (by omega) (by omega) (by
   rw[show ((e+1:Nat):Int) - 1=(e:Int)by omega];exact hr e rfl x hx))) hz.lil rfl
  refine PureOK.fnF Tryz.func52 Tryz.results52 Tryz.ntmps52 rfl rfl rfl (by simp[AV.ids,AV0.ids,Atom.ids]) rfl (fun w0 T B E0 hB=>?_)
  refine SX.goM ?_;refine SX.WP.iO 3 hB rfl rfl ?_;refine SX.WP.aB ?_;refine SX.goM ?_;exact bK rfl
theorem ru(hP:vP v=0)(hk:v.k≠1∧v.k≠2∧v.k≠3∧v.k≠4∧v.k≠5∧v.k≠6):PureOK Tryz.prog 52 [.agg (vlA v),.v (.int .i64 (d:Int))] (.v (.bool (vF d v))):=by
 have c:=lN v hz;rw[decide_eq_true hP]at c;rw[vF_7 hk];refine PureOK.fnF Tryz.func52 Tryz.results52 Tryz.ntmps52 rfl rfl rfl (by simp[AV.ids,AV0.ids,Atom.ids]) rfl (fun w0 T B E0 hB=>?_)
 refine SX.goM ?_;exact bK rfl
end
theorem aeI:∀(n d:Nat) (v:Vl),vZ n v→d≤20→PureOK Tryz.prog 52 [.agg (vlA v),.v (.int .i64 (d:Int))] (.v (.bool (vF d v))):=by
 intro n
 induction n with
 |zero=>
  intro d v hv hd;by_cases hP:vP v=0
  ·have hk:v.k=1∨v.k=2∨v.k=3∨v.k=4∨v.k=5∨v.k=6∨(v.k≠1∧v.k≠2∧v.k≠3∧v.k≠4∧v.k≠5∧v.k≠6):=by omega
   rcases hk with hk|hk|hk|hk|hk|hk|hk
   ·exact uj v d hv.z hP hk
   ·exact tZ v d hv.z hP hk
   ·exact sF v d hv.z hP hk
   ·exact su v d hv.z hP hk
   ·exact rE v d hv.z hP hk
   ·exact uf v d hv.z hP hk hd fun e _ x hx=>by rw[hv.2]at hx;cases hx
   ·exact ru v d hv.z hP hk
  ·exact vO v d hv.z hP
 |succ n ih=>
  intro d v hv hd;by_cases hP:vP v=0
  ·have hk:v.k=1∨v.k=2∨v.k=3∨v.k=4∨v.k=5∨v.k=6∨(v.k≠1∧v.k≠2∧v.k≠3∧v.k≠4∧v.k≠5∧v.k≠6):=by omega
   rcases hk with hk|hk|hk|hk|hk|hk|hk
   ·exact uj v d hv.z hP hk
   ·exact tZ v d hv.z hP hk
   ·exact sF v d hv.z hP hk
   ·exact su v d hv.z hP hk
   ·exact rE v d hv.z hP hk
   ·exact uf v d hv.z hP hk hd fun e he x hx=>ih e x (hv.2 x hx) (by omega)
   ·exact ru v d hv.z hP hk
  ·exact vO v d hv.z hP
theorem mg{n:Nat}{v:Vl}(hv:vZ n v):PureOK Tryz.prog 32 [.agg (vlA v)] (.v (.bool (vF 20 v))):=by
 have c:=aeI n 20 v hv (Nat.le_refl _);refine PureOK.fnF Tryz.func32 Tryz.results32 Tryz.ntmps32 rfl rfl rfl (by simp[AV.ids,AV0.ids,Atom.ids]) rfl (fun w0 T B E0 hB=>?_)
 refine SX.goM ?_;exact bK rfl
end
section
abbrev vlB(v:Vl):List Atom:=[.c (.val (.int .i64 v.k)),.c (.val (.bool v.q.1)),.c (.sat (dQ v.q.2.1)),.c (.val (.bool v.q.2.2.1)),.c (.sat (dQ v.q.2.2.2)),.c (.val (.int .i64 v.r)),.c (.val (.int .i64 v.c)),.c (.sat (aF 4 q4C (v.a.map rq))),.c (.sat (aF 2 z2C (v.po.map rz))),.c (.val (.int .u64 (v.p:Int))),.c (.val (.int .i64 v.fr)),.c (.val (.int .i64 v.fc)),.c (.sat (aF 1 wdC v.fa)),.c (.sat (aF 1 wdC v.ri)),.c (.sat (aF 15 vlE v.li))]
theorem ak1(v:Vl):vlA v=vlB v:=by unfold vlA vlB;rw[afS]
attribute [local irreducible] IntKind.wrap Go1 Reg WP aN aQ bM bI aL aC aj ah aT Sat
attribute [local irreducible] dz bU bV dA bT qv dN mf PrP qOk zOk vP dZ lz
section
variable(v:Vl)(d:Nat)(hz:vZ0 v)
include hz
end
end
end Go.Proofs.YtegehclknhmkgaaGreatDoor