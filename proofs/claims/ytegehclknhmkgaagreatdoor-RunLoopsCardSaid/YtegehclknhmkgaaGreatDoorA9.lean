import Derived.Test.YtegehclknhmkgaaGreatDoorA8
import Derived.Lib.Builder
import Derived.Lib.AppendStr
import Derived.Lib.UnsafeStr
set_option linter.unusedVariables false
set_option linter.unusedSimpArgs false
namespace SX
open Go Go.RowKit
section
theorem vL:∀m:List CA,aP (m.map Atom.c)=some m
 |[]=>rfl
 |c::m=>by simp[aP,vL m]
theorem ajS{cells:List Atom}{m:List CA}(h:cells=m.map Atom.c):aP cells=some m:=by rw[h];exact vL m
section
variable{P:Program}{C:Ctx}{st:St}{α:Type}
variable{ops rest:List Oper}{acc:List (List Nat×List Nat)}{K:List (List Nat×List Nat)→St→Prop}{dst:Option Tmp}{d:Tmp}{op:Op}{ty t t':TypeId}{x y z:Operand}{k:IntKind}
theorem G.lenH{A:lD}{e:TypeId}{b i n size sz:Nat}[ht:aZ P t e sz](next:Reg P C ops rest (st.app dst ⟨.v (.int .i64 (n:Int)),[]⟩) (([b],[])::acc) K)(hd:ay dst C.nt=true:=by rfl)(hx:st.ev x=some (.it (.one (.rel b (ac5 i)))):=by rfl)(hb:st.hp b= .ent (.abs A):=by rfl)(hA:kD A i e size n:=by first|exact SX.kD.out|exact SX.kD.inn (by assumption)):Go1 P C ops dst (.call ⟨.builtin .len,#[x],#[t]⟩) ty rest st acc K:=
 Go1.lenH hd hx hb hA next
theorem G.ni{A:lD}{e:TypeId}{b j n size i:Nat}[ht:aZ P t e size](next:Reg P C ops rest (st.app dst ⟨.it (.one (.rel b (oq j (i*size)))),[]⟩) (([b],[])::acc) K)(hd:ay dst C.nt=true:=by rfl)(hx:st.ev x=some (.it (.one (.rel b (ac5 j)))):=by rfl)(hb:st.hp b= .ent (.abs A):=by rfl)(hA:kD A j e size n:=by first|exact SX.kD.out|exact SX.kD.inn (by assumption))(hy:st.ev y=some (.v (.int k (i:Int))):=by rfl)(hi:i < n:=by omega):Go1 P C ops dst (.indexAddr t x y) ty rest st acc K:=
 Go1.ni hd hx hb hA hy hi next
theorem G.afR{tO tI:TypeId}{b size i j:Nat}{enc:α→List CA}{js:List Nat}{c:List (List α)}[ht:gU P t](next:Reg P C ops rest (st.app dst ⟨.it (.one (qc b (j+1))),[]⟩) (([b],[])::acc) K)(hd:ay dst C.nt=true:=by rfl)(hx:st.ev x=some (.it (.one (.rel b (oq 0 (i*1))))):=by rfl)(hb:st.hp b= .ent (.abs (gq tO tI size enc js c)):=by rfl)(hj:js[i]? =some j:=by assumption):Go1 P C ops dst (.load t x) ty rest st acc K:=
 Go1.afR hd hx hb (by rw[Nat.mul_one];exact hj) next
theorem G.abY{tO tI:TypeId}{b size i j:Nat}{enc:α→List CA}{js:List Nat}{c:List (List α)}(next:Reg P C ops rest (st.app none ⟨.v undef,[(b,.ent (.abs (gq tO tI size enc (js.set i j) c)))]⟩) (([b],[b])::acc) K)(hs:(P.info? t).map (·.size)=some 1:=by kernel_rfl)(hx:st.ev x=some (.it (.one (.rel b (oq 0 (i*1))))):=by rfl)(hy:st.ev y=some (.it (.one (qc b (j+1)))):=by rfl)(hb:st.hp b= .ent (.abs (gq tO tI size enc js c)):=by rfl)(ho:i < js.length:=by first|omega|(rw[List.length_set];omega))(hj:j < c.length:=by first|assumption|omega):Go1 P C ops none (.store t x y) ty rest st acc K:=
 Go1.abY hs hx hy hb (off:=i*1) (by rw[Nat.mul_one];exact ho) hj (by rw[Nat.mul_one];exact next)
theorem G.wP{tO tI:TypeId}{b size i j:Nat}{enc:α→List CA}{js:List Nat}{c:List (List α)}{v:AV0}{r:List α}{a:α}[he:eB enc size](next:Reg P C ops rest (st.app none ⟨.v undef,[(b,.ent (.abs (gq tO tI size enc js (c.set j (r.set i a)))))]⟩) (([b],[b])::acc) K)(hs:(P.info? t).map (·.size)=some size:=by kernel_rfl)(hx:st.ev x=some (.it (.one (.rel b (oq (j+1) (i*size))))):=by rfl)(hy:st.ev y=some (.it v):=by rfl)(hb:st.hp b= .ent (.abs (gq tO tI size enc js c)):=by rfl)
  (hv:v.cells=(enc a).map Atom.c:=by rfl) (h1:v.cells.all Atom.dS=true:=by rfl) (hj:c[j]? =some r:=by assumption) (hi:i < r.length:=by omega):Go1 P C ops none (.store t x y) ty rest st acc K:=
 Go1.wP hs hx hy hb (by rw[hv,List.length_map];exact he.h a) h1 (ajS hv) hj (List.length_set ..) (by have:=Nat.mul_le_mul_right size (show i+1≤r.length from hi);rw[Nat.succ_mul]at this;exact this) (tC r i a hi) next
theorem G.wW{tO tI:TypeId}{b b2 bytes size:Nat}{z0:Value}{enc:α→List CA}{js:List Nat}{c:List (List α)}{l:List α}[ht:aZ P t tO 1][he:eH P tO [z0] bytes](next:Reg P C ops rest (st.app (some d) ⟨.it (.one (qc d 0)),[(b,.gone),(b2,.gone),(d,.ent (.abs (gq tO tI size enc (js++[c.length]) (c++[l]))))]⟩) (([b,b2,d],[b,b2,d])::acc) K)(hd:ay (some d) C.nt=true:=by rfl)(hx:st.ev x=some (.it (.one (qc b 0))):=by rfl)(hy:st.ev y=some (.it (.one (qc b2 0))):=by rfl)
  (hb:st.hp b= .ent (.abs (gq tO tI size enc js c)):=by rfl) (hb2:st.hp b2= .ent (.abs (afo tI size enc l)):=by rfl) (hbb:b≠b2:=by decide) (hf:st.hp d= .free:=by rfl) (h63:js.length+1≤9223372036854775807:=by omega) (hbytes:(js.length+1)*bytes≤140737488355328:=by omega):Go1 P C ops (some d) (.call ⟨.builtin .append,#[x,y],#[t,t]⟩) ty rest st acc K:=
 Go1.wW hd hx hy hb hb2 hbb hf h63 hbytes next
end
theorem ah.fnA{P:Program}{f:FuncId}{fn:Func}{c:Code}{args:List AV}{pre:List (Nat×Ent)}{out:Out}{nt:Nat}{rs:List ResultVar}(hf:P.funcs[f]? =some fn)(hres:fn.results=rs.toArray)(hnt:fn.ntmps=nt)(hb:fn.body=some c)(hn:(fn.name== "runtime.NumGoroutine")=false)(hna:Nat.ble args.length nt=true)
  (p1:nodupB (pre.map (·.1))=true) (p3:(args.all fun v=>v.ids.all (iK (pre.map (·.1))))=true) (p4:(pre.all fun p=>p.2.ids.all (iK (pre.map (·.1))))=true) (p5:((pre.map (·.1)).all (iK (out.hp.map (·.1))))=true)
  (p6:((out.res.ids++out.hp.flatMap fun p=>p.2.ids).all fun i=>iK (pre.map (·.1)) i||iK (out.hp.map (·.1)) i)=true)
  (h:∀(w0:World) (T B:Nat→Prop) (E0:Env),(pre=[]→∀k,¬B k)→WP P ⟨w0,T,B,nt,E0,fun b=>(lk pre b).isSome⟩ c ⟨fun t=>args[t]?,fun b=>match lk pre b with|some e=> .ent e|none=> .free⟩ (bI ⟨w0,T,B,nt,E0,fun b=>(lk pre b).isSome⟩ P rs out)):ah P f args pre out:=by
 have e1:(fun b=>(pre.lookup b).isSome)=fun b=>(lk pre b).isSome:=funext fun b=>by rw[eU]
 have e2:iE args pre=⟨fun t=>args[t]?,fun b=>match lk pre b with|some e=> .ent e|none=> .free⟩:=by
  unfold iE
  congr 1
  funext b
  rw[eU];cases lk pre b <;> rfl
 have key:∀i,iK (pre.map (·.1)) i=true→(pre.lookup i).isSome=true:=fun i hi=>by rw[eU];exact lg (dV.1 hi)
 refine ah.fn hf hres hnt hb hn hna (fun b e hb=>by rw[eU];exact ab3 p1 hb) (fun v hv i hi=>key i (List.all_eq_true.1 (List.all_eq_true.1 p3 v hv) i hi)) (fun b e hb i hi=>key i (List.all_eq_true.1 (List.all_eq_true.1 p4 (b,e) hb) i hi)) (fun b e hb=>?_) (fun i hi=>?_) (fun w0 T B E0 hB=>?_)
 ·have:=dV.1 (List.all_eq_true.1 p5 b (List.mem_map.2 ⟨(b,e),hb,rfl⟩));obtain⟨⟨b',s⟩,hs,rfl⟩:=List.mem_map.1 this;exact⟨s,hs⟩
 ·have hi':i∈out.res.ids++out.hp.flatMap fun p=>p.2.ids:=by
   rw[List.mem_append];rcases hi with hi|⟨b,e,hb,hi⟩
   ·exact .inl hi
   ·exact .inr (List.mem_flatMap.2 ⟨(b,.ent e),hb,hi⟩)
  have:=List.all_eq_true.1 p6 i hi';rw[Bool.or_eq_true]at this;rcases this with h|h
  ·exact .inl (key i h)
  ·obtain⟨⟨b',s⟩,hs,rfl⟩:=List.mem_map.1 (dV.1 h);exact .inr ⟨s,hs⟩
 ·rw[e1,e2];refine WP.bI (h w0 T B E0 fun hp k hk=>?_)
  subst hp;obtain⟨b,e,hb,_⟩:=hB k hk;cases hb
theorem aL.le{C:Ctx}{P:Program}{rs:List ResultVar}{out:Out}{st st':St}(h:St.le C st st')(k:aL C P rs out st'):aL C P rs out st:=by
 obtain⟨s,h1,h2⟩:=k;exact⟨s,fun a w hs=>h1 a w (h a w hs),h2⟩
end
section
def mkOne:Op→Bool
 | .makeFunc _ a c=>Nat.beq a.size 0&&Nat.beq c.size 0
 |_=>true
def noMk:List Oper→Bool
 |[]=>true
 |o::l=>match mkOne o.op with|true=>noMk l|false=>false
section
variable{P:Program}{C:Ctx}{st:St}{Q:Exit→St→Prop}
theorem WP.af7{id:Nat}{l:List Oper}(hn:noMk l=true)(h:Reg P C l l st [] (fun _ st'=>Q .normal st')):WP P C (.region id l.toArray false) st Q:=WP.aB h
theorem WP.adN{id:Nat}{l:List Oper}(hn:noMk l=true)(hm:P.follows .mixedOrders=true)(h:Reg P C l l st [] (fun feet st'=>check l.toArray feet=true∧Q .normal st')):WP P C (.region id l.toArray true) st Q:=WP.akM hm h
end
section
variable{P:Program}{C:Ctx}{st:St}
variable{ops rest:List Oper}{acc:List (List Nat×List Nat)}{K:List (List Nat×List Nat)→St→Prop}{dst:Option Tmp}{ty t e:TypeId}{x y:Operand}{k:IntKind}{n size:Nat}
end
end
section
section
variable{P:Program}{C:Ctx}{st:St}
variable{ops rest:List Oper}{acc:List (List Nat×List Nat)}{K:List (List Nat×List Nat)→St→Prop}{dst:Option Tmp}{d:Tmp}{op:Op}{ty t t' t'' e:TypeId}{x y:Operand}{k:IntKind}{n size:Nat}
class adw(P:Program)(t:TypeId)(e:outParam TypeId):Prop where
 h:P.underlying t=some (.pointer e)
 s:(P.info? e).map (fun j=>Nat.beq j.size 0)=some false
theorem G.aod[hp:adw P t e](next:Reg P C ops rest (st.app dst ⟨.v (.bool true),[]⟩) (([],[])::acc) K)(hd:ay dst C.nt=true:=by rfl)(hx:st.ev x=some (.v (.pointer none)):=by rfl)(hy:st.ev y=some (.v (.pointer none)):=by rfl):Go1 P C ops dst (.binOp .eql t x y t') ty rest st acc K:=
 Go1.og hd rfl hx hy (fun ρ o w ho h1 h2=>by
  unfold execOp;rw[ho];have h:∀d:Nat,(Op.equalIn (d+1) t (.pointer none) (.pointer none)).run P w= .ok true w:=fun d=>by
   simp[Op.equalIn,run_underlying hp.h]
  simp[h1,h2,eqGuard,binOp,Op.equal,Op.maxDepth,h 9999]) next
theorem G.aon{b off:Nat}[hp:adw P t e](next:Reg P C ops rest (st.app dst ⟨.v (.bool false),[]⟩) (([],[])::acc) K)(hd:ay dst C.nt=true:=by rfl)(hx:st.ev x=some (.ptr b off):=by rfl)(hy:st.ev y=some (.v (.pointer none)):=by rfl):Go1 P C ops dst (.binOp .eql t x y t') ty rest st acc K:=
 Go1.cK [] [] (by simp) hd (by simp) (fun o ho _ st' E S a w hev hs _=>by
  have hv':a.eval x= .pointer (some ⟨E.blk b,off,none⟩):=(hs.ev ((hev x (by simp[ho,Op.operands])).trans hx)).1
  have hyv:a.eval y= .pointer none:=(hs.ev ((hev y (by simp[ho,Op.operands])).trans hy)).1
  refine⟨fun j hj=>(by cases hj),.bool false,?_,rfl⟩
  unfold execOp;rw[ho];have h:∀d:Nat,(Op.equalIn (d+1) t (.pointer (some ⟨E.blk b,off,none⟩)) (.pointer none)).run P w= .ok false w:=fun d=>by
   simp[Op.equalIn,run_underlying hp.h]
  simp[hv',hyv,eqGuard,binOp,Op.equal,Op.maxDepth,h 9999]) next
theorem G.anK{b off:Nat}[hp:adw P t e](next:Reg P C ops rest (st.app dst ⟨.v (.bool false),[]⟩) (([],[])::acc) K)(hd:ay dst C.nt=true:=by rfl)(hx:st.ev x=some (.ptr b off):=by rfl)(hy:st.ev y=some (.ptr b off):=by rfl):Go1 P C ops dst (.binOp .neq t x y t') ty rest st acc K:=
 Go1.cK [] [] (by simp) hd (by simp) (fun o ho _ st' E S a w hev hs _=>by
  have hv':a.eval x= .pointer (some ⟨E.blk b,off,none⟩):=(hs.ev ((hev x (by simp[ho,Op.operands])).trans hx)).1
  have hyv:a.eval y= .pointer (some ⟨E.blk b,off,none⟩):=(hs.ev ((hev y (by simp[ho,Op.operands])).trans hy)).1
  obtain⟨j,hj,_⟩:=Option.map_eq_some_iff.1 hp.s;refine⟨fun j hj=>(by cases hj),.bool false,?_,rfl⟩
  have h:=Lib.run_neq_ptr_same (P:=P) w ⟨E.blk b,off,none⟩ hp.h hj;unfold execOp;rw[ho];simp[hv',hyv,eqGuard,h]) next
class TUns(P:Program)(t:TypeId):Prop where
 h:P.underlying t=some .unsafePointer
theorem aal{w:World}{g:Nat}{cs:List Value}{T:TypeId}(h:w.heap[g]? =some (.cells cs.toArray T (0,0))):w.shape? g=some (T,cs.length):=by
 simp[World.shape?,h]
theorem G.alC{b off:Nat}{T:TypeId}{cells:List Atom}[hp:adw P t e][hu:TUns P t'](next:Reg P C ops rest (st.app dst ⟨.ptr b off,[]⟩) (([b],[])::acc) K)(hd:ay dst C.nt=true:=by rfl)(hx:st.ev x=some (.ptr b off):=by rfl)
  (hb:st.hp b= .ent (.box T cells):=by rfl) (ho:Nat.blt off cells.length=true:=by rfl):Go1 P C ops dst (.convert t t' x) ty rest st acc K:=
 Go1.cK [(b,.box T cells)] [b] (fun c e' hc=>by simp at hc;simp[hc.1]) hd (fun c e' hc=>by simp at hc;rw[hc.1,hc.2];exact hb) (fun o ho' _ st' E S a w hev hs hrd=>by
  obtain⟨hv,hids⟩:=hs.ev ((hev x (by simp[ho',Op.operands])).trans hx)
  have hv':a.eval x= .pointer (some ⟨E.blk b,off,none⟩):=hv;obtain⟨j,hj,hjs⟩:=Option.map_eq_some_iff.1 hp.s;obtain⟨cs,hcs,hall⟩:=hs.hp b _ (hrd b _ List.mem_cons_self);have hlen:=hall.length;have hlt:off < cs.length:=by rw[←hlen];simpa using ho
  have h:=Lib.run_to_unsafe (P:=P) w (dst:=t') ⟨E.blk b,off,none⟩ hp.h hu.h hj (fun h0=>by rw[h0]at hjs;cases hjs) (aal hcs) hlt
  refine⟨fun i hi=>hids i hi,_,?_,rfl⟩
  unfold execOp;rw[ho'];simp[hv',h]) next
theorem Go1.apy{b off m:Nat}{T:TypeId}{cells:List Atom}[hu:TUns P t][hp:adw P t' e](hd:ay dst C.nt=true)(hx:st.ev x=some (.ptr b off))(hb:st.hp b= .ent (.box T cells))(hl:cells.length=m)
  (hlies:liesAt P P.depth T (m / P.cellsOf T) off e 1=true) (next:Reg P C ops rest (st.app dst ⟨.ptr b off,[]⟩) (([b],[])::acc) K):Go1 P C ops dst (.convert t t' x) ty rest st acc K:=
 Go1.cK [(b,.box T cells)] [b] (fun c e' hc=>by simp at hc;simp[hc.1]) hd (fun c e' hc=>by simp at hc;rw[hc.1,hc.2];exact hb) (fun o ho' _ st' E S a w hev hs hrd=>by
  obtain⟨hv,hids⟩:=hs.ev ((hev x (by simp[ho',Op.operands])).trans hx)
  have hv':a.eval x= .pointer (some ⟨E.blk b,off,none⟩):=hv;obtain⟨j,hj,hjs⟩:=Option.map_eq_some_iff.1 hp.s;obtain⟨cs,hcs,hall⟩:=hs.hp b _ (hrd b _ List.mem_cons_self);have hlen:=hall.length;have h:=Lib.run_from_unsafe (P:=P) w (src:=t) ⟨E.blk b,off,none⟩ hu.h hp.h hj (aal hcs) (by rw[←hlen,hl];exact hlies)
  refine⟨fun i hi=>hids i hi,_,?_,rfl⟩
  unfold execOp;rw[ho'];simp[hv',h]) next
theorem Go1.alS{f:FuncId}{b off:Nat}{as:Array Operand}{tys:Array TypeId}(ha:evs st as.toList=some [.ptr b off])(hc:∀v w,(callFunc f #[v]).run P w= .ok (.value v) w)(hd:ay dst C.nt=true)
  (next:Reg P C ops rest (st.app dst ⟨.ptr b off,[]⟩) (([],[])::acc) K):Go1 P C ops dst (.call ⟨.value (.func f),as,tys⟩) ty rest st acc K:=
 Go1.cK [] [] (by simp) hd (by simp) (fun o ho _ st' E S a w hev hs _=>by
  have hop:o.op.operands= #[.func f]++as:=by rw[ho];rfl
  have ha':evs st' as.toList=some [.ptr b off]:=by rw[iq (fun x hx=>hev x (by rw[hop];simp at hx;simp[hx]))];exact ha
  obtain⟨hall,hids⟩:=kK hs ha'
  match hm:as.toList.map a.eval,hall with
  |[v],hh=>
   have hv:v= .pointer (some ⟨E.blk b,off,none⟩):=hh.1;have har:as.map a.eval= #[v]:=by apply Array.ext';simpa using hm
   refine⟨fun i hi=>hids _ List.mem_cons_self i hi,v,?_,hv⟩
   unfold execOp;rw[ho];have he:a.eval (.func f)= .func (.func f) #[] #[]:=rfl;have:=hc v w;simp[resolve,he,Deferred.ofValue,invoke,har,this]) next
theorem adn{S:Nat→Prop}{w:World}:∀l:List UInt8,aI (CA.has S w) (l.flatMap jA) (Lib.strCells ⟨⟨l⟩⟩)
 |[]=>trivial
 |b::l=>⟨rfl,adn l⟩
theorem ad3{S:Nat→Prop}{w:World}:∀{l:List UInt8} {vs:List Value},aI (CA.has S w) (l.flatMap jA) vs→vs=l.map fun b=>Value.int .u8 b.toNat
 |[],[],_=>rfl
 |b::l,v::vs,h=>by
  have h1:v= .int .u8 b.toNat:=h.1;rw[h1,ad3 (l:=l) h.2];rfl
 |[],_::_,h=>h.elim
 |_::_,[],h=>h.elim
class alq(P:Program)(e:TypeId):Prop where
 h:(P.info? e).map (fun i=>(i.zero,i.size,i.bytes))=some (some (.int .u8 0),1,1)
theorem wD(w:World)(t u ty e:TypeId)(ht:P.underlying t=some (.slice e))(hu:P.underlying u=some .string)(he:alq P e)(v:Value)(n:Nat)(xs:List Value)(hown:w.ownsRow 0 e 1 v n xs)(s:ByteArray)(hbytes:n+s.size≤140737488355328):
  ∃v' w',(Builtin.append_ #[t,u] ty #[v,.string s]).run P w= .ok v' w'∧w'.ownsRow 0 e 1 v' (n+s.size) (xs++Lib.strCells s)∧w.grownBy w' v.ownBlock∧∀k,v'.ownBlock=some k→v.ownBlock=some k∨w.heap.size≤k:=by
 obtain⟨i,hi,hn⟩:=Option.map_eq_some_iff.1 he.h;simp only[Prod.mk.injEq]at hn;obtain⟨hz,hsize,hby⟩:=hn;have hbase:0≤w.heap.size:=Nat.zero_le _;obtain⟨v',w',hr,h1,h2,h3⟩:=Lib.run_append_own_string (P:=P) w 0 t u ty e i ht hu hi hz hsize hby v n xs hown s (by unfold maxLen;omega) hbytes hbase
 refine⟨v',w',hr,h1,h2,fun k hk=>?_⟩
 have hxl:xs.length=n:=by simpa using hown.1
 rcases hown.2 with⟨rfl,rfl⟩|⟨g,cap,cur,rfl,hbg,hg,hnc,hcm,hcs,htake⟩
 ·by_cases hm:s.size=0
  ·have hf:=Lib.run_firstCells_string (P:=P) w 1 s;rw[hm]at hf;have hr':(Builtin.append_ #[t,u] ty #[.slice none 0 0,.string s]).run P w= .ok (.slice none 0 0) w:=by
    simp[Builtin.append_,run_underlying ht,run_underlying hu,Go.sizeOf,typeInfo,hi,hsize,Builtin.lenOf,hm,hf]
   rw[hr']at hr;cases hr;cases hk
  ·have hr':=run_append_nil_string (P:=P) w t u ty e i (.int .u8 0) ht hu hi hz s (by omega) (by omega) (by rw[hby];omega)
   rw[hr']at hr;cases hr;simp[Value.ownBlock]at hk;right;omega
 ·by_cases hroom:n+s.size≤cap
  ·have hcs':cur.size=cap:=by simpa using hcs
   have hr':=Lib.run_append_room_string (P:=P) w t u ty e i ht hu hi hsize g n cap cur hg s hroom (by omega)
   rw[hr']at hr;cases hr;exact .inl hk
  ·have holds:∀j u,xs[j]? =some u→w.cell? ((⟨g,0,none⟩:Addr).add j)=some u:=hown.cells (g:=g) rfl;have hr':=Lib.run_append_grow_string (P:=P) w t u ty e i (.int .u8 0) ht hu hi hz ⟨g,0,none⟩ n cap xs (by rw[hsize];simpa using hxl) holds s (by omega) (by unfold maxLen at hcm;omega) (by rw[hby];exact growslice_fits (by omega) (by omega))
   rw[hr']at hr;cases hr;simp[Value.ownBlock]at hk;right;omega
theorem G.agl{b n:Nat}{cells:List CA}{l:List UInt8}[ht:aZ P t e 1][hu:yY P t'][he:alq P e](next:Reg P C ops rest (st.app (some d) ⟨.own d,[(b,.gone),(d,.ent (.row e 1 (n+l.length) (cells++l.flatMap jA)))]⟩) (([b,d],[b,d])::acc) K)(hd:ay (some d) C.nt=true:=by rfl)(hx:st.ev x=some (.own b):=by rfl)(hy:st.ev y=some (.v (str l)):=by rfl)
  (hb:st.hp b= .ent (.row e 1 n cells):=by rfl) (hf:st.hp d= .free:=by rfl) (hbytes:n+l.length≤140737488355328:=by omega):Go1 P C ops (some d) (.call ⟨.builtin .append,#[x,y],#[t,t']⟩) ty rest st acc K:=by
 have hbd:d≠b:=by rintro rfl;rw[hf]at hb;cases hb
 refine⟨[b,d],_,fun o h2 h3 h4=>aT.eff [] [(b,.row e 1 n cells)] (fun c hc=>?_) (h2▸dD hd) (fun c e hc=>by cases hc) (fun c e hc=>?_) (fun c s hc=>?_) (fun c s hc=>?_) (fun st' E S a w hev hhp hs _ hpre=>?_),next⟩
 ·rcases hc with⟨e,hc⟩|⟨e,hc⟩|⟨s,hc⟩
  ·cases hc
  ·simp at hc;simp[hc.1]
  ·simp at hc;rcases hc with hc|hc <;> simp[hc.1]
 ·simp at hc;obtain⟨rfl,rfl⟩:=hc;exact⟨hb,_,List.mem_cons_self⟩
 ·simp at hc;rcases hc with⟨rfl,rfl⟩|⟨rfl,rfl⟩
  ·exact .inl ⟨_,List.mem_cons_self⟩
  ·exact .inr hf
 ·simp at hc;rcases hc with⟨rfl,rfl⟩|⟨rfl,rfl⟩ <;> rfl
 ·obtain⟨⟨hxv,_⟩,_⟩:=hs.ev ((hev x (by simp[h3,Op.operands,Call.operands])).trans hx)
  have hyv:a.eval y=str l:=(hs.ev ((hev y (by simp[h3,Op.operands,Call.operands])).trans hy)).1
  have hbe:=hpre b _ List.mem_cons_self;obtain⟨vs,hown,hvs⟩:=hs.hp b _ hbe;have hsz:(⟨⟨l⟩⟩:ByteArray).size=l.length:=rfl;obtain⟨v',w',h5,h6,h7,h8⟩:=wD (P:=P) w t t' o.type e ht.h hu.h he (E.sl b) n vs hown ⟨⟨l⟩⟩ (by rw[hsz];exact hbytes)
  rw[hsz]at h6;refine⟨⟨fun i hi=>?_,fun c e hc i hi=>?_⟩,fun K Q hK=>?_⟩
  ·simp[AV.ids,AV0.ids,Atom.ids]at hi;subst hi;simp[eX,Slot.used]
  ·simp at hc
   obtain⟨rfl,rfl⟩:=hc;cases hi
  ·have hE:=Eff.row (E:=E) (S:=S) (b:=d) (pre:=[(b,.row e 1 n cells)]) (gones:=[(b,.gone)]) hs.lt
    (fun c e' k hc hk=>by simp at hc;obtain⟨rfl,rfl⟩:=hc;exact(hs.blk _ _ k hbe hk).1)
    (fun e' hc=>by simp at hc;exact hbd hc.1)
    (fun c s hc=>by simp at hc;obtain⟨rfl,rfl⟩:=hc;exact⟨rfl,_,List.mem_cons_self⟩)
    (mZ h7 (fun k hk=>⟨b,_,List.mem_cons_self,hk⟩)) h6 (acU hvs (adn l))
    (fun k hk=>(h8 k hk).imp (fun h=>⟨b,_,List.mem_cons_self,h⟩) id)
   unfold Oper.wp;have hrun:(execOp a.eval o).run P w= .ok (.value v') w':=by
    unfold execOp;rw[h3];simp[resolve,invoke,builtin,hxv,hyv,h5]
   rw[hrun];exact hK _ _ _ _ hE
theorem G.yI{b n:Nat}{cells:List CA}(next:Reg P C ops rest (st.app dst ⟨.it (.one (.rptr b 0)),[]⟩) (([b],[])::acc) K)(hd:ay dst C.nt=true:=by rfl)(hx:st.ev x=some (.own b):=by rfl)(hb:st.hp b= .ent (.row e size n cells):=by rfl)(h0:0 < n:=by omega):Go1 P C ops dst (.call ⟨.builtin .unsafeSliceData,#[x],#[t]⟩) ty rest st acc K:=
 Go1.cK [(b,.row e size n cells)] [b] (fun c e' hc=>by simp at hc;simp[hc.1]) hd (fun c e' hc=>by simp at hc;rw[hc.1,hc.2];exact hb) (fun o ho _ st' E S a w hev hs hrd=>by
  obtain⟨⟨hv,_⟩,hids⟩:=hs.ev ((hev x (by simp[ho,Op.operands,Call.operands])).trans hx)
  obtain⟨vs,hown,hvs⟩:=hs.hp b _ (hrd b _ List.mem_cons_self);rcases hown.2 with⟨_,hz⟩|⟨g,cap,cur,hsl,_,hg,hnc,_⟩
  ·omega
  ·have h:=Lib.run_unsafeSliceData_row (P:=P) w #[t] o.type ⟨g,0,none⟩ n cap (by omega)
   refine⟨fun j hj=>hids j hj,.pointer (some ⟨g,0,none⟩),?_,⟨g,n,cap,hsl,rfl⟩⟩
   unfold execOp;rw[ho];simp[resolve,invoke,builtin,hv,hsl,h]) next
class akd(P:Program)(e:TypeId):Prop where
 c:P.cellsOf e=1
theorem G.yN{b n:Nat}{l:List UInt8}[hp:adw P t e][hc:akd P e](next:Reg P C ops rest (st.app dst ⟨.v (str l),[(b,.gone)]⟩) (([b],[b])::acc) K)(hd:ay dst C.nt=true:=by rfl)(hx:st.ev x=some (.it (.one (.rptr b 0))):=by rfl)(hy:st.ev y=some (.v (.int .i64 (n:Int))):=by rfl)
  (hb:st.hp b= .ent (.row e 1 n (l.flatMap jA)):=by rfl) (h0:0 < n:=by omega):Go1 P C ops dst (.call ⟨.builtin .unsafeString,#[x,y],#[t,t']⟩) ty rest st acc K:=by
 refine⟨[b],_,fun o h2 h3 h4=>aT.eff [] [(b,.row e 1 n (l.flatMap jA))] (fun c hc=>?_) (h2▸dD hd) (fun c e hc=>by cases hc) (fun c e hc=>?_) (fun c s hc=>?_) (fun c s hc=>?_) (fun st' E S a w hev hhp hs _ hpre=>?_),next⟩
 ·rcases hc with⟨e,hc⟩|⟨e,hc⟩|⟨s,hc⟩
  ·cases hc
  ·simp at hc;simp[hc.1]
  ·simp at hc;simp[hc.1]
 ·simp at hc;obtain⟨rfl,rfl⟩:=hc;exact⟨hb,_,List.mem_cons_self⟩
 ·simp at hc;obtain⟨rfl,rfl⟩:=hc;exact .inl ⟨_,List.mem_cons_self⟩
 ·simp at hc;obtain⟨rfl,rfl⟩:=hc;rfl
 ·have hx0:∃g n cap,E.sl b= .slice (some ⟨g,0,none⟩) n cap∧a.eval x= .pointer (some ⟨g,0,none⟩):=(hs.ev ((hev x (by simp[h3,Op.operands,Call.operands])).trans hx)).1
  obtain⟨g',n',cap',hsl',hxv⟩:=hx0;have hyv:a.eval y= .int .i64 (n:Int):=(hs.ev ((hev y (by simp[h3,Op.operands,Call.operands])).trans hy)).1
  have hbe:=hpre b _ List.mem_cons_self;obtain⟨vs,hown,hvs⟩:=hs.hp b _ hbe;have hv:=ad3 hvs;subst hv;have hl:l.length=n:=by have:=hown.1;simpa using this
  rcases hown.2 with⟨_,hz⟩|⟨g,cap,cur,hsl,_,hg,hnc,hcm,hcs,htk⟩
  ·omega
  ·have hgg:g'=g:=by rw[hsl]at hsl';injection hsl' with q1 q2 q3;injection q1 with q1;injection q1 with q1;exact q1.symm
   subst hgg;have hne:l≠[]:=by rintro rfl;simp at hl;omega
   have hcell:∀j x,l[j]? =some x→w.cell? ((⟨g',0,none⟩:Addr).add j)=some (.int .u8 x.toNat):=fun j u hu=>by
    have hown':=hown;rw[hsl]at hown';exact hown'.cells (g:=g') rfl j _ (by simp[hu])
   have h:=Lib.run_unsafeString_row (P:=P) w t t' o.type e hp.h hc.c g' cur.size (by simp[World.shape?,hg]) l hne (by rw[hl];simp at hcs;omega) (by unfold maxLen at hcm;omega) hcell
   rw[hl]at h;refine⟨⟨fun i hi=>(by cases hi),fun c e' hc i hi=>(by simp at hc)⟩,fun K Q hK=>?_⟩
   unfold Oper.wp;have hrun:(execOp a.eval o).run P w= .ok (.value (str l)) (w.freeze ⟨g',0,none⟩ n):=by
    unfold execOp;rw[h3];simp[resolve,invoke,builtin,hxv,hyv,h]
   rw[hrun];have hat:∀k,(Ent.row e 1 n (l.flatMap jA)).at E b k↔k=g':=fun k=>by
    show (E.sl b).ownBlock=some k↔_;rw[hsl];simp[Value.ownBlock];exact eq_comm
   have ho:Off (fun k=>∃c e',(c,e')∈[(b,Ent.row e 1 n (l.flatMap jA))]∧e'.at E c k) w (w.freeze ⟨g',0,none⟩ n):=by
    have hn0:n≠0:=by omega
    unfold World.freeze;rw[if_neg hn0];refine⟨rfl,rfl,rfl,by simp,fun k hk hn=>?_⟩
    have hkg:k≠g':=fun e=>hn ⟨b,_,List.mem_cons_self,(hat k).2 e⟩
    simp only[];rw[Array.getElem?_modify,if_neg (fun e=>hkg e.symm)]
   refine hK (str l) _ E S {env:=fun _ _=>⟨rfl,rfl⟩,fpe:=fun _ _=>rfl,sub:=fun _ h=>h,new:=fun _ h=> .inl h,lt:=fun k hk=>Nat.lt_of_lt_of_le (hs.lt k hk) ho.size,off:=ho,res:=rfl,ents:=fun i e hi=>?_,blk:=fun i e k hi hk=>?_,sep:=fun i i' e e' k hne hi=>?_}
   ·simp at hi
   ·simp at hi
   ·simp at hi
end
structure HeldG(q:Prop):Prop where
 out:q
end
section
section
variable{P:Program}{C:Ctx}{st:St}
variable{ops rest:List Oper}{acc:List (List Nat×List Nat)}{K:List (List Nat×List Nat)→St→Prop}{dst:Option Tmp}{d:Tmp}{op:Op}{ty t t':TypeId}{x y z:Operand}
theorem G.akF{b off:Nat}{T:TypeId}{cells:List Atom}{a1 a2 a3 a4 a5 a6 a7 a8 a9 a10 a11 a12 a13 a14 a15:Atom}[ht:gF P t 15](next:Reg P C ops rest (st.app (some d) ⟨.agg [a1,a2,a3,a4,a5,a6,a7,a8,a9,a10,a11,a12,a13,a14,a15],[]⟩) (([b],[])::acc) K)(hd:ay (some d) C.nt=true:=by rfl)(hx:st.ev x=some (.ptr b off):=by rfl)(hb:st.hp b= .ent (.box T cells):=by rfl)(hr:(cells.drop off).take 15=[a1,a2,a3,a4,a5,a6,a7,a8,a9,a10,a11,a12,a13,a14,a15]:=by rfl):Go1 P C ops (some d) (.load t x) ty rest st acc K:=
 Go1.wJ hd hx hb (by have:=congrArg List.length hr;simp at this;rw[Nat.ble_eq];omega) hr next
theorem G.agR{c1 c2 c3 c4 c5 c6 c7 c8 c9 c10 c11 c12 c13 c14 c15:CA}{cells:List CA}[ht:gF P t 15](next:Reg P C ops rest (st.app dst ⟨.agg [.c c1,.c c2,.c c3,.c c4,.c c5,.c c6,.c c7,.c c8,.c c9,.c c10,.c c11,.c c12,.c c13,.c c14,.c c15],[]⟩) (([],[])::acc) K)(hd:ay dst C.nt=true:=by rfl)(hx:st.ev x=some (.r (bR cells)):=by rfl)(hl:cells=[c1,c2,c3,c4,c5,c6,c7,c8,c9,c10,c11,c12,c13,c14,c15]:=by rfl):Go1 P C ops dst (.load t x) ty rest st acc K:=by
 subst hl;exact Go1.tX hd hx rfl next
theorem G.agN{pl:List (Nat×Nat)}{zs:List Value}{parts:Array (Nat×Operand)}{ps:List (Nat×AV0)}{a1 a2 a3 a4 a5 a6 a7 a8 a9 a10 a11 a12 a13 a14 a15:Atom}[ht:dI P t pl][hz:fE P t zs](next:Reg P C ops rest (st.app (some d) ⟨.agg [a1,a2,a3,a4,a5,a6,a7,a8,a9,a10,a11,a12,a13,a14,a15],[]⟩) (([],[])::acc) K)(hd:ay (some d) C.nt=true:=by rfl)(hp:evp st parts.toList=some ps:=by rfl)(h1:(ps.all fun p=>p.2.cells.all Atom.dS)=true:=by rfl)(hf:eT pl (zs.map fun v=>Atom.c (.val v)) ps=some [a1,a2,a3,a4,a5,a6,a7,a8,a9,a10,a11,a12,a13,a14,a15]:=by rfl):Go1 P C ops (some d) (.build t parts) ty rest st acc K:=
 Go1.build hd hp h1 hf next
theorem aj.gK{t:Tmp}{T T':TypeId}{b off:Nat}{cells:List Atom}{a1 a2 a3 a4 a5 a6 a7 a8 a9 a10 a11 a12 a13 a14 a15:Atom}[ht:gF P T 15](h:st.tm t=some (.ptr b off))(hb:st.hp b= .ent (.box T' cells))(hr:(cells.drop off).take 15=[a1,a2,a3,a4,a5,a6,a7,a8,a9,a10,a11,a12,a13,a14,a15]):aj P st (.cell t T) (.agg [a1,a2,a3,a4,a5,a6,a7,a8,a9,a10,a11,a12,a13,a14,a15]):=
 aj.agg h hb (by have:=congrArg List.length hr;simp at this;rw[Nat.ble_eq];omega) hr
end
end
end SX