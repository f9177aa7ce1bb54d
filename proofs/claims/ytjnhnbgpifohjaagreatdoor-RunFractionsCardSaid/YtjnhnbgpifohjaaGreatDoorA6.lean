import Derived.Test.YtjnhnbgpifohjaaGreatDoorA5
import Derived.Lib.Builder
import Derived.Lib.AppendStr
import Derived.Lib.UnsafeStr
import Derived.Lib.SliceRun
import Derived.MapKept
set_option linter.unusedVariables false
set_option linter.unusedSimpArgs false
namespace SX
open Go Go.RowKit
section
section
variable{P:Program}{C:Ctx}{st:St}
variable{ops rest:List Oper}{acc:List (List Nat×List Nat)}{K:List (List Nat×List Nat)→St→Prop}{dst:Option Tmp}{d:Tmp}{op:Op}{ty t t' t'' e:TypeId}{x y:Operand}{k:IntKind}{n size:Nat}
class aek(P:Program)(t:TypeId)(e:outParam TypeId):Prop where
 h:P.underlying t=some (.pointer e)
 s:(P.info? e).map (fun j=>Nat.beq j.size 0)=some false
theorem G.arC[hp:aek P t e](next:Reg P C ops rest (st.app dst ⟨.v (.bool true),[]⟩) (([],[])::acc) K)(hd:aC dst C.nt=true:=by rfl)(hx:st.ev x=some (.v (.pointer none)):=by rfl)(hy:st.ev y=some (.v (.pointer none)):=by rfl):Go1 P C ops dst (.binOp .eql t x y t') ty rest st acc K:=
 Go1.p8 hd rfl hx hy (fun ρ o w ho h1 h2=>by
  unfold execOp;rw[ho];have h:∀d:Nat,(Op.equalIn (d+1) t (.pointer none) (.pointer none)).run P w= .ok true w:=fun d=>by
   simp[Op.equalIn,run_underlying hp.h]
  simp[h1,h2,eqGuard,binOp,Op.equal,Op.maxDepth,h 9999]) next
theorem G.aqY{b off:Nat}[hp:aek P t e](next:Reg P C ops rest (st.app dst ⟨.v (.bool false),[]⟩) (([],[])::acc) K)(hd:aC dst C.nt=true:=by rfl)(hx:st.ev x=some (.ptr b off):=by rfl)(hy:st.ev y=some (.v (.pointer none)):=by rfl):Go1 P C ops dst (.binOp .eql t x y t') ty rest st acc K:=
 Go1.bY [] [] (by simp) hd (by simp) (fun o ho _ st' E S a w hev hs _=>by
  have hv':a.eval x= .pointer (some ⟨E.blk b,off,none⟩):=(hs.ev ((hev x (by simp[ho,Op.operands])).trans hx)).1
  have hyv:a.eval y= .pointer none:=(hs.ev ((hev y (by simp[ho,Op.operands])).trans hy)).1
  refine⟨fun j hj=>(by cases hj),.bool false,?_,rfl⟩
  unfold execOp;rw[ho];have h:∀d:Nat,(Op.equalIn (d+1) t (.pointer (some ⟨E.blk b,off,none⟩)) (.pointer none)).run P w= .ok false w:=fun d=>by
   simp[Op.equalIn,run_underlying hp.h]
  simp[hv',hyv,eqGuard,binOp,Op.equal,Op.maxDepth,h 9999]) next
theorem G.aru{b off:Nat}[hp:aek P t e](next:Reg P C ops rest (st.app dst ⟨.v (.bool false),[]⟩) (([],[])::acc) K)(hd:aC dst C.nt=true:=by rfl)(hx:st.ev x=some (.ptr b off):=by rfl)(hy:st.ev y=some (.ptr b off):=by rfl):Go1 P C ops dst (.binOp .neq t x y t') ty rest st acc K:=
 Go1.bY [] [] (by simp) hd (by simp) (fun o ho _ st' E S a w hev hs _=>by
  have hv':a.eval x= .pointer (some ⟨E.blk b,off,none⟩):=(hs.ev ((hev x (by simp[ho,Op.operands])).trans hx)).1
  have hyv:a.eval y= .pointer (some ⟨E.blk b,off,none⟩):=(hs.ev ((hev y (by simp[ho,Op.operands])).trans hy)).1
  obtain⟨j,hj,_⟩:=Option.map_eq_some_iff.1 hp.s;refine⟨fun j hj=>(by cases hj),.bool false,?_,rfl⟩
  have h:=Lib.run_neq_ptr_same (P:=P) w ⟨E.blk b,off,none⟩ hp.h hj;unfold execOp;rw[ho];simp[hv',hyv,eqGuard,h]) next
class TUns(P:Program)(t:TypeId):Prop where
 h:P.underlying t=some .unsafePointer
theorem abR{w:World}{g:Nat}{cs:List Value}{T:TypeId}(h:w.heap[g]? =some (.cells cs.toArray T (0,0))):w.shape? g=some (T,cs.length):=by
 simp[World.shape?,h]
theorem G.anr{b off:Nat}{T:TypeId}{cells:List Atom}[hp:aek P t e][hu:TUns P t'](next:Reg P C ops rest (st.app dst ⟨.ptr b off,[]⟩) (([b],[])::acc) K)(hd:aC dst C.nt=true:=by rfl)(hx:st.ev x=some (.ptr b off):=by rfl)
  (hb:st.hp b= .ent (.box T cells):=by rfl) (ho:Nat.blt off cells.length=true:=by rfl):Go1 P C ops dst (.convert t t' x) ty rest st acc K:=
 Go1.bY [(b,.box T cells)] [b] (fun c e' hc=>by simp at hc;simp[hc.1]) hd (fun c e' hc=>by simp at hc;rw[hc.1,hc.2];exact hb) (fun o ho' _ st' E S a w hev hs hrd=>by
  obtain⟨hv,hids⟩:=hs.ev ((hev x (by simp[ho',Op.operands])).trans hx)
  have hv':a.eval x= .pointer (some ⟨E.blk b,off,none⟩):=hv;obtain⟨j,hj,hjs⟩:=Option.map_eq_some_iff.1 hp.s;obtain⟨cs,hcs,hall⟩:=hs.hp b _ (hrd b _ List.mem_cons_self);have hlen:=hall.length;have hlt:off < cs.length:=by rw[←hlen];simpa using ho
  have h:=Lib.run_to_unsafe (P:=P) w (dst:=t') ⟨E.blk b,off,none⟩ hp.h hu.h hj (fun h0=>by rw[h0]at hjs;cases hjs) (abR hcs) hlt
  refine⟨fun i hi=>hids i hi,_,?_,rfl⟩
  unfold execOp;rw[ho'];simp[hv',h]) next
theorem Go1.arQ{b off m:Nat}{T:TypeId}{cells:List Atom}[hu:TUns P t][hp:aek P t' e](hd:aC dst C.nt=true)(hx:st.ev x=some (.ptr b off))(hb:st.hp b= .ent (.box T cells))(hl:cells.length=m)
  (hlies:liesAt P P.depth T (m / P.cellsOf T) off e 1=true) (next:Reg P C ops rest (st.app dst ⟨.ptr b off,[]⟩) (([b],[])::acc) K):Go1 P C ops dst (.convert t t' x) ty rest st acc K:=
 Go1.bY [(b,.box T cells)] [b] (fun c e' hc=>by simp at hc;simp[hc.1]) hd (fun c e' hc=>by simp at hc;rw[hc.1,hc.2];exact hb) (fun o ho' _ st' E S a w hev hs hrd=>by
  obtain⟨hv,hids⟩:=hs.ev ((hev x (by simp[ho',Op.operands])).trans hx)
  have hv':a.eval x= .pointer (some ⟨E.blk b,off,none⟩):=hv;obtain⟨j,hj,hjs⟩:=Option.map_eq_some_iff.1 hp.s;obtain⟨cs,hcs,hall⟩:=hs.hp b _ (hrd b _ List.mem_cons_self);have hlen:=hall.length;have h:=Lib.run_from_unsafe (P:=P) w (src:=t) ⟨E.blk b,off,none⟩ hu.h hp.h hj (abR hcs) (by rw[←hlen,hl];exact hlies)
  refine⟨fun i hi=>hids i hi,_,?_,rfl⟩
  unfold execOp;rw[ho'];simp[hv',h]) next
theorem Go1.ala{f:FuncId}{b off:Nat}{as:Array Operand}{tys:Array TypeId}(ha:evs st as.toList=some [.ptr b off])(hc:∀v w,(callFunc f #[v]).run P w= .ok (.value v) w)(hd:aC dst C.nt=true)
  (next:Reg P C ops rest (st.app dst ⟨.ptr b off,[]⟩) (([],[])::acc) K):Go1 P C ops dst (.call ⟨.value (.func f),as,tys⟩) ty rest st acc K:=
 Go1.bY [] [] (by simp) hd (by simp) (fun o ho _ st' E S a w hev hs _=>by
  have hop:o.op.operands= #[.func f]++as:=by rw[ho];rfl
  have ha':evs st' as.toList=some [.ptr b off]:=by rw[gy (fun x hx=>hev x (by rw[hop];simp at hx;simp[hx]))];exact ha
  obtain⟨hall,hids⟩:=j5 hs ha'
  match hm:as.toList.map a.eval,hall with
  |[v],hh=>
   have hv:v= .pointer (some ⟨E.blk b,off,none⟩):=hh.1;have har:as.map a.eval= #[v]:=by apply Array.ext';simpa using hm
   refine⟨fun i hi=>hids _ List.mem_cons_self i hi,v,?_,hv⟩
   unfold execOp;rw[ho];have he:a.eval (.func f)= .func (.func f) #[] #[]:=rfl;have:=hc v w;simp[resolve,he,Deferred.ofValue,invoke,har,this]) next
theorem af9{S:Nat→Prop}{w:World}:∀l:List UInt8,aI (CA.has S w) (l.flatMap jR) (Lib.strCells ⟨⟨l⟩⟩)
 |[]=>trivial
 |b::l=>⟨rfl,af9 l⟩
theorem aeP{S:Nat→Prop}{w:World}:∀{l:List UInt8} {vs:List Value},aI (CA.has S w) (l.flatMap jR) vs→vs=l.map fun b=>Value.int .u8 b.toNat
 |[],[],_=>rfl
 |b::l,v::vs,h=>by
  have h1:v= .int .u8 b.toNat:=h.1;rw[h1,aeP (l:=l) h.2];rfl
 |[],_::_,h=>h.elim
 |_::_,[],h=>h.elim
class aos(P:Program)(e:TypeId):Prop where
 h:(P.info? e).map (fun i=>(i.zero,i.size,i.bytes))=some (some (.int .u8 0),1,1)
theorem yu(w:World)(t u ty e:TypeId)(ht:P.underlying t=some (.slice e))(hu:P.underlying u=some .string)(he:aos P e)(v:Value)(n:Nat)(xs:List Value)(hown:w.ownsRow 0 e 1 v n xs)(s:ByteArray)(hbytes:n+s.size≤140737488355328):
  ∃v' w',(Builtin.append_ #[t,u] ty #[v,.string s]).run P w= .ok v' w'∧w'.ownsRow 0 e 1 v' (n+s.size) (xs++Lib.strCells s)∧w.grownBy w' v.ownBlock∧∀k,v'.ownBlock=some k→v.ownBlock=some k∨w.heap.size≤k:=by
 obtain⟨i,hi,hn⟩:=Option.map_eq_some_iff.1 he.h;simp only[Prod.mk.injEq]at hn;obtain⟨hz,hsize,hby⟩:=hn;have hbase:0≤w.heap.size:=Nat.zero_le _;obtain⟨v',w',hr,h1,h2,h3⟩:=Lib.run_append_own_string (P:=P) w 0 t u ty e i ht hu hi hz hsize hby v n xs hown s (by unfold maxLen;omega) hbytes hbase
 refine⟨v',w',hr,h1,h2,fun k hk=>?_⟩
 have hxl:xs.length=n:=by simpa using hown.1
 rcases hown.2 with⟨rfl,rfl⟩|⟨g,cap,cur,rfl,hbg,hg,hnc,hcm,hcs,htake⟩
 ·by_cases hm:s.size=0
  ·have hf:=Lib.run_firstCells_string (P:=P) w 1 s;rw[hm]at hf;have hr':(Builtin.append_ #[t,u] ty #[.slice none 0 0,.string s]).run P w= .ok (.slice none 0 0) w:=by
    simp[Builtin.append_,run_underlying ht,run_underlying hu,Go.sizeOf,typeInfo,hi,hsize,Builtin.lenOf,hm,hf]
   rw[hr']at hr;cases hr;cases hk
  ·have hr':=run_append_nil_string (P:=P) w t u ty e i (.int .u8 0) ht hu hi hz s (by omega) (by omega) (by rw[hby];omega)
   rw[hr']at hr;cases hr;simp[Value.ownBlock]at hk;right;omega
 ·by_cases hroom:n+s.size≤cap
  ·have hcs':cur.size=cap:=by simpa using hcs
   have hr':=Lib.run_append_room_string (P:=P) w t u ty e i ht hu hi hsize g n cap cur hg s hroom (by omega)
   rw[hr']at hr;cases hr;exact .inl hk
  ·have holds:∀j u,xs[j]? =some u→w.cell? ((⟨g,0,none⟩:Addr).add j)=some u:=hown.cells (g:=g) rfl;have hr':=Lib.run_append_grow_string (P:=P) w t u ty e i (.int .u8 0) ht hu hi hz ⟨g,0,none⟩ n cap xs (by rw[hsize];simpa using hxl) holds s (by omega) (by unfold maxLen at hcm;omega) (by rw[hby];exact growslice_fits (by omega) (by omega))
   rw[hr']at hr;cases hr;simp[Value.ownBlock]at hk;right;omega
theorem G.aii{b n:Nat}{cells:List CA}{l:List UInt8}[ht:bg P t e 1][hu:zZ P t'][he:aos P e](next:Reg P C ops rest (st.app (some d) ⟨.own d,[(b,.gone),(d,.ent (.row e 1 (n+l.length) (cells++l.flatMap jR)))]⟩) (([b,d],[b,d])::acc) K)(hd:aC (some d) C.nt=true:=by rfl)(hx:st.ev x=some (.own b):=by rfl)(hy:st.ev y=some (.v (str l)):=by rfl)
  (hb:st.hp b= .ent (.row e 1 n cells):=by rfl) (hf:st.hp d= .free:=by rfl) (hbytes:n+l.length≤140737488355328:=by omega):Go1 P C ops (some d) (.call ⟨.builtin .append,#[x,y],#[t,t']⟩) ty rest st acc K:=by
 have hbd:d≠b:=by rintro rfl;rw[hf]at hb;cases hb
 refine⟨[b,d],_,fun o h2 h3 h4=>aY.eff [] [(b,.row e 1 n cells)] (fun c hc=>?_) (h2▸bZ hd) (fun c e hc=>by cases hc) (fun c e hc=>?_) (fun c s hc=>?_) (fun c s hc=>?_) (fun st' E S a w hev hhp hs _ hpre=>?_),next⟩
 ·rcases hc with⟨e,hc⟩|⟨e,hc⟩|⟨s,hc⟩
  ·cases hc
  ·simp at hc;simp[hc.1]
  ·simp at hc;rcases hc with hc|hc <;> simp[hc.1]
 ·simp at hc;obtain⟨rfl,rfl⟩:=hc;exact⟨hb,_,List.mem_cons_self⟩
 ·simp at hc;rcases hc with⟨rfl,rfl⟩|⟨rfl,rfl⟩
  ·exact .inl ⟨_,List.mem_cons_self⟩
  ·exact .inr hf
 ·simp at hc;rcases hc with⟨rfl,rfl⟩|⟨rfl,rfl⟩ <;> rfl
 ·obtain⟨⟨hxv,_⟩,_⟩:=hs.ev ((hev x (by simp[h3,Op.operands,Call.operands])).trans hx)
  have hyv:a.eval y=str l:=(hs.ev ((hev y (by simp[h3,Op.operands,Call.operands])).trans hy)).1
  have hbe:=hpre b _ List.mem_cons_self;obtain⟨vs,hown,hvs⟩:=hs.hp b _ hbe;have hsz:(⟨⟨l⟩⟩:ByteArray).size=l.length:=rfl;obtain⟨v',w',h5,h6,h7,h8⟩:=yu (P:=P) w t t' o.type e ht.h hu.h he (E.sl b) n vs hown ⟨⟨l⟩⟩ (by rw[hsz];exact hbytes)
  rw[hsz]at h6;refine⟨⟨fun i hi=>?_,fun c e hc i hi=>?_⟩,fun K Q hK=>?_⟩
  ·simp[AV.ids,AV0.ids,Atom.ids]at hi;subst hi;simp[fq,Slot.used]
  ·simp at hc
   obtain⟨rfl,rfl⟩:=hc;cases hi
  ·have hE:=Eff.row (E:=E) (S:=S) (b:=d) (pre:=[(b,.row e 1 n cells)]) (gones:=[(b,.gone)]) hs.lt
    (fun c e' k hc hk=>by simp at hc;obtain⟨rfl,rfl⟩:=hc;exact(hs.blk _ _ k hbe hk).1)
    (fun e' hc=>by simp at hc;exact hbd hc.1)
    (fun c s hc=>by simp at hc;obtain⟨rfl,rfl⟩:=hc;exact⟨rfl,_,List.mem_cons_self⟩)
    (lH h7 (fun k hk=>⟨b,_,List.mem_cons_self,hk⟩)) h6 (afy hvs (af9 l))
    (fun k hk=>(h8 k hk).imp (fun h=>⟨b,_,List.mem_cons_self,h⟩) id)
   unfold Oper.wp;have hrun:(execOp a.eval o).run P w= .ok (.value v') w':=by
    unfold execOp;rw[h3];simp[resolve,invoke,builtin,hxv,hyv,h5]
   rw[hrun];exact hK _ _ _ _ hE
theorem G.aal{b n:Nat}{cells:List CA}(next:Reg P C ops rest (st.app dst ⟨.it (.one (.rptr b 0)),[]⟩) (([b],[])::acc) K)(hd:aC dst C.nt=true:=by rfl)(hx:st.ev x=some (.own b):=by rfl)(hb:st.hp b= .ent (.row e size n cells):=by rfl)(h0:0 < n:=by omega):Go1 P C ops dst (.call ⟨.builtin .unsafeSliceData,#[x],#[t]⟩) ty rest st acc K:=
 Go1.bY [(b,.row e size n cells)] [b] (fun c e' hc=>by simp at hc;simp[hc.1]) hd (fun c e' hc=>by simp at hc;rw[hc.1,hc.2];exact hb) (fun o ho _ st' E S a w hev hs hrd=>by
  obtain⟨⟨hv,_⟩,hids⟩:=hs.ev ((hev x (by simp[ho,Op.operands,Call.operands])).trans hx)
  obtain⟨vs,hown,hvs⟩:=hs.hp b _ (hrd b _ List.mem_cons_self);rcases hown.2 with⟨_,hz⟩|⟨g,cap,cur,hsl,_,hg,hnc,_⟩
  ·omega
  ·have h:=Lib.run_unsafeSliceData_row (P:=P) w #[t] o.type ⟨g,0,none⟩ n cap (by omega)
   refine⟨fun j hj=>hids j hj,.pointer (some ⟨g,0,none⟩),?_,⟨g,n,cap,hsl,rfl⟩⟩
   unfold execOp;rw[ho];simp[resolve,invoke,builtin,hv,hsl,h]) next
class ao4(P:Program)(e:TypeId):Prop where
 c:P.cellsOf e=1
theorem G.aag{b n:Nat}{l:List UInt8}[hp:aek P t e][hc:ao4 P e](next:Reg P C ops rest (st.app dst ⟨.v (str l),[(b,.gone)]⟩) (([b],[b])::acc) K)(hd:aC dst C.nt=true:=by rfl)(hx:st.ev x=some (.it (.one (.rptr b 0))):=by rfl)(hy:st.ev y=some (.v (.int .i64 (n:Int))):=by rfl)
  (hb:st.hp b= .ent (.row e 1 n (l.flatMap jR)):=by rfl) (h0:0 < n:=by omega):Go1 P C ops dst (.call ⟨.builtin .unsafeString,#[x,y],#[t,t']⟩) ty rest st acc K:=by
 refine⟨[b],_,fun o h2 h3 h4=>aY.eff [] [(b,.row e 1 n (l.flatMap jR))] (fun c hc=>?_) (h2▸bZ hd) (fun c e hc=>by cases hc) (fun c e hc=>?_) (fun c s hc=>?_) (fun c s hc=>?_) (fun st' E S a w hev hhp hs _ hpre=>?_),next⟩
 ·rcases hc with⟨e,hc⟩|⟨e,hc⟩|⟨s,hc⟩
  ·cases hc
  ·simp at hc;simp[hc.1]
  ·simp at hc;simp[hc.1]
 ·simp at hc;obtain⟨rfl,rfl⟩:=hc;exact⟨hb,_,List.mem_cons_self⟩
 ·simp at hc;obtain⟨rfl,rfl⟩:=hc;exact .inl ⟨_,List.mem_cons_self⟩
 ·simp at hc;obtain⟨rfl,rfl⟩:=hc;rfl
 ·have hx0:∃g n cap,E.sl b= .slice (some ⟨g,0,none⟩) n cap∧a.eval x= .pointer (some ⟨g,0,none⟩):=(hs.ev ((hev x (by simp[h3,Op.operands,Call.operands])).trans hx)).1
  obtain⟨g',n',cap',hsl',hxv⟩:=hx0;have hyv:a.eval y= .int .i64 (n:Int):=(hs.ev ((hev y (by simp[h3,Op.operands,Call.operands])).trans hy)).1
  have hbe:=hpre b _ List.mem_cons_self;obtain⟨vs,hown,hvs⟩:=hs.hp b _ hbe;have hv:=aeP hvs;subst hv;have hl:l.length=n:=by have:=hown.1;simpa using this
  rcases hown.2 with⟨_,hz⟩|⟨g,cap,cur,hsl,_,hg,hnc,hcm,hcs,htk⟩
  ·omega
  ·have hgg:g'=g:=by rw[hsl]at hsl';injection hsl' with q1 q2 q3;injection q1 with q1;injection q1 with q1;exact q1.symm
   subst hgg;have hne:l≠[]:=by rintro rfl;simp at hl;omega
   have hcell:∀j x,l[j]? =some x→w.cell? ((⟨g',0,none⟩:Addr).add j)=some (.int .u8 x.toNat):=fun j u hu=>by
    have hown':=hown;rw[hsl]at hown';exact hown'.cells (g:=g') rfl j _ (by simp[hu])
   have h:=Lib.run_unsafeString_row (P:=P) w t t' o.type e hp.h hc.c g' cur.size (by simp[World.shape?,hg]) l hne (by rw[hl];simp at hcs;omega) (by unfold maxLen at hcm;omega) hcell
   rw[hl]at h;refine⟨⟨fun i hi=>(by cases hi),fun c e' hc i hi=>(by simp at hc)⟩,fun K Q hK=>?_⟩
   unfold Oper.wp;have hrun:(execOp a.eval o).run P w= .ok (.value (str l)) (w.freeze ⟨g',0,none⟩ n):=by
    unfold execOp;rw[h3];simp[resolve,invoke,builtin,hxv,hyv,h]
   rw[hrun];have hat:∀k,(Ent.row e 1 n (l.flatMap jR)).at E b k↔k=g':=fun k=>by
    show (E.sl b).ownBlock=some k↔_;rw[hsl];simp[Value.ownBlock];exact eq_comm
   have ho:Off (fun k=>∃c e',(c,e')∈[(b,Ent.row e 1 n (l.flatMap jR))]∧e'.at E c k) w (w.freeze ⟨g',0,none⟩ n):=by
    have hn0:n≠0:=by omega
    unfold World.freeze;rw[if_neg hn0];refine⟨rfl,rfl,rfl,by simp,fun k hk hn=>?_⟩
    have hkg:k≠g':=fun e=>hn ⟨b,_,List.mem_cons_self,(hat k).2 e⟩
    simp only[];rw[Array.getElem?_modify,if_neg (fun e=>hkg e.symm)]
   refine hK (str l) _ E S {env:=fun _ _=>⟨rfl,rfl⟩,fpe:=fun _ _=>rfl,sub:=fun _ h=>h,new:=fun _ h=> .inl h,lt:=fun k hk=>Nat.lt_of_lt_of_le (hs.lt k hk) ho.size,off:=ho,res:=rfl,ents:=fun i e hi=>?_,blk:=fun i e k hi hk=>?_,sep:=fun i i' e e' k hne hi=>?_}
   ·simp at hi
   ·simp at hi
   ·simp at hi
end
structure HeldG(q:Prop):Prop where
 out:q
end
section
section
variable{P:Program}{C:Ctx}{st:St}
variable{ops rest:List Oper}{acc:List (List Nat×List Nat)}{K:List (List Nat×List Nat)→St→Prop}{dst:Option Tmp}{d:Tmp}{op:Op}{ty t t':TypeId}{x y z:Operand}
theorem G.anS{b off:Nat}{T:TypeId}{cells:List Atom}{a1 a2 a3 a4 a5 a6 a7 a8 a9 a10 a11 a12 a13 a14 a15:Atom}[ht:fE P t 15](next:Reg P C ops rest (st.app (some d) ⟨.agg [a1,a2,a3,a4,a5,a6,a7,a8,a9,a10,a11,a12,a13,a14,a15],[]⟩) (([b],[])::acc) K)(hd:aC (some d) C.nt=true:=by rfl)(hx:st.ev x=some (.ptr b off):=by rfl)(hb:st.hp b= .ent (.box T cells):=by rfl)(hr:(cells.drop off).take 15=[a1,a2,a3,a4,a5,a6,a7,a8,a9,a10,a11,a12,a13,a14,a15]:=by rfl):Go1 P C ops (some d) (.load t x) ty rest st acc K:=
 Go1.vJ hd hx hb (by have:=congrArg List.length hr;simp at this;rw[Nat.ble_eq];omega) hr next
theorem G.aie{c1 c2 c3 c4 c5 c6 c7 c8 c9 c10 c11 c12 c13 c14 c15:CA}{cells:List CA}[ht:fE P t 15](next:Reg P C ops rest (st.app dst ⟨.agg [.c c1,.c c2,.c c3,.c c4,.c c5,.c c6,.c c7,.c c8,.c c9,.c c10,.c c11,.c c12,.c c13,.c c14,.c c15],[]⟩) (([],[])::acc) K)(hd:aC dst C.nt=true:=by rfl)(hx:st.ev x=some (.r (bJ cells)):=by rfl)(hl:cells=[c1,c2,c3,c4,c5,c6,c7,c8,c9,c10,c11,c12,c13,c14,c15]:=by rfl):Go1 P C ops dst (.load t x) ty rest st acc K:=by
 subst hl;exact Go1.qI hd hx rfl next
theorem G.ahO{pl:List (Nat×Nat)}{zs:List Value}{parts:Array (Nat×Operand)}{ps:List (Nat×AV0)}{a1 a2 a3 a4 a5 a6 a7 a8 a9 a10 a11 a12 a13 a14 a15:Atom}[ht:dx P t pl][hz:eO P t zs](next:Reg P C ops rest (st.app (some d) ⟨.agg [a1,a2,a3,a4,a5,a6,a7,a8,a9,a10,a11,a12,a13,a14,a15],[]⟩) (([],[])::acc) K)(hd:aC (some d) C.nt=true:=by rfl)(hp:evp st parts.toList=some ps:=by rfl)(h1:(ps.all fun p=>p.2.cells.all Atom.dL)=true:=by rfl)(hf:eH pl (zs.map fun v=>Atom.c (.val v)) ps=some [a1,a2,a3,a4,a5,a6,a7,a8,a9,a10,a11,a12,a13,a14,a15]:=by rfl):Go1 P C ops (some d) (.build t parts) ty rest st acc K:=
 Go1.build hd hp h1 hf next
theorem ak.gX{t:Tmp}{T T':TypeId}{b off:Nat}{cells:List Atom}{a1 a2 a3 a4 a5 a6 a7 a8 a9 a10 a11 a12 a13 a14 a15:Atom}[ht:fE P T 15](h:st.tm t=some (.ptr b off))(hb:st.hp b= .ent (.box T' cells))(hr:(cells.drop off).take 15=[a1,a2,a3,a4,a5,a6,a7,a8,a9,a10,a11,a12,a13,a14,a15]):ak P st (.cell t T) (.agg [a1,a2,a3,a4,a5,a6,a7,a8,a9,a10,a11,a12,a13,a14,a15]):=
 ak.agg h hb (by have:=congrArg List.length hr;simp at this;rw[Nat.ble_eq];omega) hr
end
end
section
class agV(zs:List Value)(cells:outParam (List CA)):Prop where
 h:∀S w,aI (CA.has S w) cells zs
theorem aeR{S:Nat→Prop}{w:World}{cells:List CA}{zs:List Value}(h:aI (CA.has S w) cells zs):∀n:Nat,aI (CA.has S w) (List.replicate n cells).flatten (List.replicate n zs).flatten
 |0=>trivial
 |n+1=>by
  rw[List.replicate_succ,List.replicate_succ,List.flatten_cons,List.flatten_cons];exact h.append (aeR h n)
theorem aox(zs:List Value)(h0:0 < zs.length)(n:Nat):(madeCells zs.toArray (n*zs.length)).toList=(List.replicate n zs).flatten:=by
 induction n with
 |zero=>simp[madeCells]
 |succ n ih=>
  rw[show List.replicate (n+1) zs=List.replicate n zs++[zs]by rw[List.replicate_succ'],List.flatten_append,←ih]
  apply List.ext_getElem?
  intro j;have hsz:∀m,(madeCells zs.toArray m).toList.length=m:=fun m=>by rw[Array.length_toList,size_madeCells]
  by_cases h1:j < n*zs.length
  ·rw[List.getElem?_append_left (by rw[hsz];exact h1)]
   have h2:j < (n+1)*zs.length:=by rw[Nat.add_mul];omega
   simp[madeCells,h1,h2]
  ·rw[List.getElem?_append_right (by rw[hsz];omega),hsz]
   by_cases h2:j < (n+1)*zs.length
   ·have h3:j - n*zs.length < zs.length:=by rw[Nat.add_mul]at h2;omega
    have h4:j % zs.length=j - n*zs.length:=by
     have:j=(j - n*zs.length)+zs.length*n:=by rw[Nat.mul_comm zs.length n];omega
     rw[this,Nat.add_mul_mod_self_left,Nat.mod_eq_of_lt h3];rw[Nat.mul_comm zs.length n];omega
    simp[madeCells,h2,h4,h3]
   ·have h3:¬j - n*zs.length < zs.length:=by rw[Nat.add_mul]at h2;omega
    simp[madeCells,h2]
    omega
section
variable{P:Program}{C:Ctx}{st:St}
variable{ops rest:List Oper}{acc:List (List Nat×List Nat)}{K:List (List Nat×List Nat)→St→Prop}{dst:Option Tmp}{d:Tmp}{op:Op}{ty t t':TypeId}{x y z:Operand}
theorem Go1.aiO{e:TypeId}{n bytes size:Nat}{k k':IntKind}{zs:List Value}{cells:List CA}[ht:bg P t e size][he:dZ P e zs bytes][hz:agV zs cells](hd:aC (some d) C.nt=true)(hx:st.ev x=some (.v (.int k (n:Int))))(hy:st.ev y=some (.v (.int k' (n:Int))))(hf:st.hp d= .free)
  (hb:n*bytes≤140737488355328) (hm:n≤9223372036854775807) (hs:zs.length=size)
  (next:Reg P C ops rest (st.app (some d) ⟨.own d,[(d,.ent (.row e size n (List.replicate n cells).flatten))]⟩) (([d],[d])::acc) K):Go1 P C ops (some d) (.makeSlice t x y) ty rest st acc K:=
 ⟨[d],⟨.own d,[(d,.ent (.row e size n (List.replicate n cells).flatten))]⟩,fun o h2 h3 h4=>aY.newRow h2 hd hf [] (fun b e hb=>by cases hb) (fun st' E S a w hev hs' _=>by
  have hxv:a.eval x= .int k (n:Int):=(hs'.ev ((hev x (by simp[h3,Op.operands])).trans hx)).1
  have hyv:a.eval y= .int k' (n:Int):=(hs'.ev ((hev y (by simp[h3,Op.operands])).trans hy)).1
  obtain⟨i,z',hi,hz',hc,hsz,hby⟩:=nC he ht.s;obtain⟨w',hrun,hown,hgr⟩:=run_make_full (P:=P) w 0 t e i z' size ht.h hi hz' hsz k k' n (by rw[hby,Nat.mul_comm];omega) (by simp[maxLen];omega) (Nat.zero_le _)
  refine⟨.slice (some ⟨w.heap.size,0,none⟩) n n,w',(List.replicate n zs).flatten,?_,?_,lH hgr (fun k hk=>by cases hk),fun k hk=>by simp[Value.ownBlock]at hk;omega,aeR (hz.h _ _) n⟩
  ·unfold execOp;rw[h3];simp[hxv,hyv,hrun]
  ·have hl:(madeCells z'.cells (n*size)).toList=(List.replicate n zs).flatten:=by rw[hc,←hs];exact aox zs (by rw[hs];exact ht.p) n
   rw[←hl];exact hown),next⟩
theorem G.aiO{e:TypeId}{n bytes size:Nat}{k k':IntKind}{zi zj:Int}{zs:List Value}{cells:List CA}[ht:bg P t e size][he:dZ P e zs bytes][hz:agV zs cells](next:Reg P C ops rest (st.app (some d) ⟨.own d,[(d,.ent (.row e size n (List.replicate n cells).flatten))]⟩) (([d],[d])::acc) K)(hd:aC (some d) C.nt=true:=by rfl)(hx:st.ev x=some (.v (.int k zi)):=by rfl)(hx0:zi=(n:Int):=by first|with_reducible rfl|exact SX.jw _|rfl)(hy:st.ev y=some (.v (.int k' zj)):=by rfl)(hy0:zj=(n:Int):=by first|with_reducible rfl|exact SX.jw _|rfl)(hf:st.hp d= .free:=by rfl)
  (hb:n*bytes≤140737488355328:=by omega) (hm:n≤9223372036854775807:=by omega) (hs:zs.length=size:=by rfl):Go1 P C ops (some d) (.makeSlice t x y) ty rest st acc K:=by
 subst hx0;subst hy0;exact Go1.aiO hd hx hy hf hb hm hs next
theorem G.aly{b off:Nat}{T:TypeId}{cells:List Atom}{a1:Atom}[ht:fE P t 1](next:Reg P C ops rest (st.app (some d) ⟨.agg [a1],[]⟩) (([b],[])::acc) K)(hd:aC (some d) C.nt=true:=by rfl)(hx:st.ev x=some (.ptr b off):=by rfl)(hb:st.hp b= .ent (.box T cells):=by rfl)(hr:(cells.drop off).take 1=[a1]:=by rfl):Go1 P C ops (some d) (.load t x) ty rest st acc K:=
 Go1.vJ hd hx hb (by have:=congrArg List.length hr;simp at this;rw[Nat.ble_eq];omega) hr next
theorem G.ai7{c1:CA}{cells:List CA}[ht:fE P t 1](next:Reg P C ops rest (st.app dst ⟨.agg [.c c1],[]⟩) (([],[])::acc) K)(hd:aC dst C.nt=true:=by rfl)(hx:st.ev x=some (.r (bJ cells)):=by rfl)(hl:cells=[c1]:=by rfl):Go1 P C ops dst (.load t x) ty rest st acc K:=by
 subst hl;exact Go1.qI hd hx rfl next
theorem G.amb{pl:List (Nat×Nat)}{zs:List Value}{parts:Array (Nat×Operand)}{ps:List (Nat×AV0)}{a1:Atom}[ht:dx P t pl][hz:eO P t zs](next:Reg P C ops rest (st.app (some d) ⟨.agg [a1],[]⟩) (([],[])::acc) K)(hd:aC (some d) C.nt=true:=by rfl)(hp:evp st parts.toList=some ps:=by rfl)(h1:(ps.all fun p=>p.2.cells.all Atom.dL)=true:=by rfl)(hf:eH pl (zs.map fun v=>Atom.c (.val v)) ps=some [a1]:=by rfl):Go1 P C ops (some d) (.build t parts) ty rest st acc K:=
 Go1.build hd hp h1 hf next
theorem ak.agg1{t:Tmp}{T T':TypeId}{b off:Nat}{cells:List Atom}{a1:Atom}[ht:fE P T 1](h:st.tm t=some (.ptr b off))(hb:st.hp b= .ent (.box T' cells))(hr:(cells.drop off).take 1=[a1]):ak P st (.cell t T) (.agg [a1]):=
 ak.agg h hb (by have:=congrArg List.length hr;simp at this;rw[Nat.ble_eq];omega) hr
end
end
section
section
variable{P:Program}{C:Ctx}{st:St}
variable{ops rest:List Oper}{acc:List (List Nat×List Nat)}{K:List (List Nat×List Nat)→St→Prop}{dst:Option Tmp}{d:Tmp}{op:Op}{ty t t':TypeId}{x y z:Operand}
end
structure HeldK(q:Prop):Prop where
 out:q
end
section
section
variable{P:Program}{C:Ctx}{st:St}
variable{ops rest:List Oper}{acc:List (List Nat×List Nat)}{K:List (List Nat×List Nat)→St→Prop}{dst:Option Tmp}{d:Tmp}{op:Op}{ty t t':TypeId}{x y z:Operand}
end
end
section
def lN(S:Nat→Prop)(w:World)(p:List UInt8×List CA)(e:MapEntry):Prop:=e.key=str p.1∧∃us:List Value,e.val= .agg us.toArray∧aI (CA.has S w) p.2 us
theorem lN.step{S S':Nat→Prop}{w w':World}{p:List UInt8×List CA}{e:MapEntry}(h:lN S w p e)(ho:Off S w w')(hs:∀k,S' k→S k∨w.heap.size≤k):lN S' w' p e:=by
 obtain⟨h1,us,h2,h3⟩:=h;exact⟨h1,us,h2,h3.mono fun a u _ ha=>ha.step ho hs⟩
def gV(l:List (List UInt8×List CA)):jO where
 has _ v X S w:=∃r es clock,v= .map (some r)∧(∀k,X k↔k=r)∧w.heap[r]? =some (.map es clock)∧aI (lN S w) l es.toList
 step:=fun {b v X S S' w w'} ⟨r,es,clock,h1,h2,h3,h4⟩ ho hs hX=>
  ⟨r,es,clock,h1,h2,by rw[hX r ((h2 r).2 rfl)];exact h3,h4.mono fun a u _ ha=>ha.step ho hs⟩
def eG{β:Type}:List (List UInt8×β)→List UInt8→Option β
 |[],_=>none
 |(k,c)::l,s=>if s=k then some c else eG l s
def iN{β:Type}:List (List UInt8×β)→List UInt8→β→List (List UInt8×β)
 |[],s,c=>[(s,c)]
 |(k,d)::l,s,c=>if s=k then(k,c)::l else(k,d)::iN l s c
theorem uK(s t:List UInt8):Instr.sameNow .string (str s) (str t)=some (decide (s=t)):=by
 show some ((⟨⟨s⟩⟩:ByteArray)==⟨⟨t⟩⟩)=_;have e:((⟨⟨s⟩⟩:ByteArray)==⟨⟨t⟩⟩)=((⟨s⟩:Array UInt8)==⟨t⟩):=rfl;rw[e]
 congr 1
 rw[Bool.eq_iff_iff,beq_iff_eq,decide_eq_true_iff];constructor
 ·intro h;injection h
 ·rintro rfl;rfl
theorem abO{S:Nat→Prop}{w:World}{s:List UInt8}:∀{l:List (List UInt8×List CA)} {es:List MapEntry} (i:Nat),aI (lN S w) l es→eG l s=none→Instr.findNow .string (str s) es i=some none
 |[],[],_,_,_=>rfl
 |(k,c)::l,e::es,i,h,hn=>by
  obtain⟨⟨h1,_⟩,h2⟩:=h;unfold eG at hn;by_cases hk:s=k
  ·rw[if_pos hk]at hn;cases hn
  ·rw[if_neg hk]at hn;unfold Instr.findNow;rw[h1];show (match Instr.sameNow .string (str s) (str k)with|some true=>some (some (i,e.val))|some false=>Instr.findNow .string (str s) es (i+1)|none=>none)=_
   rw[uK,decide_eq_false hk];exact abO (i+1) h2 hn
 |[],_::_,_,h,_=>h.elim
 |_::_,[],_,h,_=>h.elim
theorem abE{S:Nat→Prop}{w:World}{s:List UInt8}{c:List CA}:∀{l:List (List UInt8×List CA)} {es:List MapEntry} (i:Nat),aI (lN S w) l es→eG l s=some c→∃j us,Instr.findNow .string (str s) es i=some (some (i+j,.agg us))∧aI (CA.has S w) c us.toList∧(∃e,es[j]? =some e∧e.key=str s)
 |[],[],_,_,hn=>by cases hn
 |(k,d)::l,e::es,i,h,hn=>by
  obtain⟨⟨h1,us,h3,h4⟩,h2⟩:=h;unfold eG at hn;by_cases hk:s=k
  ·rw[if_pos hk]at hn;cases hn;refine⟨0,us.toArray,?_,by simpa using h4,e,rfl,by rw[h1,hk]⟩
   unfold Instr.findNow;rw[h1];show (match Instr.sameNow .string (str s) (str k)with|some true=>some (some (i,e.val))|some false=>Instr.findNow .string (str s) es (i+1)|none=>none)=_
   rw[uK,decide_eq_true hk,h3];rfl
  ·rw[if_neg hk]at hn;obtain⟨j,vs,g1,g2,e',g3,g4⟩:=abE (i+1) h2 hn;refine⟨j+1,vs,?_,g2,e',g3,g4⟩;unfold Instr.findNow;rw[h1];show (match Instr.sameNow .string (str s) (str k)with|some true=>some (some (i,e.val))|some false=>Instr.findNow .string (str s) es (i+1)|none=>none)=_
   rw[uK,decide_eq_false hk];show Instr.findNow .string (str s) es (i+1)=_;rw[g1,show i+1+j=i+(j+1)by omega]
 |[],_::_,_,h,_=>h.elim
 |_::_,[],_,h,_=>h.elim
theorem aeB{S:Nat→Prop}{w:World}{s:List UInt8}{c:List CA}{e:MapEntry}(he:lN S w (s,c) e):∀{l:List (List UInt8×List CA)} {es:List MapEntry},aI (lN S w) l es→eG l s=none→aI (lN S w) (iN l s c) (es++[e])
 |[],[],_,_=>⟨he,trivial⟩
 |(k,d)::l,f::es,h,hn=>by
  unfold eG at hn;by_cases hk:s=k
  ·rw[if_pos hk]at hn;cases hn
  ·rw[if_neg hk]at hn;unfold iN;rw[if_neg hk];exact⟨h.1,aeB he h.2 hn⟩
 |[],_::_,h,_=>h.elim
 |_::_,[],h,_=>h.elim
theorem afs{S:Nat→Prop}{w:World}{s:List UInt8}{c d:List CA}:∀{l:List (List UInt8×List CA)} {es:List MapEntry} (i:Nat),aI (lN S w) l es→eG l s=some d→
  ∃j v,Instr.findNow .string (str s) es i=some (some (i+j,v))∧(∃e,es[j]? =some e∧e.key=str s)∧∀e,lN S w (s,c) e→aI (lN S w) (iN l s c) (es.set j e)
 |[],[],_,_,hn=>by cases hn
 |(k,d)::l,e::es,i,h,hn=>by
  obtain⟨⟨h1,us,h3,h4⟩,h2⟩:=h;unfold eG at hn;by_cases hk:s=k
  ·rw[if_pos hk]at hn;refine⟨0,e.val,?_,⟨e,rfl,by rw[h1,hk]⟩,fun f hf=>?_⟩
   ·unfold Instr.findNow;rw[h1];show (match Instr.sameNow .string (str s) (str k)with|some true=>some (some (i,e.val))|some false=>Instr.findNow .string (str s) es (i+1)|none=>none)=_
    rw[uK,decide_eq_true hk];rfl
   ·unfold iN;rw[if_pos hk];subst hk;exact⟨hf,h2⟩
  ·rw[if_neg hk]at hn;obtain⟨j,v,g1,⟨e',g3,g4⟩,g5⟩:=afs (c:=c) (i+1) h2 hn;refine⟨j+1,v,?_,⟨e',g3,g4⟩,fun f hf=>?_⟩
   ·unfold Instr.findNow;rw[h1];show (match Instr.sameNow .string (str s) (str k)with|some true=>some (some (i,e.val))|some false=>Instr.findNow .string (str s) es (i+1)|none=>none)=_
    rw[uK,decide_eq_false hk];show Instr.findNow .string (str s) es (i+1)=_;rw[g1,show i+1+j=i+(j+1)by omega]
   ·unfold iN;rw[if_neg hk];exact⟨⟨h1,us,h3,h4⟩,g5 f hf⟩
 |[],_::_,_,h,_=>h.elim
 |_::_,[],_,h,_=>h.elim
class ajL(P:Program)(t:TypeId)(zs:outParam (List Value)):Prop where
 h:∃k e,P.underlying t=some (.map k e)∧P.underlying k=some .string∧(P.info? e).map (·.zero)=some (some (.agg zs.toArray))
theorem rH(s:List UInt8):Go.MapKept.IsKey .string (str s):=by
 first|exact trivial|simp[Go.MapKept.IsKey,str]
section
variable{P:Program}{t:TypeId}{zs:List Value}[ht:ajL P t zs]{w:World}{r:Nat}{es:Array MapEntry}{clock:Nat}{S:Nat→Prop}{l:List (List UInt8×List CA)}{s:List UInt8}
include ht
theorem ada{c:List CA}(hb:w.heap[r]? =some (.map es clock))(ha:aI (lN S w) l es.toList)(hl:eG l s=some c):
  ∃us:List Value,(Instr.lookup t (.map (some r)) (str s) true).run P w= .ok (.tuple #[.agg us.toArray,.bool true]) w∧aI (CA.has S w) c us:=by
 obtain⟨k,e,hm,hk,hz⟩:=ht.h;obtain⟨j,us,h1,h2,_⟩:=abE 0 ha hl;refine⟨us.toList,?_,h2⟩;unfold Instr.lookup;simp[run_underlying hm,Go.MapKept.run_getObj_map hb,Go.MapKept.run_checkKey hk (rH s),Go.MapKept.run_findKey hk h1]
theorem aoD{c:List CA}{us:List Value}(hb:w.heap[r]? =some (.map es clock))(ha:aI (lN S w) l es.toList)(hu:aI (CA.has S w) c us):
  ∃es' clock',(Instr.mapUpdate t (.map (some r)) (str s) (.agg us.toArray)).run P w= .ok () {w with heap:=w.heap.setIfInBounds r (.map es' clock')}∧aI (lN S w) (iN l s c) es'.toList:=by
 obtain⟨k,e,hm,hk,hz⟩:=ht.h;cases hl:eG l s with
 |none=>
  have h1:=abO (s:=s) 0 ha hl;refine⟨es.push {key:=str s,val:= .agg us.toArray,born:=clock},clock+1,?_,?_⟩
  ·unfold Instr.mapUpdate;simp[run_underlying hm,Go.MapKept.run_getObj_map hb,Go.MapKept.run_checkKey hk (rH s),Go.MapKept.run_findKey hk h1,Go.MapKept.run_setObj_map _ hb]
  ·rw[Array.toList_push];exact aeB ⟨rfl,us,rfl,hu⟩ ha hl
 |some d=>
  obtain⟨j,v,h1,⟨f,h3,h4⟩,h5⟩:=afs (c:=c) 0 ha hl;rw[Nat.zero_add]at h1;have h3':es[j]? =some f:=by rw[←h3,Array.getElem?_toList]
  refine⟨es.modify j fun e=>{e with key:=str s,val:= .agg us.toArray},clock,?_,?_⟩
  ·unfold Instr.mapUpdate;simp[run_underlying hm,Go.MapKept.run_getObj_map hb,Go.MapKept.run_checkKey hk (rH s),Go.MapKept.run_findKey hk h1,Go.MapKept.run_setObj_map _ hb,h3',h4,Go.MapKept.run_keyThatStays (rH s)]
  ·have e9:(es.modify j fun e=>{e with key:=str s,val:= .agg us.toArray}).toList=es.toList.set j {f with key:=str s,val:= .agg us.toArray}:=by
    apply List.ext_getElem?;intro i
    rw[List.getElem?_set]
    simp only[Array.toList_modify,List.getElem?_modify]
    by_cases hi:j=i
    ·subst hi;obtain⟨hlt,_⟩:=List.getElem?_eq_some_iff.1 h3
     rw[if_pos rfl,if_pos hlt,h3];simp
    ·rw[if_neg hi];simp[hi]
   rw[e9];exact h5 _ ⟨rfl,us,rfl,hu⟩
end
theorem Eff.ati{E:Env}{S X:Nat→Prop}{w w':World}{b:Nat}{A:jO}{v:Value}
  (hl:∀k,S k→k < w.heap.size) (ho:Off none' w w') (hA:A.has (E.blk b) v X (fun k=>S k∨X k) w')
  (hX:∀k,X k→w.heap.size≤k) (hXl:∀k,X k→k < w'.heap.size) (hone:v.oneCell'=true):
  Eff E S w [] ⟨.own b,[(b,.ent (.abs A))]⟩ v w' ⟨E.blk,upd E.sl b v,upd E.fp b X⟩ (fun k=>S k∨X k):=by
 have hent:∀i e,(i,Slot.ent e)∈[(b,Slot.ent (Ent.abs A))]→i=b∧e= .abs A:=by
  intro i e hi;simp at hi;exact hi
 refine
  {env:=fun i hi=>?_,fpe:=fun i hi=>?_,sub:=fun k hk=> .inl hk,new:=fun k hk=>hk.imp id (hX k),lt:=fun k hk=>?_,off:=ho.mono fun k hk=>hk.elim,res:=⟨by show v=upd E.sl b v b;rw[upd_same],hone⟩,
   ents:=fun i e hi=>?_,blk:=fun i e k hi hk=>?_,sep:=fun i i' e e' k hne h1 h2=>?_}
 ·by_cases e:i=b
  ·subst e;obtain⟨e,he⟩:=hi ⟨_,by simp;rfl⟩
   cases he
  ·exact⟨rfl,upd_ne _ _ e⟩
 ·exact upd_ne _ _ fun e=>hi (.ent (.abs A)) (by simp[e])
 ·rcases hk with hk|hk
  ·exact Nat.lt_of_lt_of_le (hl k hk) ho.size
  ·exact hXl k hk
 ·obtain⟨rfl,rfl⟩:=hent i e hi;show A.has (E.blk i) (upd E.sl i v i) (upd E.fp i X i) _ w';rw[upd_same,upd_same];exact hA
 ·obtain⟨rfl,rfl⟩:=hent i e hi;have hk':upd E.fp i X i k:=hk;rw[upd_same]at hk';exact⟨.inr hk',.inr (hX k hk')⟩
 ·obtain⟨rfl,_⟩:=hent _ _ h1;obtain⟨rfl,_⟩:=hent _ _ h2;exact absurd rfl hne
section
variable{P:Program}{C:Ctx}{st:St}
variable{ops rest:List Oper}{acc:List (List Nat×List Nat)}{K:List (List Nat×List Nat)→St→Prop}{dst:Option Tmp}{d:Tmp}{ty t:TypeId}{x y z:Operand}{zs:List Value}
theorem Go1.makeMap(hd:aC (some d) C.nt=true)(hf:st.hp d= .free)(next:Reg P C ops rest (st.app (some d) ⟨.own d,[(d,.ent (.abs (gV [])))]⟩) (([d],[d])::acc) K):Go1 P C ops (some d) (.makeMap t none) ty rest st acc K:=
 ⟨[d],⟨.own d,[(d,.ent (.abs (gV [])))]⟩,fun o h2 h3 h4=>by
  refine aY.eff [] [] (fun b hb=>?_) (h2▸bZ hd) (fun b e hb=>by cases hb) (fun b e hb=>by cases hb) (fun b s hb=>?_) (fun b s hb=>?_) (fun st' E S a w hev hhp hs _ _=>?_)
  ·rcases hb with⟨e,hb⟩|⟨e,hb⟩|⟨s,hb⟩
   ·cases hb
   ·cases hb
   ·simp at hb;simp[hb.1]
  ·simp at hb;rw[hb.1];exact .inr hf
  ·simp at hb;rw[hb.2];rfl
  ·refine⟨⟨fun i hi=>?_,fun b e hb i hi=>?_⟩,fun K Q hK=>?_⟩
   ·simp[AV.ids,AV0.ids,Atom.ids]at hi;subst hi;simp[fq,Slot.used]
   ·simp at hb
    obtain⟨rfl,rfl⟩:=hb;cases hi
   ·unfold Oper.wp execOp;rw[h3];have hr:(Instr.makeMap t none).run P w= .ok (.map (some w.heap.size)) (w.alloc (.map #[] 0)):=by simp[Instr.makeMap]
    simp only[hr,Option.map_none,Sem.run_bind,Sem.run_pure,Result.andThen_ok];refine hK _ _ _ _ (Eff.ati (X:=fun k=>k=w.heap.size) hs.lt (Off.alloc _ _ _) ⟨w.heap.size,#[],0,rfl,fun k=>Iff.rfl,heap_alloc_new w _,trivial⟩ (fun k hk=>by rw[hk];exact Nat.le_refl _) (fun k hk=>?_) rfl)
    rw[hk];show w.heap.size < (w.heap.push _).size;simp,next⟩
theorem Go1.ail{b:Nat}{l:List (List UInt8×List CA)}{s:List UInt8}{c:List CA}[ht:ajL P t zs](hd:aC dst C.nt=true)(hx:st.ev x=some (.own b))(hb:st.hp b= .ent (.abs (gV l)))(hy:st.ev y=some (.v (str s)))(hl:eG l s=some c)
  (next:Reg P C ops rest (st.app dst ⟨.tup [.agg (c.map Atom.c),.one (.c (.val (.bool true)))],[]⟩) (([b],[])::acc) K):Go1 P C ops dst (.lookup t x y true) ty rest st acc K:=
 Go1.bY [(b,.abs (gV l))] [b] (by simp) hd (by simpa using hb) (fun o ho _ st' E S a w hev hs hrd=>by
  obtain⟨⟨hv,_⟩,_⟩:=hs.ev ((hev x (by simp[ho,Op.operands])).trans hx)
  have hyv:a.eval y=str s:=(hs.ev ((hev y (by simp[ho,Op.operands])).trans hy)).1
  have h0:(gV l).has (E.blk b) (E.sl b) (E.fp b) S w:=hs.hp b (.abs (gV l)) (hrd b (.abs (gV l)) (by simp))
  obtain⟨r,es,clock,h1,h2,h3,h4⟩:=h0;obtain⟨us,hrun,hall⟩:=ada (P:=P) (t:=t) h3 h4 hl;refine⟨fun i hi=>?_,.tuple #[.agg us.toArray,.bool true],?_,?_⟩
  ·exfalso
   simp only[AV.ids,List.flatMap_cons,AV0.ids,List.flatMap_nil,List.append_nil,List.mem_append,List.mem_flatMap,List.mem_map]at hi;rcases hi with⟨_,⟨_,_,rfl⟩,h⟩|h <;> cases h
  ·unfold execOp;rw[ho];simp[show a.eval x=_ from hv,h1,hyv,hrun]
  ·exact⟨[.agg us.toArray,.bool true],rfl,⟨us,rfl,zD hall⟩,rfl,trivial⟩) next
theorem aew{E:Env}{S:Nat→Prop}{w:World}:∀{m:List CA} {us:List Value},aI (Atom.has E S w) (m.map Atom.c) us→aI (CA.has S w) m us
 |[],[],_=>trivial
 |_::_,_::_,h=>⟨h.1,aew h.2⟩
 |[],_::_,h=>h.elim
 |_::_,[],h=>h.elim
theorem Eff.aph{E:Env}{S:Nat→Prop}{w w':World}{b:Nat}{A A':jO}(hl:∀k,S k→k < w.heap.size)(hS:∀k,E.fp b k→S k)(ho:Off (E.fp b) w w')(hA:A'.has (E.blk b) (E.sl b) (E.fp b) S w'):
  Eff E S w [(b,.abs A)] ⟨.v undef,[(b,.ent (.abs A'))]⟩ undef w' E S:=by
 refine
  {env:=fun i hi=>⟨rfl,rfl⟩,fpe:=fun _ _=>rfl,sub:=fun k hk=>hk,new:=fun k hk=> .inl hk,lt:=fun k hk=>Nat.lt_of_lt_of_le (hl k hk) ho.size,off:=ho.mono fun k hk=>⟨b,_,List.mem_cons_self,hk⟩,
   res:=rfl,ents:=fun i e' hi=>?_,blk:=fun i e' k hi hk=>?_,sep:=fun i i' e' e2 k hne h1 h2=>?_}
 ·simp at hi;obtain⟨rfl,rfl⟩:=hi
  exact hA
 ·simp at hi;obtain⟨rfl,rfl⟩:=hi
  exact⟨hS k hk,.inl ⟨i,_,List.mem_cons_self,hk⟩⟩
 ·simp at h1 h2;exact absurd (h1.1.trans h2.1.symm) hne
theorem Off.setObj{S:Nat→Prop}(w:World)(r:Nat)(o:Obj)(h:S r):Off S w {w with heap:=w.heap.setIfInBounds r o}:=
 ⟨rfl,rfl,rfl,by simp,fun k hk hn=>by
  have hne:k≠r:=fun e=>hn (e▸h)
  show (w.heap.setIfInBounds r o)[k]? =_;rw[Array.getElem?_setIfInBounds,if_neg (fun e=>hne e.symm)]⟩
theorem Go1.putM{b:Nat}{l:List (List UInt8×List CA)}{s:List UInt8}{la:List Atom}{c:List CA}[ht:ajL P t zs](hx:st.ev x=some (.own b))(hb:st.hp b= .ent (.abs (gV l)))(hy:st.ev y=some (.v (str s)))(hz:st.ev z=some (.agg la))(hc:aQ la=some c)
  (next:Reg P C ops rest (st.app none ⟨.v undef,[(b,.ent (.abs (gV (iN l s c))))]⟩) (([b],[b])::acc) K):Go1 P C ops none (.mapUpdate t x y z) ty rest st acc K:=by
 refine⟨[b],⟨.v undef,[(b,.ent (.abs (gV (iN l s c))))]⟩,fun o h2 h3 h4=>aY.eff [] [(b,.abs (gV l))] (fun i hi=>?_) (h2▸(fun x hx=>by cases hx)) (fun b e hb=>by cases hb) (fun i e hi=>?_) (fun i s hi=>?_) (fun i s hi=>?_) (fun st' E S a w hev hhp hse _ hpre=>?_),next⟩
 ·rcases hi with⟨e,hi⟩|⟨e,hi⟩|⟨s,hi⟩
  ·cases hi
  ·simp at hi;simp[hi.1]
  ·simp at hi;simp[hi.1]
 ·simp at hi
  obtain⟨rfl,rfl⟩:=hi;exact⟨hb,_,by simp;rfl⟩
 ·simp at hi;obtain⟨rfl,_⟩:=hi;exact .inl ⟨_,by simp;rfl⟩
 ·simp at hi;rw[hi.2];rfl
 ·obtain⟨⟨hv,_⟩,_⟩:=hse.ev ((hev x (by simp[h3,Op.operands])).trans hx)
  have hyv:a.eval y=str s:=(hse.ev ((hev y (by simp[h3,Op.operands])).trans hy)).1
  obtain⟨⟨us,hzv,hall⟩,_⟩:=hse.ev ((hev z (by simp[h3,Op.operands])).trans hz)
  have hb':=hpre b (.abs (gV l)) (by simp)
  have h0:(gV l).has (E.blk b) (E.sl b) (E.fp b) S w:=hse.hp b _ hb';have hX:∀k,E.fp b k→S k:=fun k hk=>(hse.blk b _ k hb' hk).1
  obtain⟨r,es,clock,h1,h5,h6,h7⟩:=h0;have hcl:aI (CA.has S w) c us:=by
   rw[dJ hc]at hall;exact aew hall
  obtain⟨es',clock',hrun,h8⟩:=aoD (P:=P) (t:=t) (s:=s) h6 h7 hcl;have hor:Off (E.fp b) w {w with heap:=w.heap.setIfInBounds r (.map es' clock')}:=Off.setObj w r _ ((h5 r).2 rfl);refine⟨⟨fun i hi=>(by cases hi),fun i e hi j hj=>?_⟩,fun K Q hK=>?_⟩
  ·simp at hi
   obtain⟨rfl,rfl⟩:=hi;cases hj
  ·unfold Oper.wp execOp;rw[h3];simp only[show a.eval x=_ from hv,h1,hyv,show a.eval z=_ from hzv,hrun,Sem.run_bind,Sem.run_pure,Result.andThen_ok]
   refine hK undef _ _ _ (Eff.aph hse.lt hX hor ⟨r,es',clock',h1,h5,(Go.MapKept.heap_set h6).1,h8.mono fun p e _ he=>he.step (hor.mono hX) fun k hk=> .inl hk⟩)
end
section
variable{P:Program}{C:Ctx}{st:St}
variable{ops rest:List Oper}{acc:List (List Nat×List Nat)}{K:List (List Nat×List Nat)→St→Prop}{dst:Option Tmp}{d:Tmp}{ty t:TypeId}{x y z:Operand}{zs:List Value}
theorem G.makeMap(next:Reg P C ops rest (st.app (some d) ⟨.own d,[(d,.ent (.abs (gV [])))]⟩) (([d],[d])::acc) K)(hd:aC (some d) C.nt=true:=by rfl)(hf:st.hp d= .free:=by rfl):Go1 P C ops (some d) (.makeMap t none) ty rest st acc K:=Go1.makeMap hd hf next
theorem G.ail{b:Nat}{l:List (List UInt8×List CA)}{s:List UInt8}{c:List CA}[ht:ajL P t zs](next:Reg P C ops rest (st.app dst ⟨.tup [.agg (c.map Atom.c),.one (.c (.val (.bool true)))],[]⟩) (([b],[])::acc) K)(hd:aC dst C.nt=true:=by rfl)(hx:st.ev x=some (.own b):=by rfl)(hb:st.hp b= .ent (.abs (gV l)):=by rfl)(hy:st.ev y=some (.v (str s)):=by rfl)(hl:eG l s=some c:=by first|(with_reducible assumption)|assumption):Go1 P C ops dst (.lookup t x y true) ty rest st acc K:=Go1.ail hd hx hb hy hl next
theorem G.putM{b:Nat}{l:List (List UInt8×List CA)}{s:List UInt8}{la:List Atom}{c:List CA}[ht:ajL P t zs](next:Reg P C ops rest (st.app none ⟨.v undef,[(b,.ent (.abs (gV (iN l s c))))]⟩) (([b],[b])::acc) K)(hx:st.ev x=some (.own b):=by rfl)(hb:st.hp b= .ent (.abs (gV l)):=by rfl)(hy:st.ev y=some (.v (str s)):=by rfl)(hz:st.ev z=some (.agg la):=by rfl)(hc:aQ la=some c:=by rfl):Go1 P C ops none (.mapUpdate t x y z) ty rest st acc K:=Go1.putM hx hb hy hz hc next
end
section
variable{P:Program}{C:Ctx}{st:St}
variable{ops rest:List Oper}{acc:List (List Nat×List Nat)}{K:List (List Nat×List Nat)→St→Prop}{d:Tmp}{ty t:TypeId}{x:Operand}
theorem G.ard{ι:Type}{b bb off:Nat}{φ:ι→Prop}{T:TypeId}{cells:ι→List Atom}{R:ι→List (Nat×Ent)}{u:Value}[ht:iq P t](next:Reg P C ops rest (st.app (some d) ⟨.v u,[]⟩) (([b],[])::acc) K)(hd:aC (some d) C.nt=true:=by rfl)(hx:st.ev x=some (.ptr b off):=by rfl)
  (hb:st.hp b= .ent (.abs (mh bb φ T cells R)):=by rfl) (hr:∀p,(cells p)[off]? =some (.c (.val u)):=by intro p;rfl):Go1 P C ops (some d) (.load t x) ty rest st acc K:=
 Go1.bY [(b,.abs (mh bb φ T cells R))] [b] (by simp) hd (by simpa using hb) (fun o ho _ st' E S a w hev hs hrd=>by
  obtain⟨hv,_⟩:=hs.ev ((hev x (by simp[ho,Op.operands])).trans hx)
  have hb':=hrd b (.abs (mh bb φ T cells R)) (by simp)
  obtain⟨p,E2,_,hB⟩:=hs.hp b _ hb';obtain⟨cs,hg,hall⟩:=hB.box;obtain⟨u',hu,hcu⟩:=hall.get (hr p);have e:u'=u:=hcu;subst e;refine⟨fun i hi=>(by cases hi),u',?_,rfl⟩
  unfold execOp;rw[ho];simp[show a.eval x=_ from hv,Instr.loadAt,Instr.sureAddr,vw ht w hg hu]) next
end
section
variable{P:Program}{C:Ctx}{st:St}
variable{ops rest:List Oper}{acc:List (List Nat×List Nat)}{K:List (List Nat×List Nat)→St→Prop}{d:Tmp}{ty t:TypeId}
theorem G.ajo{pl:List (Nat×Nat)}{zs:List Value}{parts:Array (Nat×Operand)}{ps:List (Nat×AV0)}{a1 a2 a3 a4 a5 a6 a7 a8 a9 a10 a11 a12 a13 a14 a15 a16 a17:Atom}[ht:dx P t pl][hz:eO P t zs](next:Reg P C ops rest (st.app (some d) ⟨.agg [a1,a2,a3,a4,a5,a6,a7,a8,a9,a10,a11,a12,a13,a14,a15,a16,a17],[]⟩) (([],[])::acc) K)(hd:aC (some d) C.nt=true:=by rfl)(hp:evp st parts.toList=some ps:=by rfl)(h1:(ps.all fun p=>p.2.cells.all Atom.dL)=true:=by rfl)(hf:eH pl (zs.map fun v=>Atom.c (.val v)) ps=some [a1,a2,a3,a4,a5,a6,a7,a8,a9,a10,a11,a12,a13,a14,a15,a16,a17]:=by rfl):Go1 P C ops (some d) (.build t parts) ty rest st acc K:=
 Go1.build hd hp h1 hf next
theorem ak.kT{u:Tmp}{T T':TypeId}{b off:Nat}{cells:List Atom}{a1 a2 a3 a4 a5 a6 a7 a8 a9 a10 a11 a12 a13 a14 a15 a16 a17:Atom}[ht:fE P T 17](h:st.tm u=some (.ptr b off))(hb:st.hp b= .ent (.box T' cells))(hr:(cells.drop off).take 17=[a1,a2,a3,a4,a5,a6,a7,a8,a9,a10,a11,a12,a13,a14,a15,a16,a17]):ak P st (.cell u T) (.agg [a1,a2,a3,a4,a5,a6,a7,a8,a9,a10,a11,a12,a13,a14,a15,a16,a17]):=
 ak.agg h hb (by have:=congrArg List.length hr;simp at this;rw[Nat.ble_eq];omega) hr
theorem G.ah4{pl:List (Nat×Nat)}{zs:List Value}{parts:Array (Nat×Operand)}{ps:List (Nat×AV0)}{a1 a2 a3 a4 a5 a6 a7 a8 a9 a10 a11 a12 a13 a14 a15 a16 a17 a18 a19 a20 a21:Atom}[ht:dx P t pl][hz:eO P t zs](next:Reg P C ops rest (st.app (some d) ⟨.agg [a1,a2,a3,a4,a5,a6,a7,a8,a9,a10,a11,a12,a13,a14,a15,a16,a17,a18,a19,a20,a21],[]⟩) (([],[])::acc) K)(hd:aC (some d) C.nt=true:=by rfl)(hp:evp st parts.toList=some ps:=by rfl)(h1:(ps.all fun p=>p.2.cells.all Atom.dL)=true:=by rfl)(hf:eH pl (zs.map fun v=>Atom.c (.val v)) ps=some [a1,a2,a3,a4,a5,a6,a7,a8,a9,a10,a11,a12,a13,a14,a15,a16,a17,a18,a19,a20,a21]:=by rfl):Go1 P C ops (some d) (.build t parts) ty rest st acc K:=
 Go1.build hd hp h1 hf next
end
section
variable{P:Program}{C:Ctx}{st:St}{ops rest:List Oper}{acc:List (List Nat×List Nat)}{K:List (List Nat×List Nat)→St→Prop}{dst:Option Tmp}{ty t:TypeId}{x:Operand}{α:Type}
theorem G.ahI{tO tI:TypeId}{b size i j:Nat}{enc:α→List CA}{js:List Nat}{c:List (List α)}{r:List α}{a:α}{c1 c2:CA}[ht:fE P t 2][he:dH enc 2](next:Reg P C ops rest (st.app dst ⟨.agg [.c c1,.c c2],[]⟩) (([b],[])::acc) K)(hd:aC dst C.nt=true:=by rfl)(hx:st.ev x=some (.it (.one (.rel b (oV (j+1) (i*2))))):=by rfl)(hb:st.hp b= .ent (.abs (eU tO tI size enc js c)):=by rfl)(hj:c[j]? =some r:=by assumption)(ha:r[i]? =some a:=by assumption)(h4:enc a=[c1,c2]:=by rfl):Go1 P C ops dst (.load t x) ty rest st acc K:=
 Go1.aam (l:=[c1,c2]) hd hx hb hj ((rC (enc:=enc) (size:=2) ha).trans h4) rfl next
theorem Go1.atb{n:Nat}{cells l:List CA}[ht:fE P t n](hd:aC dst C.nt=true)(hx:st.ev x=some (.r (bJ cells)))(hl:cells.take n=l)(hn:l.length=n)
  (next:Reg P C ops rest (st.app dst ⟨.agg (l.map Atom.c),[]⟩) (([],[])::acc) K):Go1 P C ops dst (.load t x) ty rest st acc K:=
 Go1.bY [] [] (by simp) hd (by simp) (fun o ho _ st' E S a w hev hs _=>by
  obtain⟨h0,_⟩:=hs.ev ((hev x (by simp[ho,Op.operands])).trans hx)
  obtain⟨b,o',hv,h6⟩:=ni.1 h0;have h7:∀i c,l[i]? =some c→∃u,¬S b∧w.cell? ⟨b,o'+i,none⟩=some u∧c.has S w u:=fun i c hi=>by
   rw[←hl,List.getElem?_take]at hi
   split at hi
   ·exact h6 i c hi
   ·cases hi
  have hex:=uV (E:=E) l o' h7;obtain⟨us,hall,hus⟩:=hex;have hlen:=hall.length;have hrun:=run_loadCells_list (P:=P) w ⟨b,o',none⟩ us hus;have hsz:(P.info? t).map (·.size)=some us.length:=by rw[ht.s,←hn];simp at hlen;rw[hlen]
  refine⟨fun j hj=>?_,.agg us.toArray,?_,us,rfl,hall⟩
  ·simp only[AV.ids,AV0.ids,List.mem_flatMap]at hj;obtain⟨c,hc,hj⟩:=hj;obtain⟨c',_,rfl⟩:=List.mem_map.1 hc;cases hj
  ·unfold execOp;rw[ho];simp[hv,Instr.loadAt,Instr.sureAddr,loadVar,gT ht.h,run_sizeOf hsz,hrun]) next
theorem G.aht{c1 c2 c3:CA}{cells:List CA}[ht:fE P t 3](next:Reg P C ops rest (st.app dst ⟨.agg [.c c1,.c c2,.c c3],[]⟩) (([],[])::acc) K)(hd:aC dst C.nt=true:=by rfl)(hx:st.ev x=some (.r (bJ cells)):=by rfl)(hl:cells.take 3=[c1,c2,c3]:=by rfl):Go1 P C ops dst (.load t x) ty rest st acc K:=
 Go1.atb hd hx hl rfl next
end
structure HeldM(q:Prop):Prop where
 out:q
theorem goM{p q:Prop}(h:q)(k:HeldM q→p:=by
  intro h
  (first
   |(refine SX.Go1.is ?_;first
     |(refine SX.Go1.isLoad ?_;first|refine SX.G.abG ?_|refine SX.G.ab3 ?_|refine SX.G.xw ?_|refine SX.G.xE ?_|refine SX.G.abF ?_|refine SX.G.xB ?_|refine SX.G.load5 ?_|refine SX.G.anS ?_|refine SX.G.aly ?_|refine SX.G.ai7 ?_|refine SX.G.aie ?_|refine SX.G.aiM ?_|refine SX.G.ahI ?_|refine SX.G.aam ?_|refine SX.G.ahx ?_|refine SX.G.loadOW2 ?_|refine SX.G.ab4 ?_|refine SX.G.wh ?_|refine SX.G.adH ?_|refine SX.G.aaI ?_)
     |(refine SX.Go1.ah5 ?_;first|refine SX.G.lss ?_|refine SX.G.eql ?_|refine SX.G.eqlNilT ?_|refine SX.G.eqlNilF ?_|refine SX.G.neq ?_|refine SX.G.gtr ?_|refine SX.G.geq ?_|refine SX.G.leq ?_|refine SX.G.addN ?_|refine SX.G.ajq ?_|refine SX.G.subN ?_|refine SX.G.subNu ?_|refine SX.G.add ?_|refine SX.G.sub ?_|refine SX.G.mulN ?_|refine SX.G.ah1 ?_|refine SX.G.mul ?_|refine SX.G.quoN ?_|refine SX.G.ah8 ?_|refine SX.G.quo ?_|refine SX.G.remN ?_|refine SX.G.ai2 ?_|refine SX.G.rem ?_|refine SX.G.eqlT ?_|refine SX.G.arC ?_|refine SX.G.aqY ?_|refine SX.G.aru ?_|refine SX.G.neqT ?_|refine SX.G.akb ?_|refine SX.G.aj4 ?_|refine SX.G.shr ?_|refine SX.G.shl ?_|refine SX.G.and ?_|refine SX.G.akH ?_)
     |(refine SX.Go1.isUn ?_;first|refine SX.G.not ?_|refine SX.G.neg ?_)
     |(refine SX.Go1.isField ?_;first|refine SX.G.fieldAddr ?_|refine SX.G.kD ?_)
     |(refine SX.Go1.yH ?_;first|refine SX.G.aoR ?_|refine SX.G.amb ?_|refine SX.G.wW ?_|refine SX.G.xq ?_|refine SX.G.wQ ?_|refine SX.G.build5 ?_|refine SX.G.ahO ?_|refine SX.G.ajo ?_|refine SX.G.ah4 ?_|refine SX.G.build ?_)
     |(refine SX.Go1.yR ?_;first|refine SX.G.store ?_|refine SX.G.adg ?_|refine SX.G.ad2 ?_|refine SX.G.yS ?_|refine SX.G.zI ?_|refine SX.G.xA ?_)
     |(refine SX.Go1.isIx ?_;first|refine SX.G.nY ?_|refine SX.G.oh ?_|refine SX.G.kG ?_|refine SX.G.oH ?_|refine SX.G.ko ?_|refine SX.G.indexAddrA ?_|refine SX.G.indexAddrG ?_)
     |(refine SX.Go1.tT ?_;first|refine SX.G.lit0Own ?_|refine SX.G.litH ?_|refine SX.G.adM ?_|refine SX.G.aja ?_|refine SX.G.lit2 ?_|refine SX.G.lit3 ?_|refine SX.G.ak3 ?_)
     |(refine SX.Go1.dY ?_;first|refine SX.G.minN ?_|refine SX.G.maxN ?_|refine SX.G.maxL ?_|refine SX.G.maxR ?_|refine SX.G.ajH ?_|refine SX.G.lenN ?_|refine SX.G.lenT ?_|refine SX.G.ale ?_|refine SX.G.ajv ?_|refine SX.G.zf ?_|refine SX.G.appendNilW ?_|refine SX.G.aii ?_|refine SX.G.sliceDataN ?_|refine SX.G.aal ?_|refine SX.G.unsafeStrN ?_|refine SX.G.aag ?_|refine SX.G.lenH ?_|refine SX.G.yZ ?_|refine SX.G.arp ?_|refine SX.G.ara ?_|refine SX.G.aiy ?_|refine SX.G.yE ?_|refine SX.G.call ?_)
     |refine SX.G.move ?_|refine SX.G.assign ?_|refine SX.G.extract ?_|refine SX.G.boxN ?_|refine SX.G.box ?_|refine SX.G.zL ?_|refine SX.G.alloc ?_|refine SX.G.ab6 ?_|refine SX.G.acn ?_|refine SX.G.mkfn ?_|refine SX.G.arh ?_|refine SX.G.ar5 ?_|refine SX.G.arz ?_|refine SX.G.pick ?_|refine SX.R.aiK ?_|refine SX.R.ahL ?_|refine SX.G.pickB ?_|refine SX.G.pickV ?_|refine SX.G.ahB ?_|refine SX.G.aiO ?_|refine SX.G.makeC ?_|refine SX.G.ahQ ?_|refine SX.G.conv ?_|refine SX.G.ad4 ?_|refine SX.G.anr ?_|refine SX.G.adv ?_|refine SX.G.uI ?_|refine SX.G.sliceLoW ?_|refine SX.G.qH ?_|refine SX.G.sliceLoR ?_|refine SX.G.sliceHiO ?_|refine SX.G.uX ?_|refine SX.G.uo ?_|refine SX.G.sliceLHT ?_|refine SX.G.ard ?_|refine SX.G.loadB15 ?_|refine SX.G.ail ?_|refine SX.G.lookM0 ?_|refine SX.G.putM ?_|refine SX.G.makeMap ?_|refine SX.G.aht ?_|refine SX.G.loadRT4 ?_|refine SX.G.loadRT2 ?_|refine SX.G.alZ ?_|refine SX.G.acL ?_|refine SX.G.qh ?_|refine SX.G.qD ?_|refine SX.G.sliceLHS ?_|refine SX.G.aaJ ?_)
   |(refine SX.Reg.is ?_;first|refine SX.Reg.go ?_|refine SX.R.runT ?_|refine SX.R.runF ?_|refine SX.R.ahW ?_|refine SX.R.ah0 ?_|refine SX.R.abB ?_|refine SX.Reg.nil ⟨by kernel_rfl,?_⟩|refine SX.Reg.nil ?_)
   |(refine SX.WP.is ?_;first|refine SX.WP.seq ?_|refine SX.WP.aik (by rfl) ?_|refine SX.WP.aft (by rfl) (by kernel_rfl) ?_|refine SX.WP.block ?_|refine SX.WP.skip ?_|refine SX.WP.exit ?_|refine SX.WP.ret ?_|refine SX.WP.label ?_|refine SX.W.ajr ?_|refine SX.W.aau ?_)
   |refine SX.aeC ?_|refine SX.amZ ?_|refine SX.aqZ ?_|refine SX.amK ?_|refine SX.am8 ?_|refine SX.ahf ?_|refine SX.am9 rfl ?_|refine SX.retR ?_|refine SX.retN ?_|refine SX.arE ?_|refine SX.ars ?_)
  repeat(first
   |(refine SX.Go1.is ?_;first
     |(refine SX.Go1.isLoad ?_;first|refine SX.G.abG ?_|refine SX.G.ab3 ?_|refine SX.G.xw ?_|refine SX.G.xE ?_|refine SX.G.abF ?_|refine SX.G.xB ?_|refine SX.G.load5 ?_|refine SX.G.anS ?_|refine SX.G.aly ?_|refine SX.G.ai7 ?_|refine SX.G.aie ?_|refine SX.G.aiM ?_|refine SX.G.ahI ?_|refine SX.G.aam ?_|refine SX.G.ahx ?_|refine SX.G.loadOW2 ?_|refine SX.G.ab4 ?_|refine SX.G.wh ?_|refine SX.G.adH ?_|refine SX.G.aaI ?_)
     |(refine SX.Go1.ah5 ?_;first|refine SX.G.lss ?_|refine SX.G.eql ?_|refine SX.G.eqlNilT ?_|refine SX.G.eqlNilF ?_|refine SX.G.neq ?_|refine SX.G.gtr ?_|refine SX.G.geq ?_|refine SX.G.leq ?_|refine SX.G.addN ?_|refine SX.G.ajq ?_|refine SX.G.subN ?_|refine SX.G.subNu ?_|refine SX.G.add ?_|refine SX.G.sub ?_|refine SX.G.mulN ?_|refine SX.G.ah1 ?_|refine SX.G.mul ?_|refine SX.G.quoN ?_|refine SX.G.ah8 ?_|refine SX.G.quo ?_|refine SX.G.remN ?_|refine SX.G.ai2 ?_|refine SX.G.rem ?_|refine SX.G.eqlT ?_|refine SX.G.arC ?_|refine SX.G.aqY ?_|refine SX.G.aru ?_|refine SX.G.neqT ?_|refine SX.G.akb ?_|refine SX.G.aj4 ?_|refine SX.G.shr ?_|refine SX.G.shl ?_|refine SX.G.and ?_|refine SX.G.akH ?_)
     |(refine SX.Go1.isUn ?_;first|refine SX.G.not ?_|refine SX.G.neg ?_)
     |(refine SX.Go1.isField ?_;first|refine SX.G.fieldAddr ?_|refine SX.G.kD ?_)
     |(refine SX.Go1.yH ?_;first|refine SX.G.aoR ?_|refine SX.G.amb ?_|refine SX.G.wW ?_|refine SX.G.xq ?_|refine SX.G.wQ ?_|refine SX.G.build5 ?_|refine SX.G.ahO ?_|refine SX.G.ajo ?_|refine SX.G.ah4 ?_|refine SX.G.build ?_)
     |(refine SX.Go1.yR ?_;first|refine SX.G.store ?_|refine SX.G.adg ?_|refine SX.G.ad2 ?_|refine SX.G.yS ?_|refine SX.G.zI ?_|refine SX.G.xA ?_)
     |(refine SX.Go1.isIx ?_;first|refine SX.G.nY ?_|refine SX.G.oh ?_|refine SX.G.kG ?_|refine SX.G.oH ?_|refine SX.G.ko ?_|refine SX.G.indexAddrA ?_|refine SX.G.indexAddrG ?_)
     |(refine SX.Go1.tT ?_;first|refine SX.G.lit0Own ?_|refine SX.G.litH ?_|refine SX.G.adM ?_|refine SX.G.aja ?_|refine SX.G.lit2 ?_|refine SX.G.lit3 ?_|refine SX.G.ak3 ?_)
     |(refine SX.Go1.dY ?_;first|refine SX.G.minN ?_|refine SX.G.maxN ?_|refine SX.G.maxL ?_|refine SX.G.maxR ?_|refine SX.G.ajH ?_|refine SX.G.lenN ?_|refine SX.G.lenT ?_|refine SX.G.ale ?_|refine SX.G.ajv ?_|refine SX.G.zf ?_|refine SX.G.appendNilW ?_|refine SX.G.aii ?_|refine SX.G.sliceDataN ?_|refine SX.G.aal ?_|refine SX.G.unsafeStrN ?_|refine SX.G.aag ?_|refine SX.G.lenH ?_|refine SX.G.yZ ?_|refine SX.G.arp ?_|refine SX.G.ara ?_|refine SX.G.aiy ?_|refine SX.G.yE ?_|refine SX.G.call ?_)
     |refine SX.G.move ?_|refine SX.G.assign ?_|refine SX.G.extract ?_|refine SX.G.boxN ?_|refine SX.G.box ?_|refine SX.G.zL ?_|refine SX.G.alloc ?_|refine SX.G.ab6 ?_|refine SX.G.acn ?_|refine SX.G.mkfn ?_|refine SX.G.arh ?_|refine SX.G.ar5 ?_|refine SX.G.arz ?_|refine SX.G.pick ?_|refine SX.R.aiK ?_|refine SX.R.ahL ?_|refine SX.G.pickB ?_|refine SX.G.pickV ?_|refine SX.G.ahB ?_|refine SX.G.aiO ?_|refine SX.G.makeC ?_|refine SX.G.ahQ ?_|refine SX.G.conv ?_|refine SX.G.ad4 ?_|refine SX.G.anr ?_|refine SX.G.adv ?_|refine SX.G.uI ?_|refine SX.G.sliceLoW ?_|refine SX.G.qH ?_|refine SX.G.sliceLoR ?_|refine SX.G.sliceHiO ?_|refine SX.G.uX ?_|refine SX.G.uo ?_|refine SX.G.sliceLHT ?_|refine SX.G.ard ?_|refine SX.G.loadB15 ?_|refine SX.G.ail ?_|refine SX.G.lookM0 ?_|refine SX.G.putM ?_|refine SX.G.makeMap ?_|refine SX.G.aht ?_|refine SX.G.loadRT4 ?_|refine SX.G.loadRT2 ?_|refine SX.G.alZ ?_|refine SX.G.acL ?_|refine SX.G.qh ?_|refine SX.G.qD ?_|refine SX.G.sliceLHS ?_|refine SX.G.aaJ ?_)
   |(refine SX.Reg.is ?_;first|refine SX.Reg.go ?_|refine SX.R.runT ?_|refine SX.R.runF ?_|refine SX.R.ahW ?_|refine SX.R.ah0 ?_|refine SX.R.abB ?_|refine SX.Reg.nil ⟨by kernel_rfl,?_⟩|refine SX.Reg.nil ?_)
   |(refine SX.WP.is ?_;first|refine SX.WP.seq ?_|refine SX.WP.aik (by rfl) ?_|refine SX.WP.aft (by rfl) (by kernel_rfl) ?_|refine SX.WP.block ?_|refine SX.WP.skip ?_|refine SX.WP.exit ?_|refine SX.WP.ret ?_|refine SX.WP.label ?_|refine SX.W.ajr ?_|refine SX.W.aau ?_)
   |refine SX.aeC ?_|refine SX.amZ ?_|refine SX.aqZ ?_|refine SX.amK ?_|refine SX.am8 ?_|refine SX.ahf ?_|refine SX.am9 rfl ?_|refine SX.retR ?_|refine SX.retN ?_|refine SX.arE ?_|refine SX.ars ?_)
  exact h.out):p:=k ⟨h⟩
end
end SX