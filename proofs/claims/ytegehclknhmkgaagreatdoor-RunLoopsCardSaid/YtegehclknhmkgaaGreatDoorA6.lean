import Derived.Test.YtegehclknhmkgaaGreatDoorA4
import Derived.Test.YtegehclknhmkgaaGreatDoorA5
import Derived.Laws.BytesString
set_option linter.unusedVariables false
set_option linter.unusedSimpArgs false
namespace SX
open Go Go.RowKit
section
section
variable{P:Program}{C:Ctx}{st:St}
variable{ops rest:List Oper}{acc:List (List Nat×List Nat)}{K:List (List Nat×List Nat)→St→Prop}{dst:Option Tmp}{d:Tmp}{op:Op}{ty t t':TypeId}{x y z:Operand}
end
end
section
section
variable{P:Program}
def mV(P:Program)(f:FuncId)(args:List AV)(t:TypeId)(size n:Nat)(cells:List CA):Prop:=ah P f args [] ⟨.own 100,[(100,.ent (.row t size n cells))]⟩
theorem mV.at{f:FuncId}{args:List AV}{t:TypeId}{size n:Nat}{cells:List CA}(h:mV P f args t size n cells)(d:Nat):ah P f args [] ⟨.own d,[(d,.ent (.row t size n cells))]⟩:=by
 refine⟨h.1,fun E S w vs hl hg hv h1 h2 h3=>(h.2 E S w vs hl hg hv (fun b e hb=>by cases hb) (fun b e k hb=>by cases hb) (fun b b' e e' k _ hb=>by cases hb)).mono ?_⟩
 rintro e w' ⟨v,E',S',rfl,hE⟩;have hres:v=E'.sl 100∧v.oneCell'=true:=hE.res;obtain⟨us,hown,hall⟩:=hE.ents 100 (.row t size n cells) (by simp)
 refine⟨v,⟨E.blk,upd E.sl d (E'.sl 100),E.fp⟩,S',rfl,{env:=fun b hb=>?_,fpe:=fun _ _=>rfl,sub:=hE.sub,new:=hE.new,lt:=hE.lt,off:=hE.off,res:=?_,ents:=fun b e hb=>?_,blk:=fun b e k hb hk=>?_,sep:=fun b b' e e' k hne hb hb'=>?_}⟩
 ·by_cases hbd:b=d
  ·subst hbd;obtain⟨e,he⟩:=hb ⟨_,by simp;rfl⟩
   cases he
  ·exact⟨rfl,upd_ne _ _ hbd⟩
 ·show v=upd E.sl d (E'.sl 100) d∧_;rw[upd_same];exact hres
 ·simp at hb;obtain⟨rfl,rfl⟩:=hb
  refine⟨us,?_,hall⟩;show w'.ownsRow 0 t size (upd E.sl b (E'.sl 100) b) n us;rw[upd_same];exact hown
 ·simp at hb;obtain⟨rfl,rfl⟩:=hb
  have hk':(upd E.sl b (E'.sl 100) b).ownBlock=some k:=hk;rw[upd_same]at hk';exact hE.blk 100 (.row t size n cells) k (by simp) hk'
 ·simp at hb hb';exact absurd (hb.1.trans hb'.1.symm) hne
theorem mV.pure{f:FuncId}{args:List AV}{t:TypeId}{size n:Nat}{cells:List CA}(h:mV P f args t size n cells):PureOK P f args (.r (aM size n cells)):=by
 refine⟨h.1,fun E S w vs hl hg hv h1 h2 h3=>(h.2 E S w vs hl hg hv (fun b e hb=>by cases hb) (fun b e k hb=>by cases hb) (fun b b' e e' k _ hb=>by cases hb)).mono ?_⟩
 rintro e w' ⟨v,E',S',rfl,hE⟩;have hres:v=E'.sl 100∧v.oneCell'=true:=hE.res;obtain⟨us,hown,hall⟩:=hE.ents 100 (.row t size n cells) (by simp)
 have hnew:∀k,(E'.sl 100).ownBlock=some k→w.heap.size≤k:=fun k hk=>by
  rcases(hE.blk 100 (.row t size n cells) k (by simp) hk).2 with⟨b,e,hb,_⟩|h
  ·cases hb
  ·exact h
 have hlen:cells.length=n*size:=by rw[hall.length,hown.1]
 refine⟨v,E,fun k=>S' k∧(E'.sl 100).ownBlock≠some k,rfl,{env:=fun b hb=>⟨rfl,rfl⟩,fpe:=fun _ _=>rfl,sub:=fun k hk=>⟨hE.sub k hk,fun h=>?_⟩,new:=fun k hk=>hE.new k hk.1,lt:=fun k hk=>hE.lt k hk.1,off:=hE.off,res:=?_,ents:=fun b e hb=>(by cases hb),blk:=fun b e k hb=>(by cases hb),sep:=fun b b' e e' k _ hb=>(by cases hb)}⟩
 ·have:=hnew k h;have:=hl k hk;omega
 ·show (aM size n cells).has _ w' v;rw[hres.1];rcases hown.2 with⟨hv,h0⟩|⟨g,cap,cur,hv,_,hg,hn,hm,hcs,htk⟩
  ·refine bB.2 ⟨none,0,by rw[hv,h0],by omega,Nat.zero_le _,fun _=>rfl,hlen,fun i c hc=>?_⟩
   have:cells.length=0:=by rw[hlen,h0,Nat.zero_mul]
   rw[List.eq_nil_of_length_eq_zero this]at hc;simp at hc
  ·refine bB.2 ⟨some ⟨g,0,none⟩,cap,hv,hn,hm,(fun h=>by cases h),hlen,fun i c hc=>?_⟩
   obtain⟨u,hu,huc⟩:=hall.get hc;have hown':=hown;rw[hv]at hown';have hcell:=hown'.cells (g:=g) rfl i u hu;refine⟨g,0,u,rfl,fun h=>h.2 (by rw[hv];rfl),by simpa[Addr.add_lit]using hcell,huc.step (Off.refl S' w') (fun k hk=> .inl hk.1)⟩
class ConO(P:Program)(f:FuncId)(args:List AV)(pre:outParam Prop)(t:outParam TypeId)(size n:outParam Nat)(cells:outParam (List CA)):Prop where
 h:pre→mV P f args t size n cells
open Classical in
theorem mV.fnF{f:FuncId}{fn:Func}{c:Code}{args:List AV}{t:TypeId}{size n:Nat}{cells:List CA}{nt:Nat}{rs:List ResultVar}(hf:P.funcs[f]? =some fn)(hres:fn.results=rs.toArray)(hnt:fn.ntmps=nt)(hb:fn.body=some c)(hn:(fn.name== "runtime.NumGoroutine")=false)(hna:Nat.ble args.length nt=true)
  (haid:∀v∈args,v.ids=[]) (h:∀(w0:World) (T B:Nat→Prop) (E0:Env),(∀k,¬B k)→WP P ⟨w0,T,B,nt,E0,fun _=>false⟩ c ⟨fun t=>args[t]?,fun _=> .free⟩ (SX.bI ⟨w0,T,B,nt,E0,fun _=>false⟩ P rs ⟨.own 100,[(100,.ent (.row t size n cells))]⟩)):mV P f args t size n cells:=
 ah.fn hf hres hnt hb hn hna (fun b e hb=>by cases hb) (fun v hv i hi=>by rw[haid v hv]at hi;cases hi) (fun b e hb=>by cases hb) (fun b e hb=>by cases hb)
  (fun i hi=>by
   right
   rcases hi with hi|⟨b,e,hb,hi⟩
   ·have:i=100:=by simpa[AV.ids,AV0.ids,Atom.ids]using hi
    subst this;exact⟨_,by simp;rfl⟩
   ·simp at hb;obtain⟨rfl,rfl⟩:=hb;cases hi) (fun w0 T B E0 hB=>WP.bI (h w0 T B E0 fun k hk=>let⟨_,_,hb,_⟩:=hB k hk;by cases hb))
end
section
variable{P:Program}{C:Ctx}{st:St}
variable{ops rest:List Oper}{acc:List (List Nat×List Nat)}{K:List (List Nat×List Nat)→St→Prop}{dst:Option Tmp}{d:Tmp}{op:Op}{ty t t':TypeId}{x y z:Operand}{k k':IntKind}{i j:Nat}{za zb zi zj:Int}
theorem G.wI{f:FuncId}{as:Array Operand}{tys:Array TypeId}{args:List AV}{e:TypeId}{size n:Nat}{cells:List CA}(next:Reg P C ops rest (st.app (some d) ⟨.own d,[(d,.ent (.row e size n cells))]⟩) (([d],[d])::acc) K)(ha:evs st as.toList=some args:=by rfl)
  (hc:mV P f args e size n cells:=by first|(with_reducible assumption)|assumption|exact SX.ConO.use (by first|trivial|omega|assumption|(refine⟨?_,?_⟩ <;> first|omega|assumption)|(refine⟨?_,?_,?_⟩ <;> first|omega|assumption))) (hd:ay (some d) C.nt=true:=by rfl) (hf:st.hp d= .free:=by rfl):Go1 P C ops (some d) (.call ⟨.value (.func f),as,tys⟩) ty rest st acc K:=
 Go1.aaO (cap:=[]) (pre:=[]) (out:=⟨.own d,[(d,.ent (.row e size n cells))]⟩) (fp:=[d]) hd rfl ha (by simpa using hc.at d) (fun b e hb=>by cases hb) (fun b s hb=>by simp at hb;rw[hb.1];exact .inr hf) (fun b s hb=>by simp at hb;rw[hb.2];rfl) (fun b s hb=>by simp at hb;simp[hb.1])
  (fun i hi=>by
   left
   rcases hi with hi|⟨b,e,hb,hi⟩
   ·have:i=d:=by simpa[AV.ids,AV0.ids,Atom.ids]using hi
    subst this;exact⟨_,by simp;rfl⟩
   ·simp at hb;obtain⟨rfl,rfl⟩:=hb;cases hi) next
theorem G.aga{e:TypeId}{n bytes:Nat}{z:Value}[ht:aZ P t e 1][he:eH P e [z] bytes](next:Reg P C ops rest (st.app (some d) ⟨.own d,[(d,.ent (.row e 1 n (List.replicate n (.val z))))]⟩) (([d],[d])::acc) K)(hd:ay (some d) C.nt=true:=by rfl)(hx:st.ev x=some (.v (.int k zi)):=by rfl)(hx0:zi=(n:Int):=by first|with_reducible rfl|exact SX.jw _|rfl)(hy:st.ev y=some (.v (.int k' zj)):=by rfl)(hy0:zj=(n:Int):=by first|with_reducible rfl|exact SX.jw _|rfl)(hf:st.hp d= .free:=by rfl)
  (hb:n*bytes≤140737488355328:=by omega) (hm:n≤9223372036854775807:=by omega):Go1 P C ops (some d) (.makeSlice t x y) ty rest st acc K:=
 Go1.make hd (evz hx hx0) (evz hy hy0) hf hb hm next
theorem G.abh{e:TypeId}{b off n size:Nat}{cells:List CA}{c:CA}[ht:gU P t](next:Reg P C ops rest (st.app none ⟨.v undef,[(b,.ent (.row e size n (spl cells off [c])))]⟩) (([b],[b])::acc) K)(hx:st.ev x=some (.it (.one (.rptr b off))):=by rfl)(hy:st.ev y=some (.it (.one (.c c))):=by rfl)(hb:st.hp b= .ent (.row e size n cells):=by rfl)(hl:off+1≤n*size:=by omega)
  (h1:[Atom.c c].all Atom.dS=true:=by rfl):Go1 P C ops none (.store t x y) ty rest st acc K:=
 Go1.xP (m:=1) ht.s hx hy hb rfl hl h1 rfl rfl next
theorem Go1.ahn{l m:List UInt8}(hd:ay dst C.nt=true)(hx:st.ev x=some (.v (str l)))(hy:st.ev y=some (.v (str m)))(hb:l.length+m.length≤9223372036854775807)(next:Reg P C ops rest (st.app dst ⟨.v (str (l++m)),[]⟩) (([],[])::acc) K):Go1 P C ops dst (.binOp .add t x y t') ty rest st acc K:=
 Go1.og hd rfl hx hy (fun ρ o w ho h1 h2=>by
  unfold execOp;rw[ho];have hap:(⟨⟨l⟩⟩:ByteArray)++⟨⟨m⟩⟩=⟨⟨l++m⟩⟩:=by
   apply ByteArray.ext;simp
  have hl2:(((⟨⟨l⟩⟩:ByteArray).size:Nat):Int)+(((⟨⟨m⟩⟩:ByteArray).size:Nat):Int)≤9223372036854775807:=by
   show ((l.length:Nat):Int)+((m.length:Nat):Int)≤9223372036854775807;omega
  simp[h1,h2,eqGuard,binOp,Op.stringOp,hap]
  exact hl2) next
theorem G.ahn{l m:List UInt8}(next:Reg P C ops rest (st.app dst ⟨.v (str (l++m)),[]⟩) (([],[])::acc) K)(hd:ay dst C.nt=true:=by rfl)(hx:st.ev x=some (.v (str l)):=by rfl)(hy:st.ev y=some (.v (str m)):=by rfl)(hb:l.length+m.length≤9223372036854775807:=by(try simp only[List.length_cons,List.length_nil,List.length_append]);omega):Go1 P C ops dst (.binOp .add t x y t') ty rest st acc K:=
 Go1.ahn hd hx hy hb next
structure xJ(d:Nat):Prop where
theorem G.abb{e:TypeId}{size bytes:Nat}{zs:List Value}{v:AV0}{m:List CA}[ht:aZ P t e size][he:eH P e zs bytes](next:Reg P C ops rest (st.app (some d) ⟨.own d,[(d,.ent (.row e size 1 m))]⟩) (([d],[d])::acc) K)(hown:xJ d:=by assumption)(hd:ay (some d) C.nt=true:=by rfl)(hf:st.hp d= .free:=by rfl)(hx:st.ev x=some (.it v):=by rfl)(hc:aP v.cells=some m:=by rfl)
  (hm:(Nat.beq m.length size&&Nat.ble size 1000&&v.cells.all Atom.dS)=true:=by rfl):Go1 P C ops (some d) (.buildSlice t 1 #[(0,x)]) ty rest st acc K:=by
 simp only[Bool.and_eq_true]at hm;obtain⟨⟨h1,h2⟩,h3⟩:=hm;have hl:m.length=size:=Nat.eq_of_beq_eq_true h1;have h2':size≤1000:=by simpa[Nat.ble_eq]using h2
 have hvl:v.cells.length=size:=by rw[←oh hc];exact hl
 refine Go1.buildSlice (ps:=[(0,v)]) (l:=v.cells) (m:=m) hd hf (by simp only[evp,hx]) ?_ ?_ ?_ hc ?_ next
 ·simp only[List.all_cons,List.all_nil,Bool.and_true,h3,Bool.true_and];rfl
 ·rw[Nat.one_mul,Nat.ble_eq];omega
 ·have hpl:(placesOf 1 size)[0]? =some (0,size):=by simp[placesOf]
  have hz:((madeCells zs.toArray (1*size)).toList.map fun v=>Atom.c (.val v)).length=size:=by simp[size_madeCells]
  have e1:Nat.beq v.cells.length size=true:=by rw[hvl];exact Nat.beq_refl _
  simp only[eT,hpl];rw[hz,e1,Nat.zero_add,show Nat.ble size size=true by rw[Nat.ble_eq];exact Nat.le_refl _]
  simp only[Bool.and_self];rw[gJ _ _ _ (by rw[hz,hvl];omega),hvl,List.take_zero,List.nil_append,Nat.zero_add,List.drop_of_length_le (by rw[hz];exact Nat.le_refl _),List.append_nil]
 ·rw[hl,Nat.one_mul];exact Nat.beq_refl _
theorem aaU{α:Type}{enc:α→List CA}[eB enc 1]{l:List α}{i:Nat}{a:α}{c:CA}(he:enc a=[c])(ha:l[i]? =some a):(l.flatMap enc)[i*1]? =some c:=by
 have hf:=wY (enc:=enc) ha;rw[he]at hf;have:=congrArg (·[0]?) hf;simpa[List.getElem?_take,List.getElem?_drop]using this
theorem G.abQ{α:Type}{enc:α→List CA}{l:List α}{a:α}{e:TypeId}{b n size:Nat}{c:CA}[ht:gU P t][hz:eB enc 1](next:Reg P C ops rest (st.app dst ⟨.it (.one (.c c)),[]⟩) (([b],[])::acc) K)(hd:ay dst C.nt=true:=by rfl)(hx:st.ev x=some (.it (.one (.rptr b (i*1)))):=by rfl)(hb:st.hp b= .ent (.row e size n (l.flatMap enc)):=by rfl)(ha:l[i]? =some a:=by assumption)(he:enc a=[c]:=by rfl):Go1 P C ops dst (.load t x) ty rest st acc K:=
 Go1.yD hd hx hb (aaU he ha) next
instance:alk .u8 255:=⟨fun m h=>by show IntKind.wrap .u8 (m:Int)=m;rw[IntKind.wrap_u8];omega⟩
theorem G.agV{a b:Nat}[h1:yE P t k][h2:yE P t' k'][hw:alk k' b](next:Reg P C ops rest (st.app dst ⟨.v (.int k' ((a:Nat):Int)),[]⟩) (([],[])::acc) K)(hd:ay dst C.nt=true:=by rfl)(hx:st.ev x=some (.v (.int k za)):=by rfl)(hx0:za=(a:Int):=by first|with_reducible rfl|exact SX.jw _|rfl)(hb:a≤b:=by first|omega|assumption):Go1 P C ops dst (.convert t t' x) ty rest st acc K:=
 Go1.conv hd (evz hx hx0) (hw.h a hb) next
def jA(b:UInt8):List CA:=[.val (.int .u8 (b.toNat:Int))]
instance:eB jA 1:=⟨fun _=>rfl⟩
instance:afp jA:=⟨fun _=>rfl⟩
theorem pushes:∀(l:List UInt8) (s:ByteArray),((l.map fun b=>(b.toNat:Int)).foldl (fun r n=>r.push (UInt8.ofNat n.toNat)) s).data.toList=s.data.toList++l
 |[],s=>by simp
 |b::l,s=>by
  rw[List.map_cons,List.foldl_cons,pushes l];simp
theorem G.abI{e:TypeId}{l:List UInt8}{r:Rep}[h1:aZ P t e 1][h2:yE P e .u8][h3:yY P t'](next:Reg P C ops rest (st.app dst ⟨.v (str l),[]⟩) (([],[])::acc) K)(hd:ay dst C.nt=true:=by rfl)(hx:st.ev x=some (.r r):=by rfl)(hr:aaQ r 1 jA l:=by infer_instance):Go1 P C ops dst (.convert t t' x) ty rest st acc K:=
 Go1.cK [] [] (by simp) hd (by simp) (fun o ho _ st' E S a w hev hs _=>by
  obtain⟨h4,_⟩:=hs.ev ((hev x (by simp[ho,Op.operands])).trans hx)
  obtain⟨oa,cap,hv,hn,hc,h0,hlen,hcell⟩:=bB.1 (hr.h _ _ _ h4);refine⟨fun i hi=>(by cases hi),.string ⟨⟨l⟩⟩,?_,rfl⟩
  unfold execOp;rw[ho];have hcv:(convert t t' (a.eval x)).run P w=(Conv.bytesToString (a.eval x)).run P w:=by
   rw[hv];simp[convert,run_underlying h1.h,run_underlying h2.h,run_underlying h3.h]
  have hrun:(Conv.bytesToString (a.eval x)).run P w= .ok (.string ⟨⟨l⟩⟩) w:=by
   rw[hv];cases oa with
   |none=>
    have h00:=h0 rfl;have:l=[]:=List.eq_nil_of_length_eq_zero (by have:=hn;omega)
    subst this;rfl
   |some ad=>
    rw[run_bytesToString w ad l.length cap (l.map fun b=>(b.toNat:Int))]
    ·congr 2
     exact ByteArray.ext (Array.ext' (by rw[pushes];rfl))
    ·have hl1:((l.map fun b=>(b.toNat:Int)).map (Value.int .u8)).length=l.length:=by simp
     have:=run_loadCells_list (P:=P) (w:=w) ad ((l.map fun b=>(b.toNat:Int)).map (Value.int .u8)) (fun j v hj=>by
      rw[List.map_map,List.getElem?_map]at hj
      obtain⟨b,hb,rfl⟩:=Option.map_eq_some_iff.1 hj;have hf:=aaU (enc:=jA) (c:= .val (.int .u8 (b.toNat:Int))) rfl hb;rw[Nat.mul_one]at hf;obtain⟨bk,off,u,e1,_,e2,e3⟩:=hcell j _ hf;cases e1;rw[Addr.add_lit,e2,show u=_ from e3];rfl)
     rwa [hl1]at this
  simp[hcv,hrun]) next
theorem retO{t:Tmp}{e:TypeId}{size n:Nat}{cells:List CA}(hle:St.le C st (eZ [(t,.own 100)] [(100,.row e size n cells)]):=by first|(apply SX.St.lt0;(· (intro b h;first|(cases h;done)|exact⟨rfl,h⟩|exact SX.dw h));(· (repeat(first|exact trivial|refine⟨⟨_,rfl,SX.aG.same rfl⟩,?_⟩|refine⟨⟨_,rfl,SX.aG.own rfl⟩,?_⟩|refine⟨⟨_,rfl,SX.aG.nil rfl⟩,?_⟩|refine⟨⟨_,rfl,SX.aG.int (by first|(with_reducible assumption)|omega|(simp;done)|assumption)⟩,?_⟩|refine⟨⟨_,rfl,SX.aG.str (by first|(with_reducible assumption)|(simp;done)|assumption)⟩,?_⟩|refine⟨⟨_,rfl,SX.aG.bool (by first|(with_reducible assumption)|(simp;done)|assumption)⟩,?_⟩|refine⟨⟨_,rfl,SX.aG.eq (by first|(with_reducible assumption)|(simp[*];done)) rfl⟩,?_⟩)));(· (repeat(first|exact trivial|refine⟨SX.ak.row rfl rfl rfl rfl,?_⟩|refine⟨SX.ak.row rfl rfl (by first|rfl|(simp;done)) (by first|rfl|assumption|exact SX.bq rfl|exact SX.flat_one rfl|(simp;done)),?_⟩|refine⟨SX.ak.dL rfl,?_⟩|refine⟨SX.ak.eq rfl rfl rfl,?_⟩|refine⟨SX.ak.same rfl rfl,?_⟩)));(· rfl))|(apply SX.St.ltn;(· (intro b h;first|(cases h;done)|exact⟨rfl,h⟩|exact SX.dw h));(· (repeat(first|exact trivial|refine⟨⟨_,rfl,SX.aG.same rfl⟩,?_⟩|refine⟨⟨_,rfl,SX.aG.own rfl⟩,?_⟩|refine⟨⟨_,rfl,SX.aG.nil rfl⟩,?_⟩|refine⟨⟨_,rfl,SX.aG.int (by first|(with_reducible assumption)|omega|(simp;done)|assumption)⟩,?_⟩|refine⟨⟨_,rfl,SX.aG.str (by first|(with_reducible assumption)|(simp;done)|assumption)⟩,?_⟩|refine⟨⟨_,rfl,SX.aG.bool (by first|(with_reducible assumption)|(simp;done)|assumption)⟩,?_⟩|refine⟨⟨_,rfl,SX.aG.eq (by first|(with_reducible assumption)|(simp[*];done)) rfl⟩,?_⟩)));(· (repeat(first|exact trivial|refine⟨SX.ak.row rfl rfl rfl rfl,?_⟩|refine⟨SX.ak.row rfl rfl (by first|rfl|(simp;done)) (by first|rfl|assumption|exact SX.bq rfl|exact SX.flat_one rfl|(simp;done)),?_⟩|refine⟨SX.ak.dL rfl,?_⟩|refine⟨SX.ak.eq rfl rfl rfl,?_⟩|refine⟨SX.ak.same rfl rfl,?_⟩)));(· rfl))|(apply SX.St.lt1;(· (intro b h;first|(cases h;done)|exact⟨rfl,h⟩|exact SX.dw h));(· (repeat(first|exact trivial|refine⟨⟨_,rfl,SX.aG.same rfl⟩,?_⟩|refine⟨⟨_,rfl,SX.aG.own rfl⟩,?_⟩|refine⟨⟨_,rfl,SX.aG.nil rfl⟩,?_⟩|refine⟨⟨_,rfl,SX.aG.int (by first|(with_reducible assumption)|omega|(simp;done)|assumption)⟩,?_⟩|refine⟨⟨_,rfl,SX.aG.str (by first|(with_reducible assumption)|(simp;done)|assumption)⟩,?_⟩|refine⟨⟨_,rfl,SX.aG.bool (by first|(with_reducible assumption)|(simp;done)|assumption)⟩,?_⟩|refine⟨⟨_,rfl,SX.aG.eq (by first|(with_reducible assumption)|(simp[*];done)) rfl⟩,?_⟩)));(· (repeat(first|exact trivial|refine⟨SX.ak.row rfl rfl rfl rfl,?_⟩|refine⟨SX.ak.row rfl rfl (by first|rfl|(simp;done)) (by first|rfl|assumption|exact SX.bq rfl|exact SX.flat_one rfl|(simp;done)),?_⟩|refine⟨SX.ak.dL rfl,?_⟩|refine⟨SX.ak.eq rfl rfl rfl,?_⟩|refine⟨SX.ak.same rfl rfl,?_⟩)));(· rfl))|(apply SX.St.ltnn;(· (intro b h;first|(cases h;done)|exact⟨rfl,h⟩|exact SX.dw h));(· (repeat(first|exact trivial|refine⟨⟨_,rfl,SX.aG.same rfl⟩,?_⟩|refine⟨⟨_,rfl,SX.aG.own rfl⟩,?_⟩|refine⟨⟨_,rfl,SX.aG.nil rfl⟩,?_⟩|refine⟨⟨_,rfl,SX.aG.int (by first|(with_reducible assumption)|omega|(simp;done)|assumption)⟩,?_⟩|refine⟨⟨_,rfl,SX.aG.str (by first|(with_reducible assumption)|(simp;done)|assumption)⟩,?_⟩|refine⟨⟨_,rfl,SX.aG.bool (by first|(with_reducible assumption)|(simp;done)|assumption)⟩,?_⟩|refine⟨⟨_,rfl,SX.aG.eq (by first|(with_reducible assumption)|(simp[*];done)) rfl⟩,?_⟩)));(· (repeat(first|exact trivial|refine⟨SX.ak.row rfl rfl rfl rfl,?_⟩|refine⟨SX.ak.row rfl rfl (by first|rfl|(simp;done)) (by first|rfl|assumption|exact SX.bq rfl|exact SX.flat_one rfl|(simp;done)),?_⟩|refine⟨SX.ak.dL rfl,?_⟩|refine⟨SX.ak.eq rfl rfl rfl,?_⟩|refine⟨SX.ak.same rfl rfl,?_⟩)));(· rfl))|(apply SX.St.lt11;(· (intro b h;first|(cases h;done)|exact⟨rfl,h⟩|exact SX.dw h));(· (repeat(first|exact trivial|refine⟨⟨_,rfl,SX.aG.same rfl⟩,?_⟩|refine⟨⟨_,rfl,SX.aG.own rfl⟩,?_⟩|refine⟨⟨_,rfl,SX.aG.nil rfl⟩,?_⟩|refine⟨⟨_,rfl,SX.aG.int (by first|(with_reducible assumption)|omega|(simp;done)|assumption)⟩,?_⟩|refine⟨⟨_,rfl,SX.aG.str (by first|(with_reducible assumption)|(simp;done)|assumption)⟩,?_⟩|refine⟨⟨_,rfl,SX.aG.bool (by first|(with_reducible assumption)|(simp;done)|assumption)⟩,?_⟩|refine⟨⟨_,rfl,SX.aG.eq (by first|(with_reducible assumption)|(simp[*];done)) rfl⟩,?_⟩)));(· (repeat(first|exact trivial|refine⟨SX.ak.row rfl rfl rfl rfl,?_⟩|refine⟨SX.ak.row rfl rfl (by first|rfl|(simp;done)) (by first|rfl|assumption|exact SX.bq rfl|exact SX.flat_one rfl|(simp;done)),?_⟩|refine⟨SX.ak.dL rfl,?_⟩|refine⟨SX.ak.eq rfl rfl rfl,?_⟩|refine⟨SX.ak.same rfl rfl,?_⟩)));(· rfl))|(apply SX.St.ltn1;(· (intro b h;first|(cases h;done)|exact⟨rfl,h⟩|exact SX.dw h));(· (repeat(first|exact trivial|refine⟨⟨_,rfl,SX.aG.same rfl⟩,?_⟩|refine⟨⟨_,rfl,SX.aG.own rfl⟩,?_⟩|refine⟨⟨_,rfl,SX.aG.nil rfl⟩,?_⟩|refine⟨⟨_,rfl,SX.aG.int (by first|(with_reducible assumption)|omega|(simp;done)|assumption)⟩,?_⟩|refine⟨⟨_,rfl,SX.aG.str (by first|(with_reducible assumption)|(simp;done)|assumption)⟩,?_⟩|refine⟨⟨_,rfl,SX.aG.bool (by first|(with_reducible assumption)|(simp;done)|assumption)⟩,?_⟩|refine⟨⟨_,rfl,SX.aG.eq (by first|(with_reducible assumption)|(simp[*];done)) rfl⟩,?_⟩)));(· (repeat(first|exact trivial|refine⟨SX.ak.row rfl rfl rfl rfl,?_⟩|refine⟨SX.ak.row rfl rfl (by first|rfl|(simp;done)) (by first|rfl|assumption|exact SX.bq rfl|exact SX.flat_one rfl|(simp;done)),?_⟩|refine⟨SX.ak.dL rfl,?_⟩|refine⟨SX.ak.eq rfl rfl rfl,?_⟩|refine⟨SX.ak.same rfl rfl,?_⟩)));(· rfl))|(apply SX.St.lt1n;(· (intro b h;first|(cases h;done)|exact⟨rfl,h⟩|exact SX.dw h));(· (repeat(first|exact trivial|refine⟨⟨_,rfl,SX.aG.same rfl⟩,?_⟩|refine⟨⟨_,rfl,SX.aG.own rfl⟩,?_⟩|refine⟨⟨_,rfl,SX.aG.nil rfl⟩,?_⟩|refine⟨⟨_,rfl,SX.aG.int (by first|(with_reducible assumption)|omega|(simp;done)|assumption)⟩,?_⟩|refine⟨⟨_,rfl,SX.aG.str (by first|(with_reducible assumption)|(simp;done)|assumption)⟩,?_⟩|refine⟨⟨_,rfl,SX.aG.bool (by first|(with_reducible assumption)|(simp;done)|assumption)⟩,?_⟩|refine⟨⟨_,rfl,SX.aG.eq (by first|(with_reducible assumption)|(simp[*];done)) rfl⟩,?_⟩)));(· (repeat(first|exact trivial|refine⟨SX.ak.row rfl rfl rfl rfl,?_⟩|refine⟨SX.ak.row rfl rfl (by first|rfl|(simp;done)) (by first|rfl|assumption|exact SX.bq rfl|exact SX.flat_one rfl|(simp;done)),?_⟩|refine⟨SX.ak.dL rfl,?_⟩|refine⟨SX.ak.eq rfl rfl rfl,?_⟩|refine⟨SX.ak.same rfl rfl,?_⟩)));(· rfl))):aL C P [.tmp t] ⟨.own 100,[(100,.ent (.row e size n cells))]⟩ st:=
 ⟨_,hle,[.one (.own 100)],⟨aj.tmp (by simp[eZ,lk]),trivial⟩,rfl,fun b e hb=>by simp at hb;obtain⟨rfl,rfl⟩:=hb;simp[eZ,lk]⟩
end
end
section
section
variable{P:Program}{C:Ctx}{st:St}
variable{ops rest:List Oper}{acc:List (List Nat×List Nat)}{K:List (List Nat×List Nat)→St→Prop}{dst:Option Tmp}{ty:TypeId}
theorem xY{E:Env}{S:Nat→Prop}{w:World}:∀{vs args:List Value},aI (AV.has E S w) (args.map AV.v) vs→vs=args
 |[],[],_=>rfl
 |v::vs,a::args,h=>by rw[xY h.2,show v=a from h.1]
 |[],_::_,h=>h.elim
 |_::_,[],h=>h.elim
theorem Go1.callE{f:FuncId}{as:Array Operand}{tys:Array TypeId}{args vs:List Value}(ha:evs st as.toList=some (args.map AV.v))(hc:∀w,(callFunc f args.toArray).run P w= .ok (.value (.tuple vs.toArray)) w)(hd:ay dst C.nt=true)
  (next:Reg P C ops rest (st.app dst ⟨.tup (vs.map fun v=> .one (.c (.val v))),[]⟩) (([],[])::acc) K):Go1 P C ops dst (.call ⟨.value (.func f),as,tys⟩) ty rest st acc K:=
 Go1.cK [] [] (by simp) hd (by simp) (fun o ho _ st' E S a w hev hs _=>by
  have hop:o.op.operands= #[.func f]++as:=by rw[ho];rfl
  have ha':evs st' as.toList=some (args.map AV.v):=by rw[iq (fun x hx=>hev x (by rw[hop];simp at hx;simp[hx]))];exact ha
  obtain⟨hall,_⟩:=kK hs ha';have hvs:=xY hall;have har:as.map a.eval=args.toArray:=by apply Array.ext';simpa using hvs
  refine⟨fun i hi=>?_,_,?_,vs,rfl,?_⟩
  ·simp only[AV.ids,List.mem_flatMap,List.mem_map]at hi;obtain⟨x,⟨v,_,rfl⟩,hx⟩:=hi;cases hx
  ·unfold execOp;rw[ho];have he:a.eval (.func f)= .func (.func f) #[] #[]:=rfl;have:=hc w;simp[resolve,he,Deferred.ofValue,invoke,har,this]
  ·clear ha hc next hd
   induction vs with
   |nil=>trivial
   |cons v vs ih=>exact⟨rfl,ih⟩) next
end
structure HeldR(q:Prop):Prop where
 out:q
theorem goR{p q:Prop}(h:q)(k:HeldR q→p:=by
  intro h
  (first
   |(refine SX.Go1.is ?_;first
     |(refine SX.Go1.isLoad ?_;first|refine SX.G.aa0 ?_|refine SX.G.zO ?_|refine SX.G.vg ?_|refine SX.G.vo ?_|refine SX.G.aaB ?_|refine SX.G.vC ?_|refine SX.G.aao ?_|refine SX.G.uM ?_|refine SX.G.abQ ?_|refine SX.G.yD ?_)
     |(refine SX.Go1.ag2 ?_;first|refine SX.G.lss ?_|refine SX.G.eql ?_|refine SX.G.neq ?_|refine SX.G.gtr ?_|refine SX.G.geq ?_|refine SX.G.leq ?_|refine SX.G.addN ?_|refine SX.G.af8 ?_|refine SX.G.subN ?_|refine SX.G.subNu ?_|refine SX.G.add ?_|refine SX.G.sub ?_|refine SX.G.mulN ?_|refine SX.G.agi ?_|refine SX.G.mul ?_|refine SX.G.quoN ?_|refine SX.G.ahk ?_|refine SX.G.quo ?_|refine SX.G.remN ?_|refine SX.G.agK ?_|refine SX.G.rem ?_|refine SX.G.eqlT ?_|refine SX.G.neqT ?_|refine SX.G.ah1 ?_|refine SX.G.ahE ?_|refine SX.G.shr ?_|refine SX.G.shl ?_|refine SX.G.and ?_|refine SX.G.ahn ?_)
     |(refine SX.Go1.isUn ?_;first|refine SX.G.not ?_|refine SX.G.neg ?_)
     |(refine SX.Go1.isField ?_;first|refine SX.G.fieldAddr ?_|refine SX.G.jG ?_)
     |(refine SX.Go1.wZ ?_;first|refine SX.G.u6 ?_|refine SX.G.uW ?_|refine SX.G.uQ ?_|refine SX.G.build ?_)
     |(refine SX.Go1.wL ?_;first|refine SX.G.store ?_|refine SX.G.abh ?_|refine SX.G.xP ?_)
     |(refine SX.Go1.isIx ?_;first|refine SX.G.nL ?_|refine SX.G.nM ?_|refine SX.G.jy ?_|refine SX.G.jH ?_)
     |(refine SX.Go1.tN ?_;first|refine SX.G.abb ?_|refine SX.G.ahZ ?_)
     |(refine SX.Go1.dX ?_;first|refine SX.G.minN ?_|refine SX.G.maxN ?_|refine SX.G.ah3 ?_|refine SX.G.lenN ?_|refine SX.G.lenT ?_|refine SX.G.aiF ?_|refine SX.G.aik ?_|refine SX.G.xB ?_|refine SX.G.appendNilW ?_|refine SX.G.wI ?_|refine SX.G.call ?_)
     |refine SX.G.move ?_|refine SX.G.assign ?_|refine SX.G.extract ?_|refine SX.G.box ?_|refine SX.G.alloc ?_|refine SX.G.pick ?_|refine SX.R.ag3 ?_|refine SX.R.agD ?_|refine SX.G.pickB ?_|refine SX.G.pickV ?_|refine SX.G.aga ?_|refine SX.G.agV ?_|refine SX.G.conv ?_|refine SX.G.abI ?_|refine SX.G.tQ ?_|refine SX.G.sliceLoW ?_|refine SX.G.jX ?_|refine SX.G.sliceLoR ?_|refine SX.G.sliceHiO ?_|refine SX.G.tJ ?_|refine SX.G.tF ?_|refine SX.G.sliceLHT ?_|refine SX.G.abO ?_|refine SX.G.oC ?_|refine SX.G.oP ?_|refine SX.G.sliceLHS ?_|refine SX.G.yC ?_)
   |(refine SX.Reg.is ?_;first|refine SX.Reg.go ?_|refine SX.R.runT ?_|refine SX.R.runF ?_|refine SX.R.agk ?_|refine SX.R.afC ?_|refine SX.R.aaI ?_)
)
  repeat(first
   |(refine SX.Go1.is ?_;first
     |(refine SX.Go1.isLoad ?_;first|refine SX.G.aa0 ?_|refine SX.G.zO ?_|refine SX.G.vg ?_|refine SX.G.vo ?_|refine SX.G.aaB ?_|refine SX.G.vC ?_|refine SX.G.aao ?_|refine SX.G.uM ?_|refine SX.G.abQ ?_|refine SX.G.yD ?_)
     |(refine SX.Go1.ag2 ?_;first|refine SX.G.lss ?_|refine SX.G.eql ?_|refine SX.G.neq ?_|refine SX.G.gtr ?_|refine SX.G.geq ?_|refine SX.G.leq ?_|refine SX.G.addN ?_|refine SX.G.af8 ?_|refine SX.G.subN ?_|refine SX.G.subNu ?_|refine SX.G.add ?_|refine SX.G.sub ?_|refine SX.G.mulN ?_|refine SX.G.agi ?_|refine SX.G.mul ?_|refine SX.G.quoN ?_|refine SX.G.ahk ?_|refine SX.G.quo ?_|refine SX.G.remN ?_|refine SX.G.agK ?_|refine SX.G.rem ?_|refine SX.G.eqlT ?_|refine SX.G.neqT ?_|refine SX.G.ah1 ?_|refine SX.G.ahE ?_|refine SX.G.shr ?_|refine SX.G.shl ?_|refine SX.G.and ?_|refine SX.G.ahn ?_)
     |(refine SX.Go1.isUn ?_;first|refine SX.G.not ?_|refine SX.G.neg ?_)
     |(refine SX.Go1.isField ?_;first|refine SX.G.fieldAddr ?_|refine SX.G.jG ?_)
     |(refine SX.Go1.wZ ?_;first|refine SX.G.u6 ?_|refine SX.G.uW ?_|refine SX.G.uQ ?_|refine SX.G.build ?_)
     |(refine SX.Go1.wL ?_;first|refine SX.G.store ?_|refine SX.G.abh ?_|refine SX.G.xP ?_)
     |(refine SX.Go1.isIx ?_;first|refine SX.G.nL ?_|refine SX.G.nM ?_|refine SX.G.jy ?_|refine SX.G.jH ?_)
     |(refine SX.Go1.tN ?_;first|refine SX.G.abb ?_|refine SX.G.ahZ ?_)
     |(refine SX.Go1.dX ?_;first|refine SX.G.minN ?_|refine SX.G.maxN ?_|refine SX.G.ah3 ?_|refine SX.G.lenN ?_|refine SX.G.lenT ?_|refine SX.G.aiF ?_|refine SX.G.aik ?_|refine SX.G.xB ?_|refine SX.G.appendNilW ?_|refine SX.G.wI ?_|refine SX.G.call ?_)
     |refine SX.G.move ?_|refine SX.G.assign ?_|refine SX.G.extract ?_|refine SX.G.box ?_|refine SX.G.alloc ?_|refine SX.G.pick ?_|refine SX.R.ag3 ?_|refine SX.R.agD ?_|refine SX.G.pickB ?_|refine SX.G.pickV ?_|refine SX.G.aga ?_|refine SX.G.agV ?_|refine SX.G.conv ?_|refine SX.G.abI ?_|refine SX.G.tQ ?_|refine SX.G.sliceLoW ?_|refine SX.G.jX ?_|refine SX.G.sliceLoR ?_|refine SX.G.sliceHiO ?_|refine SX.G.tJ ?_|refine SX.G.tF ?_|refine SX.G.sliceLHT ?_|refine SX.G.abO ?_|refine SX.G.oC ?_|refine SX.G.oP ?_|refine SX.G.sliceLHS ?_|refine SX.G.yC ?_)
   |(refine SX.Reg.is ?_;first|refine SX.Reg.go ?_|refine SX.R.runT ?_|refine SX.R.runF ?_|refine SX.R.agk ?_|refine SX.R.afC ?_|refine SX.R.aaI ?_)
)
  exact h.out):p:=k ⟨h⟩
end
end SX