import Derived.Test.YthnkfhfcgjoieaaGreatDoorO3
import Derived.Laws.BytesString
set_option linter.unusedVariables false
set_option linter.unusedSimpArgs false
namespace SX
open Go Go.RowKit
section
section
variable{P:Program}
def oL(P:Program)(f:FuncId)(args:List AV)(t:TypeId)(size n:Nat)(cells:List CA):Prop:=aj P f args [] ⟨.own 100,[(100,.ent (.row t size n cells))]⟩
theorem oL.at{f:FuncId}{args:List AV}{t:TypeId}{size n:Nat}{cells:List CA}(h:oL P f args t size n cells)(d:Nat):aj P f args [] ⟨.own d,[(d,.ent (.row t size n cells))]⟩:=by
 refine⟨h.1,fun E S w vs hl hg hv h1 h2 h3=>(h.2 E S w vs hl hg hv (fun b e hb=>by cases hb) (fun b e k hb=>by cases hb) (fun b b' e e' k _ hb=>by cases hb)).mono ?_⟩
 rintro e w' ⟨v,E',S',rfl,hE⟩;have hres:v=E'.sl 100/\v.oneCell'=true:=hE.res;obtain⟨us,hown,hall⟩:=hE.ents 100 (.row t size n cells) zp
 refine⟨v,⟨E.blk,upd E.sl d (E'.sl 100),E.fp⟩,S',rfl,{env:=fun b hb=>?_,fpe:=fun _ _=>rfl,sub:=hE.sub,new:=hE.new,lt:=hE.lt,off:=hE.off,res:=?_,ents:=fun b e hb=>?_,blk:=fun b e k hb hk=>?_,sep:=fun b b' e e' k hne hb hb'=>?_}⟩
 ·by_cases hbd:b=d
  ·subst hbd;obtain⟨e,he⟩:=hb ⟨_,by simp;rfl⟩
   cases he
  ·exact⟨rfl,upd_ne _ _ hbd⟩
 ·show v=upd E.sl d (E'.sl 100) d/\_;rw[upd_same];exact hres
 ·simp at hb;obtain⟨rfl,rfl⟩:=hb
  refine⟨us,?_,hall⟩;show w'.ownsRow 0 t size (upd E.sl b (E'.sl 100) b) n us;rw[upd_same];exact hown
 ·simp at hb;obtain⟨rfl,rfl⟩:=hb
  have hk':(upd E.sl b (E'.sl 100) b).ownBlock=some k:=hk;rw[upd_same]at hk';exact hE.blk 100 (.row t size n cells) k zp hk'
 ·simp at hb hb';exact absurd (hb.1.trans hb'.1.symm) hne
theorem oL.pure{f:FuncId}{args:List AV}{t:TypeId}{size n:Nat}{cells:List CA}(h:oL P f args t size n cells):ah P f args (.r (aQ size n cells)):=by
 refine⟨h.1,fun E S w vs hl hg hv h1 h2 h3=>(h.2 E S w vs hl hg hv (fun b e hb=>by cases hb) (fun b e k hb=>by cases hb) (fun b b' e e' k _ hb=>by cases hb)).mono ?_⟩
 rintro e w' ⟨v,E',S',rfl,hE⟩;have hres:v=E'.sl 100/\v.oneCell'=true:=hE.res;obtain⟨us,hown,hall⟩:=hE.ents 100 (.row t size n cells) zp
 have hnew:∀k,(E'.sl 100).ownBlock=some k->w.heap.size<=k:=fun k hk=>by
  rcases(hE.blk 100 (.row t size n cells) k zp hk).2 with⟨b,e,hb,_⟩|h
  ·cases hb
  ·exact h
 have hlen:cells.length=n*size:=by rw[hall.length,hown.1]
 refine⟨v,E,fun k=>S' k/\(E'.sl 100).ownBlock≠some k,rfl,{env:=fun b hb=>⟨rfl,rfl⟩,fpe:=fun _ _=>rfl,sub:=fun k hk=>⟨hE.sub k hk,fun h=>?_⟩,new:=fun k hk=>hE.new k hk.1,lt:=fun k hk=>hE.lt k hk.1,off:=hE.off,res:=?_,ents:=fun b e hb=>(by cases hb),blk:=fun b e k hb=>(by cases hb),sep:=fun b b' e e' k _ hb=>(by cases hb)}⟩
 ·have:=hnew k h;have:=hl k hk;omega
 ·show (aQ size n cells).has _ w' v;rw[hres.1];rcases hown.2 with⟨hv,h0⟩|⟨g,cap,cur,hv,_,hg,hn,hm,hcs,htk⟩
  ·refine bY.2 ⟨none,0,by rw[hv,h0],zE,zq8 _,fun _=>rfl,hlen,fun i c hc=>?_⟩
   have:cells.length=0:=by rw[hlen,h0,zw3]
   rw[zx5 this]at hc;simp at hc
  ·refine bY.2 ⟨some ⟨g,0,none⟩,cap,hv,hn,hm,(fun h=>by cases h),hlen,fun i c hc=>?_⟩
   obtain⟨u,hu,huc⟩:=hall.get hc;have hown':=hown;rw[hv]at hown';have hcell:=hown'.cells (g:=g) rfl i u hu;refine⟨g,0,u,rfl,fun h=>h.2 (by rw[hv];rfl),by simpa[Addr.add_lit]using hcell,huc.step (Off.refl S' w') (fun k hk=> .inl hk.1)⟩
class ConO(P:Program)(f:FuncId)(args:List AV)(pre:outParam Prop)(t:outParam TypeId)(size n:outParam Nat)(cells:outParam (List CA)):Prop where
 h:pre->oL P f args t size n cells
open Classical in
theorem oL.fnF{f:FuncId}{fn:Func}{c:Code}{args:List AV}{t:TypeId}{size n:Nat}{cells:List CA}{nt:Nat}{rs:List ResultVar}(hf:P.funcs[f]? =some fn)(hres:fn.results=rs.toArray)(hnt:fn.ntmps=nt)(hb:fn.body=some c)(hn:(fn.name== "runtime.NumGoroutine")=false)(hna:Nat.ble args.length nt=true)
  (haid:∀v∈args,v.ids=[]) (h:∀(w0:World) (T B:Nat->Prop) (E0:Env),(∀k,¬B k)->WP P ⟨w0,T,B,nt,E0,fun _=>false⟩ c ⟨fun t=>args[t]?,fun _=> .free⟩ (SX.bD ⟨w0,T,B,nt,E0,fun _=>false⟩ P rs ⟨.own 100,[(100,.ent (.row t size n cells))]⟩)):oL P f args t size n cells:=
 aj.fn hf hres hnt hb hn hna (fun b e hb=>by cases hb) (fun v hv i hi=>by rw[haid v hv]at hi;cases hi) (fun b e hb=>by cases hb) (fun b e hb=>by cases hb)
  (fun i hi=>by
   right
   rcases hi with hi|⟨b,e,hb,hi⟩
   ·have:i=100:=by simpa[AV.ids,AV0.ids,Atom.ids]using hi
    subst this;exact⟨_,by simp;rfl⟩
   ·simp at hb;obtain⟨rfl,rfl⟩:=hb;cases hi) (fun w0 T B E0 hB=>WP.bD (h w0 T B E0 fun k hk=>let⟨_,_,hb,_⟩:=hB k hk;by cases hb))
end
section
variable{P:Program}{C:Ctx}{st:St}
variable{ops rest:List Oper}{acc:List (List Nat×List Nat)}{K:List (List Nat×List Nat)->St->Prop}{dst:Option Tmp}{d:Tmp}{op:Op}{ty t t':TypeId}{x y z:Operand}{k k':IntKind}{i j:Nat}{za zb zi zj:Int}
theorem G.aas{f:FuncId}{as:Array Operand}{tys:Array TypeId}{args:List AV}{e:TypeId}{size n:Nat}{cells:List CA}(next:Reg P C ops rest (st.app (some d) ⟨.own d,[(d,.ent (.row e size n cells))]⟩) (([d],[d])::acc) K)(ha:evs st as.toList=some args:=by rfl)
  (hc:oL P f args e size n cells:=by first|(with_reducible assumption)|assumption|exact SX.ConO.use (by first|trivial|omega|assumption|(refine⟨?_,?_⟩ <;> first|omega|assumption)|(refine⟨?_,?_,?_⟩ <;> first|omega|assumption))) (hd:aC (some d) C.nt=true:=by rfl) (hf:st.hp d= .free:=by rfl):Go1 P C ops (some d) (.call ⟨.value (.func f),as,tys⟩) ty rest st acc K:=
 Go1.aau (cap:=[]) (pre:=[]) (out:=⟨.own d,[(d,.ent (.row e size n cells))]⟩) (fp:=[d]) hd rfl ha (by simpa using hc.at d) (fun b e hb=>by cases hb) (fun b s hb=>by simp at hb;rw[hb.1];exact .inr hf) (fun b s hb=>by simp at hb;rw[hb.2];rfl) (fun b s hb=>by simp at hb;simp[hb.1])
  (fun i hi=>by
   left
   rcases hi with hi|⟨b,e,hb,hi⟩
   ·have:i=d:=by simpa[AV.ids,AV0.ids,Atom.ids]using hi
    subst this;exact⟨_,by simp;rfl⟩
   ·simp at hb;obtain⟨rfl,rfl⟩:=hb;cases hi) next
theorem G.ajY{e:TypeId}{n bytes:Nat}{z:Value}[ht:bT P t e 1][he:fH P e [z] bytes](next:Reg P C ops rest (st.app (some d) ⟨.own d,[(d,.ent (.row e 1 n (List.replicate n (.val z))))]⟩) (([d],[d])::acc) K)(hd:aC (some d) C.nt=true:=by rfl)(hx:st.ev x=some (.v (.int k zi)):=by rfl)(hx0:zi=(n:Int):=by first|with_reducible rfl|exact SX.jE _|rfl)(hy:st.ev y=some (.v (.int k' zj)):=by rfl)(hy0:zj=(n:Int):=by first|with_reducible rfl|exact SX.jE _|rfl)(hf:st.hp d= .free:=by rfl)
  (hb:n*bytes<=140737488355328:=by omega) (hm:n<=9223372036854775807:=by omega):Go1 P C ops (some d) (.makeSlice t x y) ty rest st acc K:=
 Go1.make hd (evz hx hx0) (evz hy hy0) hf hb hm next
theorem G.aer{e:TypeId}{b off n size:Nat}{cells:List CA}{c:CA}[ht:iK P t](next:Reg P C ops rest (st.app none ⟨.v undef,[(b,.ent (.row e size n (spl cells off [c])))]⟩) (([b],[b])::acc) K)(hx:st.ev x=some (.it (.one (.rptr b off))):=by rfl)(hy:st.ev y=some (.it (.one (.c c))):=by rfl)(hb:st.hp b= .ent (.row e size n cells):=by rfl)(hl:off+1<=n*size:=by omega)
  (h1:[Atom.c c].all Atom.eO=true:=by rfl):Go1 P C ops none (.store t x y) ty rest st acc K:=
 Go1.y9 (m:=1) ht.s hx hy hb rfl hl h1 rfl rfl next
theorem Go1.alk{l m:List UInt8}(hd:aC dst C.nt=true)(hx:st.ev x=some (.v (str l)))(hy:st.ev y=some (.v (str m)))(hb:l.length+m.length<=9223372036854775807)(next:Reg P C ops rest (st.app dst ⟨.v (str (l++m)),[]⟩) (([],[])::acc) K):Go1 P C ops dst (.binOp .add t x y t') ty rest st acc K:=
 Go1.oZ hd rfl hx hy (fun ρ o w ho h1 h2=>by
  unfold execOp;rw[ho];have hap:(⟨⟨l⟩⟩:ByteArray)++⟨⟨m⟩⟩=⟨⟨l++m⟩⟩:=by
   apply ByteArray.ext;simp
  have hl2:(((⟨⟨l⟩⟩:ByteArray).size:Nat):Int)+(((⟨⟨m⟩⟩:ByteArray).size:Nat):Int)<=9223372036854775807:=by
   show ((l.length:Nat):Int)+((m.length:Nat):Int)<=9223372036854775807;omega
  simp[h1,h2,eqGuard,binOp,Op.stringOp,hap]
  exact hl2) next
theorem G.alk{l m:List UInt8}(next:Reg P C ops rest (st.app dst ⟨.v (str (l++m)),[]⟩) (([],[])::acc) K)(hd:aC dst C.nt=true:=by rfl)(hx:st.ev x=some (.v (str l)):=by rfl)(hy:st.ev y=some (.v (str m)):=by rfl)(hb:l.length+m.length<=9223372036854775807:=by(try simp only[zx6,List.length_nil,zqi]);omega):Go1 P C ops dst (.binOp .add t x y t') ty rest st acc K:=
 Go1.alk hd hx hy hb next
structure uY(d:Nat):Prop where
theorem G.adR{e:TypeId}{size bytes:Nat}{zs:List Value}{v:AV0}{m:List CA}[ht:bT P t e size][he:fH P e zs bytes](next:Reg P C ops rest (st.app (some d) ⟨.own d,[(d,.ent (.row e size 1 m))]⟩) (([d],[d])::acc) K)(hown:uY d:=by assumption)(hd:aC (some d) C.nt=true:=by rfl)(hf:st.hp d= .free:=by rfl)(hx:st.ev x=some (.it v):=by rfl)(hc:aY v.cells=some m:=by rfl)
  (hm:(Nat.beq m.length size&&Nat.ble size 1000&&v.cells.all Atom.eO)=true:=by rfl):Go1 P C ops (some d) (.buildSlice t 1 #[(0,x)]) ty rest st acc K:=by
 simp only[zx4]at hm;obtain⟨⟨h1,h2⟩,h3⟩:=hm;have hl:m.length=size:=Nat.eq_of_beq_eq_true h1;have h2':size<=1000:=by simpa[zva]using h2
 have hvl:v.cells.length=size:=by rw[<-rQ hc];exact hl
 refine Go1.buildSlice (ps:=[(0,v)]) (l:=v.cells) (m:=m) hd hf (by simp only[evp,hx]) ?_ ?_ ?_ hc ?_ next
 ·simp only[List.all_cons,List.all_nil,Bool.and_true,h3,Bool.true_and];rfl
 ·rw[Nat.one_mul,zva];omega
 ·have hpl:(placesOf 1 size)[0]? =some (0,size):=by simp[placesOf]
  have hz:((madeCells zs.toArray (1*size)).toList.map fun v=>Atom.c (.val v)).length=size:=by simp[size_madeCells]
  have e1:Nat.beq v.cells.length size=true:=by rw[hvl];exact Nat.beq_refl _
  simp only[fV,hpl];rw[hz,e1,zv7,show Nat.ble size size=true by rw[zva];exact zq6 _]
  simp only[Bool.and_self];rw[iV _ _ _ (by rw[hz,hvl];omega),hvl,List.take_zero,zvd,zv7,List.drop_of_length_le (by rw[hz];exact zq6 _),zqb]
 ·rw[hl,Nat.one_mul];exact Nat.beq_refl _
theorem acS{α:Type}{enc:α->List CA}[eY enc 1]{l:List α}{i:Nat}{a:α}{c:CA}(he:enc a=[c])(ha:l[i]? =some a):(l.flatMap enc)[i*1]? =some c:=by
 have hf:=wR (enc:=enc) ha;rw[he]at hf;have:=congrArg (·[0]?) hf;simpa[zy9,zv1]using this
theorem G.aev{α:Type}{enc:α->List CA}{l:List α}{a:α}{e:TypeId}{b n size:Nat}{c:CA}[ht:iK P t][hz:eY enc 1](next:Reg P C ops rest (st.app dst ⟨.it (.one (.c c)),[]⟩) (([b],[])::acc) K)(hd:aC dst C.nt=true:=by rfl)(hx:st.ev x=some (.it (.one (.rptr b (i*1)))):=by rfl)(hb:st.hp b= .ent (.row e size n (l.flatMap enc)):=by rfl)(ha:l[i]? =some a:=by assumption)(he:enc a=[c]:=by rfl):Go1 P C ops dst (.load t x) ty rest st acc K:=
 Go1.aaU hd hx hb (acS he ha) next
instance:anS .u8 255:=⟨fun m h=>by show IntKind.wrap .u8 (m:Int)=m;rw[IntKind.wrap_u8];omega⟩
theorem G.ajx{a b:Nat}[h1:aa1 P t k][h2:aa1 P t' k'][hw:anS k' b](next:Reg P C ops rest (st.app dst ⟨.v (.int k' ((a:Nat):Int)),[]⟩) (([],[])::acc) K)(hd:aC dst C.nt=true:=by rfl)(hx:st.ev x=some (.v (.int k za)):=by rfl)(hx0:za=(a:Int):=by first|with_reducible rfl|exact SX.jE _|rfl)(hb:a<=b:=by first|omega|assumption):Go1 P C ops dst (.convert t t' x) ty rest st acc K:=
 Go1.conv hd (evz hx hx0) (hw.h a hb) next
def lF(b:UInt8):List CA:=[.val (.int .u8 (b.toNat:Int))]
instance:eY lF 1:=⟨fun _=>rfl⟩
instance:ahg lF:=⟨fun _=>rfl⟩
theorem pushes:∀(l:List UInt8) (s:ByteArray),((l.map fun b=>(b.toNat:Int)).foldl (fun r n=>r.push (UInt8.ofNat n.toNat)) s).data.toList=s.data.toList++l
 |[],s=>by simp
 |b::l,s=>by
  rw[zy6,List.foldl_cons,pushes l];simp
theorem G.adY{e:TypeId}{l:List UInt8}{r:Rep}[h1:bT P t e 1][h2:aa1 P e .u8][h3:aaL P t'](next:Reg P C ops rest (st.app dst ⟨.v (str l),[]⟩) (([],[])::acc) K)(hd:aC dst C.nt=true:=by rfl)(hx:st.ev x=some (.r r):=by rfl)(hr:acw r 1 lF l:=by infer_instance):Go1 P C ops dst (.convert t t' x) ty rest st acc K:=
 Go1.dM [] [] zp hd zp (fun o ho _ st' E S a w hev hs _=>by
  obtain⟨h4,_⟩:=hs.ev ((hev x (by simp[ho,Op.operands])).trans hx)
  obtain⟨oa,cap,hv,hn,hc,h0,hlen,hcell⟩:=bY.1 (hr.h _ _ _ h4);refine⟨fun i hi=>(by cases hi),.string ⟨⟨l⟩⟩,?_,rfl⟩
  unfold execOp;rw[ho];have hcv:(convert t t' (a.eval x)).run P w=(Conv.bytesToString (a.eval x)).run P w:=by
   rw[hv];simp[convert,run_underlying h1.h,run_underlying h2.h,run_underlying h3.h]
  have hrun:(Conv.bytesToString (a.eval x)).run P w= .ok (.string ⟨⟨l⟩⟩) w:=by
   rw[hv];cases oa with
   |none=>
    have h00:=h0 rfl;have:l=[]:=zx5 (by have:=hn;omega)
    subst this;rfl
   |some ad=>
    rw[run_bytesToString w ad l.length cap (l.map fun b=>(b.toNat:Int))]
    ·congr 2
     exact ByteArray.ext (Array.ext' (by rw[pushes];rfl))
    ·have hl1:((l.map fun b=>(b.toNat:Int)).map (Value.int .u8)).length=l.length:=by simp
     have:=run_loadCells_list (P:=P) (w:=w) ad ((l.map fun b=>(b.toNat:Int)).map (Value.int .u8)) (fun j v hj=>by
      rw[zv4,zqa]at hj
      obtain⟨b,hb,rfl⟩:=zya.1 hj;have hf:=acS (enc:=lF) (c:= .val (.int .u8 (b.toNat:Int))) rfl hb;rw[Nat.mul_one]at hf;obtain⟨bk,off,u,e1,_,e2,e3⟩:=hcell j _ hf;cases e1;rw[Addr.add_lit,e2,show u=_ from e3];rfl)
     rwa [hl1]at this
  simp[hcv,hrun]) next
theorem retO{t:Tmp}{e:TypeId}{size n:Nat}{cells:List CA}(hle:St.le C st (fP [(t,.own 100)] [(100,.row e size n cells)]):=by exact SX.W.le):aM C P [.tmp t] ⟨.own 100,[(100,.ent (.row e size n cells))]⟩ st:=
 ⟨_,hle,[.one (.own 100)],⟨ak.tmp (by simp[fP,lk]),trivial⟩,rfl,fun b e hb=>by simp at hb;obtain⟨rfl,rfl⟩:=hb;simp[fP,lk]⟩
end
end
section
section
variable{P:Program}{C:Ctx}{st:St}
variable{ops rest:List Oper}{acc:List (List Nat×List Nat)}{K:List (List Nat×List Nat)->St->Prop}{dst:Option Tmp}{ty:TypeId}
theorem aby{E:Env}{S:Nat->Prop}{w:World}:∀{vs args:List Value},aK (AV.has E S w) (args.map AV.v) vs->vs=args
 |[],[],_=>rfl
 |v::vs,a::args,h=>by rw[aby h.2,show v=a from h.1]
 |[],_::_,h=>h.elim
 |_::_,[],h=>h.elim
theorem Go1.callE{f:FuncId}{as:Array Operand}{tys:Array TypeId}{args vs:List Value}(ha:evs st as.toList=some (args.map AV.v))(hc:∀w,(callFunc f args.toArray).run P w= .ok (.value (.tuple vs.toArray)) w)(hd:aC dst C.nt=true)
  (next:Reg P C ops rest (st.app dst ⟨.tup (vs.map fun v=> .one (.c (.val v))),[]⟩) (([],[])::acc) K):Go1 P C ops dst (.call ⟨.value (.func f),as,tys⟩) ty rest st acc K:=
 Go1.dM [] [] zp hd zp (fun o ho _ st' E S a w hev hs _=>by
  have hop:o.op.operands= #[.func f]++as:=by rw[ho];rfl
  have ha':evs st' as.toList=some (args.map AV.v):=by rw[iO (fun x hx=>hev x (by rw[hop];simp at hx;simp[hx]))];exact ha
  obtain⟨hall,_⟩:=lM hs ha';have hvs:=aby hall;have har:as.map a.eval=args.toArray:=by apply Array.ext';simpa using hvs
  refine⟨fun i hi=>?_,_,?_,vs,rfl,?_⟩
  ·simp only[AV.ids,zx9,zqg]at hi;obtain⟨x,⟨v,_,rfl⟩,hx⟩:=hi;cases hx
  ·unfold execOp;rw[ho];have he:a.eval (.func f)= .func (.func f) #[] #[]:=rfl;have:=hc w;simp[resolve,he,Deferred.ofValue,invoke,har,this]
  ·clear ha hc next hd
   induction vs with
   |nil=>trivial
   |cons v vs ih=>exact⟨rfl,ih⟩) next
end
structure HeldR(q:Prop):Prop where
 out:q
theorem goR{p q:Prop}(h:q)(k:HeldR q->p:=by
  intro h
  repeat1' (first
   |(refine SX.Go1.is ?_;first
     |(refine SX.Go1.isLoad ?_;first|refine SX.G.acI ?_|refine SX.G.acG ?_|refine SX.G.xK ?_|refine SX.G.yF ?_|refine SX.G.acY ?_|refine SX.G.yE ?_|refine SX.G.adg ?_|refine SX.G.yt ?_|refine SX.G.aev ?_|refine SX.G.aaU ?_)
     |(refine SX.Go1.ajz ?_;first|refine SX.G.lss ?_|refine SX.G.eql ?_|refine SX.G.neq ?_|refine SX.G.gtr ?_|refine SX.G.geq ?_|refine SX.G.leq ?_|refine SX.G.addN ?_|refine SX.G.aiP ?_|refine SX.G.subN ?_|refine SX.G.subNu ?_|refine SX.G.add ?_|refine SX.G.sub ?_|refine SX.G.mulN ?_|refine SX.G.ajA ?_|refine SX.G.mul ?_|refine SX.G.quoN ?_|refine SX.G.aiT ?_|refine SX.G.quo ?_|refine SX.G.remN ?_|refine SX.G.ajp ?_|refine SX.G.rem ?_|refine SX.G.eqlT ?_|refine SX.G.neqT ?_|refine SX.G.ak9 ?_|refine SX.G.alg ?_|refine SX.G.shr ?_|refine SX.G.shl ?_|refine SX.G.and ?_|refine SX.G.alk ?_)
     |(refine SX.Go1.isUn ?_;first|refine SX.G.not ?_|refine SX.G.neg ?_)
     |(refine SX.Go1.isField ?_;first|refine SX.G.fieldAddr ?_|refine SX.G.lG ?_)
     |(refine SX.Go1.aan ?_;first|refine SX.G.yA ?_|refine SX.G.xS ?_|refine SX.G.xY ?_|refine SX.G.build ?_)
     |(refine SX.Go1.aah ?_;first|refine SX.G.store ?_|refine SX.G.aer ?_|refine SX.G.y9 ?_)
     |(refine SX.Go1.isIx ?_;first|refine SX.G.qE ?_|refine SX.G.pV ?_|refine SX.G.kQ ?_|refine SX.G.kR ?_)
     |(refine SX.Go1.wB ?_;first|refine SX.G.adR ?_|refine SX.G.alr ?_)
     |(refine SX.Go1.dw ?_;first|refine SX.G.minN ?_|refine SX.G.maxN ?_|refine SX.G.alL ?_|refine SX.G.lenN ?_|refine SX.G.lenT ?_|refine SX.G.aq4 ?_|refine SX.G.aml ?_|refine SX.G.aai ?_|refine SX.G.appendNilW ?_|refine SX.G.aas ?_|refine SX.G.call ?_)
     |refine SX.G.move ?_|refine SX.G.assign ?_|refine SX.G.extract ?_|refine SX.G.box ?_|refine SX.G.alloc ?_|refine SX.G.pick ?_|refine SX.R.aiU ?_|refine SX.R.ajo ?_|refine SX.G.pickB ?_|refine SX.G.pickV ?_|refine SX.G.ajY ?_|refine SX.G.ajx ?_|refine SX.G.conv ?_|refine SX.G.adY ?_|refine SX.G.wG ?_|refine SX.G.sliceLoW ?_|refine SX.G.su ?_|refine SX.G.sliceLoR ?_|refine SX.G.sG ?_|refine SX.G.vQ ?_|refine SX.G.wW ?_|refine SX.G.sliceLHT ?_|refine SX.G.adF ?_|refine SX.G.sI ?_|refine SX.G.rY ?_|refine SX.G.sliceLHS ?_|refine SX.G.abr ?_)
   |(refine SX.Reg.is ?_;first|refine SX.Reg.go ?_|refine SX.R.runT ?_|refine SX.R.runF ?_|refine SX.R.aiE ?_|refine SX.R.ajS ?_|refine SX.R.acN ?_)
)
  exact h.out):p:=k ⟨h⟩
end
section
def jv(l:List Nat)(i:Nat):Bool:=l.any (Nat.beq i)
theorem fE{l:List Nat}{i:Nat}:jv l i=true↔i∈l:=by
 unfold jv;rw[List.any_eq_true];constructor
 ·rintro⟨x,hx,he⟩;have:i=x:=by simpa using he
  rw[this];exact hx
 ·intro h;exact⟨i,h,by simp⟩
def Slot.ids:Slot->List Nat
 | .ent e=>e.ids
 |_=>[]
def nodupB:List Nat->Bool
 |[]=>true
 |a::l=>!jv l a&&nodupB l
def atj(args:List AV)(pre:List (Nat×Ent))(out:Out):Bool:=
 nodupB (pre.map (·.1))&&(pre.all fun p=>(Slot.ent p.2).aiL)&&(args.all fun v=>v.ids.all (jv (pre.map (·.1))))&&(pre.all fun p=>p.2.ids.all (jv (pre.map (·.1))))&&((pre.map (·.1)).all (jv (out.hp.map (·.1))))&&
  ((out.res.ids++out.hp.flatMap fun p=>p.2.ids).all fun i=>jv (pre.map (·.1)) i||jv (out.hp.map (·.1)) i)
theorem gy:∀(l:List (Nat×Ent)) (b:Nat),l.lookup b=lk l b
 |[],_=>rfl
 |(j,v)::l,b=>by
  rw[List.lookup_cons];unfold lk;by_cases h:b=j
  ·subst h;simp
  ·have h1:(b==j)=false:=by simpa using h
   have h2:Nat.beq j b=false:=by rw[Bool.eq_false_iff];simp;omega
   simp only[h1,h2];exact gy l b
theorem ae0:∀{l:List (Nat×Ent)} {b:Nat} {e:Ent},nodupB (l.map (·.1))=true->(b,e)∈l->lk l b=some e
 |(j,v)::l,b,e,hn,h=>by
  rw[zy6,nodupB,zx4]at hn;unfold lk;rcases zy3.1 h with h|h
  ·cases h;simp
  ·have hne:Nat.beq j b=false:=by
    rw[Bool.eq_false_iff];intro he;have he':j=b:=by simpa using he
    subst he';have:jv (l.map (·.1)) j=true:=fE.2 (zqg.2 ⟨(j,e),h,rfl⟩);rw[this]at hn;cases hn.1
   simp only[hne];exact ae0 hn.2 h
theorem nH{l:List (Nat×Ent)}{b:Nat}(h:b∈l.map (·.1)):(lk l b).isSome=true:=by
 induction l with
 |nil=>cases h
 |cons p l ih=>
  obtain⟨j,v⟩:=p;unfold lk;cases hj:Nat.beq j b with
  |true=>rfl
  |false=>
   simp only;refine ih ?_;rw[zy6]at h;rcases zy3.1 h with h|h
   ·rw[h]at hj;simp at hj
   ·exact h
theorem aj.fnF{P:Program}{f:FuncId}{fn:Func}{c:Code}{args:List AV}{pre:List (Nat×Ent)}{out:Out}{nt:Nat}{rs:List ResultVar}(hf:P.funcs[f]? =some fn)(hres:fn.results=rs.toArray)(hnt:fn.ntmps=nt)(hb:fn.body=some c)(hn:(fn.name== "runtime.NumGoroutine")=false)(hna:Nat.ble args.length nt=true)
  (hp:atj args pre out=true)
  (h:∀(w0:World) (T B:Nat->Prop) (E0:Env),(∀k,B k->k∈(pre.map (·.1)).map E0.blk)->WP P ⟨w0,T,B,nt,E0,fun b=>(lk pre b).isSome⟩ c ⟨fun t=>args[t]?,fun b=>match lk pre b with|some e=> .ent e|none=> .free⟩ (bD ⟨w0,T,B,nt,E0,fun b=>(lk pre b).isSome⟩ P rs out)):aj P f args pre out:=by
 unfold atj at hp;simp only[zx4]at hp;obtain⟨⟨⟨⟨⟨p1,p2⟩,p3⟩,p4⟩,p5⟩,p6⟩:=hp;have e1:(fun b=>(pre.lookup b).isSome)=fun b=>(lk pre b).isSome:=funext fun b=>by rw[gy]
 have e2:jy args pre=⟨fun t=>args[t]?,fun b=>match lk pre b with|some e=> .ent e|none=> .free⟩:=by
  unfold jy
  congr 1
  funext b
  rw[gy];cases lk pre b <;> rfl
 have key:∀i,jv (pre.map (·.1)) i=true->(pre.lookup i).isSome=true:=fun i hi=>by rw[gy];exact nH (fE.1 hi)
 refine aj.fn hf hres hnt hb hn hna (fun b e hb=>by rw[gy];exact ae0 p1 hb) (fun v hv i hi=>key i (zqh.1 (zqh.1 p3 v hv) i hi)) (fun b e hb i hi=>key i (zqh.1 (zqh.1 p4 (b,e) hb) i hi)) (fun b e hb=>?_) (fun i hi=>?_) fun w0 T B E0 hB=>?_
 ·have:=fE.1 (zqh.1 p5 b (zqg.2 ⟨(b,e),hb,rfl⟩));obtain⟨⟨b',s⟩,hs,rfl⟩:=zqg.1 this;exact⟨s,hs⟩
 ·have hi':i∈out.res.ids++out.hp.flatMap fun p=>p.2.ids:=by
   rw[zyg];rcases hi with hi|⟨b,e,hb,hi⟩
   ·exact .inl hi
   ·exact .inr (zx9.2 ⟨(b,.ent e),hb,hi⟩)
  have:=zqh.1 p6 i hi';rw[Bool.or_eq_true]at this;rcases this with h|h
  ·exact .inl (key i h)
  ·obtain⟨⟨b',s⟩,hs,rfl⟩:=zqg.1 (fE.1 h);exact .inr ⟨s,hs⟩
 ·rw[e1,e2];refine WP.bD (h w0 T B E0 fun k hk=>?_)
  obtain⟨b,e,hb,hk⟩:=hB k hk;have h2:=zqh.1 p2 (b,e) hb;cases e with
  |box t cells=>
   have hk':some (E0.blk b)=some k:=hk;exact zqg.2 ⟨b,zqg.2 ⟨_,hb,rfl⟩,zy7 hk'⟩
  |row _ _ _ _=>cases h2
  |abs _=>cases h2
theorem aj.fq{P:Program}{f:FuncId}{fn:Func}{c:Code}{args:List AV}{pre:List (Nat×Ent)}{out:Out}{nt:Nat}{rs:List ResultVar}(hf:P.funcs[f]? =some fn)(hres:fn.results=rs.toArray)(hnt:fn.ntmps=nt)(h:∀(w0:World) (T B:Nat->Prop) (E0:Env),(∀k,B k->k∈(pre.map (·.1)).map E0.blk)->WP P ⟨w0,T,B,nt,E0,fun b=>(lk pre b).isSome⟩ c ⟨fun t=>args[t]?,fun b=>match lk pre b with|some e=> .ent e|none=> .free⟩ (bD ⟨w0,T,B,nt,E0,fun b=>(lk pre b).isSome⟩ P rs out))(hb:fn.body=some c:=by rfl)(hn:(fn.name== "runtime.NumGoroutine")=false:=by rfl)(hna:Nat.ble args.length nt=true:=by rfl)(hp:atj args pre out=true:=by rfl):aj P f args pre out:=aj.fnF hf hres hnt hb hn hna hp h
section
variable{P:Program}{C:Ctx}{st:St}
variable{ops rest:List Oper}{acc:List (List Nat×List Nat)}{K:List (List Nat×List Nat)->St->Prop}{dst:Option Tmp}{d:Tmp}{op:Op}{ty t t':TypeId}{x y z:Operand}
def auI:List Nat:=[29,81,82,83,84]
def reach(st:St)(args:List AV)(cap:List Nat):List Nat:=
 let l:=cap++args.flatMap AV.ids
 l++l.flatMap fun b=>(st.hp b).ids
def keysOf(l:List Nat):List Nat:=auI.filter fun k=>jv l k
def abZ(st:St):List Nat->Option (List (Nat×Ent))
 |[]=>some []
 |b::l=>match st.hp b,abZ st l with
  | .ent e,some m=>some ((b,e)::m)
  |_,_=>none
theorem yC{st:St}:∀{l:List Nat} {m:List (Nat×Ent)},abZ st l=some m->∀b e,(b,e)∈m->st.hp b= .ent e
 |[],m,h,b,e,hb=>by cases h;cases hb
 |a::l,m,h,b,e,hb=>by
  unfold abZ at h;cases h1:st.hp a with
  |ent e1=>
   cases h2:abZ st l with
   |none=>simp[h1,h2]at h
   |some m'=>
    simp only[h1,h2]at h;cases h;rcases zy3.1 hb with hb|hb
    ·cases hb;exact h1
    ·exact yC h2 b e hb
  |free=>simp[h1]at h
  |gone=>simp[h1]at h
def aiC(args:List AV)(pre:List (Nat×Ent))(out:Out):Bool:=
 ((pre.map (·.1)).all (jv (out.hp.map (·.1))))&&((out.hp.map (·.1)).all (jv (pre.map (·.1))))&&(out.hp.all fun p=>p.2.used)&&((out.res.ids++out.hp.flatMap fun p=>p.2.ids).all fun i=>jv (out.hp.map (·.1)) i)
theorem G.atq{fx:Operand}{f:FuncId}{cap:List (Nat×Nat)}{as:Array Operand}{tys:Array TypeId}{args:List AV}{pre:List (Nat×Ent)}{out:Out}
  (next:Reg P C ops rest (st.app dst out) ((out.hp.map (·.1),out.hp.map (·.1))::acc) K) (hd:aC dst C.nt=true:=by rfl) (hf:st.ev fx=some (.it (.one (.clo f cap))):=by rfl) (ha:evs st as.toList=some args:=by rfl)
  (hk:abZ st (keysOf (reach st args (cap.map (·.1))))=some pre:=by rfl) (hc:aj P f (args++cap.map fun p=> .ptr p.1 p.2) pre out:=by assumption) (ho:aiC args pre out=true:=by rfl):Go1 P C ops dst (.call ⟨.value fx,as,tys⟩) ty rest st acc K:=by
 unfold aiC at ho;simp only[zx4]at ho;obtain⟨⟨⟨o1,o2⟩,o3⟩,o4⟩:=ho;refine Go1.aau hd hf ha hc (fun b e hb=>⟨yC hk b e hb,?_⟩) (fun b s hb=> .inl ?_) (fun b s hb=>zqh.1 o3 (b,s) hb) (fun b s hb=>zqg.2 ⟨(b,s),hb,rfl⟩) (fun i hi=> .inl ?_) next
 ·have:=fE.1 (zqh.1 o1 b (zqg.2 ⟨(b,e),hb,rfl⟩));obtain⟨⟨b',s⟩,hs,rfl⟩:=zqg.1 this;exact⟨s,hs⟩
 ·have:=fE.1 (zqh.1 o2 b (zqg.2 ⟨(b,s),hb,rfl⟩));obtain⟨⟨b',e⟩,hs,rfl⟩:=zqg.1 this;exact⟨e,hs⟩
 ·have hi':i∈out.res.ids++out.hp.flatMap fun p=>p.2.ids:=by
   rw[zyg];rcases hi with hi|⟨b,e,hb,hi⟩
   ·exact .inl hi
   ·exact .inr (zx9.2 ⟨(b,.ent e),hb,hi⟩)
  obtain⟨⟨b',s⟩,hs,rfl⟩:=zqg.1 (fE.1 (zqh.1 o4 i hi'));exact⟨s,hs⟩
theorem aio{o:Oper}{f:FuncId}{as:Array Operand}{tys:Array TypeId}{p:Value}{fx:Operand}{ρ:Operand->Value}(ho:o.op= .call ⟨.value fx,as,tys⟩)(hf:ρ fx= .func (.func f) #[p] #[])
  (he:∃fn,P.funcs[f]? =some fn/\(fn.name== "runtime.NumGoroutine")=false/\fn.body.isNone=false) (w:World):(execOp ρ o).run P w= .ok (.enter f (#[p]++as.map ρ)) w:=by
 obtain⟨fn,h1,h2,h3⟩:=he;unfold execOp;rw[ho];have h2':fn.name≠ "runtime.NumGoroutine" :=by simpa using h2
 have h3':fn.body≠none:=by intro e;rw[e]at h3;cases h3
 simp[resolve,hf,Deferred.ofValue,invoke,callFunc,h1,h2',h3']
theorem Go1.akb{fx:Operand}{f:FuncId}{p:Nat}{as:Array Operand}{tys:Array TypeId}{args:List AV}{pre:List (Nat×Ent)}{out:Out}{fp:List Nat}(hd:aC dst C.nt=true)(hf:st.ev fx=some (.it (.one (.bnd f p))))(ha:evs st as.toList=some args)
  (hc:aj P f (.ptr p 0::args) pre out) (hpre:∀b e,(b,e)∈pre->st.hp b= .ent e/\∃s,(b,s)∈out.hp) (hnew:∀b s,(b,s)∈out.hp->(∃e,(b,e)∈pre)\/st.hp b= .free) (hkeep:∀b s,(b,s)∈out.hp->s.used=true)
  (hfp:∀b s,(b,s)∈out.hp->b∈fp)
  (hid:∀i,(i∈out.res.ids\/∃b e,(b,Slot.ent e)∈out.hp/\i∈e.ids)->(∃s,(i,s)∈out.hp))
  (next:Reg P C ops rest (st.app dst out) ((fp,out.hp.map (·.1))::acc) K):Go1 P C ops dst (.call ⟨.value fx,as,tys⟩) ty rest st acc K:=by
 refine⟨fp,out,fun o h2 h3 h4=>aT.eff [] pre (fun b hb=>?_) (h2▸dR hd) (fun b e hb=>by cases hb) hpre hnew hkeep (fun st' E S a w hev hhp hs _ hpre'=>?_),next⟩
 ·rcases hb with⟨e,hb⟩|⟨e,hb⟩|⟨s,hb⟩
  ·cases hb
  ·obtain⟨_,s,hs⟩:=hpre b e hb;exact hfp b s hs
  ·exact hfp b s hb
 ·have hop:o.op.operands= #[fx]++as:=by rw[h3];rfl
  have ha':evs st' as.toList=some args:=by rw[iO (fun x hx=>hev x (by rw[hop];simp at hx;simp[hx]))];exact ha
  obtain⟨hall,hids⟩:=lM hs ha';have hcl:=hs.ev ((hev fx (by rw[hop];simp)).trans hf)
  obtain⟨hent,hcall⟩:=hc;have key:∀i,(∃s,(i,s)∈out.hp)->(fZ st'.hp out.hp i).used=true:=by
   intro i hi;rcases gI i out.hp st'.hp with⟨s,g1,g2⟩|⟨g1,g2⟩
   ·rw[g2];exact hkeep i s g1
   ·obtain⟨s,hi⟩:=hi;exact absurd hi (g1 s)
  refine⟨⟨fun i hi=>key i (hid i (.inl hi)),fun b e hb i hi=>key i (hid i (.inr ⟨b,e,hb,hi⟩))⟩,fun K Q hK=>?_⟩
  have hcalls:=hcall E S w (.pointer (some ⟨E.blk p,0,none⟩)::as.toList.map a.eval) hs.lt hs.gl ⟨rfl,hall⟩ (fun b e hb=>hs.hp b e (hpre' b e hb)) (fun b e k hb hk=>(hs.blk b e k (hpre' b e hb) hk).1)
   (fun b b' e e' k hne hb hb'=>hs.sep b b' e e' k hne (hpre' b e hb) (hpre' b' e' hb'))
  unfold Oper.wp;rw[aio h3 hcl.1 hent w];have harr: #[Value.pointer (some ⟨E.blk p,0,none⟩)]++as.map a.eval=(Value.pointer (some ⟨E.blk p,0,none⟩)::as.toList.map a.eval).toArray:=by
   apply Array.ext';simp
  show Calls P f _ w _;rw[harr];exact hcalls.mono fun e w' ⟨v,E',S',he,hE⟩=>by subst he;exact hK v w' E' S' hE
theorem G.akb{fx:Operand}{f:FuncId}{p:Nat}{as:Array Operand}{tys:Array TypeId}{args:List AV}{pre:List (Nat×Ent)}{out:Out}
  (next:Reg P C ops rest (st.app dst out) ((out.hp.map (·.1),out.hp.map (·.1))::acc) K) (hd:aC dst C.nt=true:=by rfl) (hf:st.ev fx=some (.it (.one (.bnd f p))):=by rfl) (ha:evs st as.toList=some args:=by rfl)
  (hk:abZ st (keysOf (reach st args [p]))=some pre:=by rfl) (hc:aj P f (.ptr p 0::args) pre out:=by assumption) (ho:aiC args pre out=true:=by rfl):Go1 P C ops dst (.call ⟨.value fx,as,tys⟩) ty rest st acc K:=by
 unfold aiC at ho;simp only[zx4]at ho;obtain⟨⟨⟨o1,o2⟩,o3⟩,o4⟩:=ho;refine Go1.akb hd hf ha hc (fun b e hb=>⟨yC hk b e hb,?_⟩) (fun b s hb=> .inl ?_) (fun b s hb=>zqh.1 o3 (b,s) hb) (fun b s hb=>zqg.2 ⟨(b,s),hb,rfl⟩) (fun i hi=>?_) next
 ·have:=fE.1 (zqh.1 o1 b (zqg.2 ⟨(b,e),hb,rfl⟩));obtain⟨⟨b',s⟩,hs,rfl⟩:=zqg.1 this;exact⟨s,hs⟩
 ·have:=fE.1 (zqh.1 o2 b (zqg.2 ⟨(b,s),hb,rfl⟩));obtain⟨⟨b',e⟩,hs,rfl⟩:=zqg.1 this;exact⟨e,hs⟩
 ·have hi':i∈out.res.ids++out.hp.flatMap fun p=>p.2.ids:=by
   rw[zyg];rcases hi with hi|⟨b,e,hb,hi⟩
   ·exact .inl hi
   ·exact .inr (zx9.2 ⟨(b,.ent e),hb,hi⟩)
  obtain⟨⟨b',s⟩,hs,rfl⟩:=zqg.1 (fE.1 (zqh.1 o4 i hi'));exact⟨s,hs⟩
def aa6:List AV->Option (List (Nat×Nat))
 |[]=>some []
 | .it (.one (.ptr b off))::l=>match aa6 l with|some m=>some ((b,off)::m)|none=>none
 |_::_=>none
theorem zl:∀{l:List AV} {m:List (Nat×Nat)},aa6 l=some m->l=m.map fun p=>AV.ptr p.1 p.2
 |[],m,h=>by simp[aa6]at h;subst h;rfl
 |v::l,m,h=>by
  unfold aa6 at h
  split at h
  ·rename_i heq;cases heq
  ·rename_i b off l' heq;cases heq
   split at h
   ·rename_i m' hm;cases h;rw[zy6,zl hm]
   ·cases h
  ·cases h
theorem aeE{E:Env}{S:Nat->Prop}{w:World}:∀{m:List (Nat×Nat)} {vs:List Value},aK (AV.has E S w) (m.map fun p=>AV.ptr p.1 p.2) vs->vs=m.map fun p=>Value.pointer (some ⟨E.blk p.1,p.2,none⟩)
 |[],[],_=>rfl
 |p::m,v::vs,h=>by rw[zy6,<-aeE h.2,show v=_ from h.1]
 |[],_::_,h=>h.elim
 |_::_,[],h=>h.elim
theorem G.atb{f:FuncId}{caps:Array Operand}{l:List AV}{cap:List (Nat×Nat)}(next:Reg P C ops rest (st.app dst ⟨.it (.one (.clo f cap)),[]⟩) (([],[])::acc) K)(hd:aC dst C.nt=true:=by rfl)(ha:evs st caps.toList=some l:=by rfl)(hc:aa6 l=some cap:=by rfl):Go1 P C ops dst (.makeFunc (.func f) #[] caps) ty rest st acc K:=
 Go1.dM [] [] zp hd zp (fun o ho _ st' E S a w hev hs _=>by
  have hop:o.op.operands=caps:=by rw[ho];simp[Op.operands]
  have ha':evs st' caps.toList=some l:=by rw[iO (fun x hx=>hev x (by rw[hop];simpa using hx))];exact ha
  obtain⟨hall,hids⟩:=lM hs ha';have hl:=zl hc;subst hl;have hv:=aeE hall;have har:caps.map a.eval=(cap.map fun p=>Value.pointer (some ⟨E.blk p.1,p.2,none⟩)).toArray:=by apply Array.ext';simpa using hv
  refine⟨fun i hi=>?_,_,by unfold execOp;rw[ho];simp[Instr.makeFunc];rfl,?_⟩
  ·obtain⟨p,hp,rfl⟩:=zqg.1 (show i∈cap.map (·.1)from hi)
   exact hids (AV.ptr p.1 p.2) (zqg.2 ⟨p,hp,rfl⟩) p.1 zd
  ·show _=Value.func (.func f) #[] _;rw[har]) next
theorem G.atl{f:FuncId}{b:Nat}(next:Reg P C ops rest (st.app dst ⟨.it (.one (.bnd f b)),[]⟩) (([],[])::acc) K)(hd:aC dst C.nt=true:=by rfl)(hx:st.ev x=some (.ptr b 0):=by rfl):Go1 P C ops dst (.makeFunc (.func f) #[x] #[]) ty rest st acc K:=
 Go1.dM [] [] zp hd zp (fun o ho _ st' E S a w hev hs _=>by
  have hx':=hs.ev ((hev x (by simp[ho,Op.operands])).trans hx)
  refine⟨fun i hi=>hx'.2 i hi,_,by unfold execOp;rw[ho];simp[Instr.makeFunc];rfl,?_⟩
  show _=Value.func (.func f) #[_] #[];rw[show a.eval x=_ from hx'.1]) next
theorem G.acz{b off:Nat}(next:Reg P C ops rest (st.app dst ⟨.ptr b off,[]⟩) (([],[])::acc) K)(hd:aC dst C.nt=true:=by rfl)(hx:st.ev x=some (.ptr b off):=by rfl):Go1 P C ops dst (.nilCheck x) ty rest st acc K:=
 Go1.dM [] [] zp hd zp (fun o ho _ st' E S a w hev hs _=>by
  have hx':=hs.ev ((hev x (by simp[ho,Op.operands])).trans hx)
  have hv:a.eval x= .pointer (some ⟨E.blk b,off,none⟩):=hx'.1;exact⟨fun i hi=>hx'.2 i hi,_,by unfold execOp;rw[ho];simp[hv],rfl⟩) next
structure Named(d b:Nat):Prop where
theorem aT.aa0{o:Oper}{b:Nat}{cells:List Atom}(hd:∀d,o.dst=some d->d < C.nt)(hf:st.hp b= .free)
  (h:∀st' E S a w,(∀x∈o.op.operands,st'.ev x=st.ev x)->nE C st' E S a w->
   (∀i∈cells.flatMap Atom.ids,(st'.hp i).used=true)/\∃cs,(execOp a.eval o).run P w= .ok (.value (.pointer (some ⟨w.heap.size,0,none⟩))) (w.alloc (.cells cs t))/\aK (Atom.has E S w) cells cs.toList):
  aT P C o st [b] ⟨.ptr b 0,[(b,.ent (.box t cells))]⟩:=by
 refine aT.eff [] [] (fun b hb=>?_) hd (fun b e hb=>by cases hb) (fun b e hb=>by cases hb) (fun b s hb=>?_) (fun b s hb=>?_) (fun st' E S a w hev hhp hs _ _=>?_)
 ·rcases hb with⟨e,hb⟩|⟨e,hb⟩|⟨s,hb⟩
  ·cases hb
  ·cases hb
  ·simp at hb;simp[hb.1]
 ·simp at hb;rw[hb.1];exact .inr hf
 ·simp at hb;rw[hb.2];rfl
 ·obtain⟨hid,cs,hr,hall⟩:=h st' E S a w hev hs;have hfree:st'.hp b= .free:=(hhp b zp).trans hf
  refine⟨⟨fun i hi=>?_,fun b e hb i hi=>?_⟩,fun K Q hK=>?_⟩
  ·simp[AV.ids,AV0.ids,Atom.ids]at hi;subst hi;simp[fZ,Slot.used]
  ·simp at hb
   obtain⟨rfl,rfl⟩:=hb;by_cases e:i=b
   ·subst e;simp[fZ,Slot.used]
   ·simp only[fZ];rw[upd_ne _ _ e];exact hid i hi
  ·have hE:=Eff.alloc (E:=E) (S:=S) (w:=w) (b:=b) (T:=t) (cells:=cells) (cs:=cs.toList) hs.lt (fun c hc1 hc2=>by
    have:=hid b (zx9.2 ⟨c,hc1,hc2⟩);rw[hfree]at this;cases this) hall
   unfold Oper.wp;rw[hr];exact hK _ _ _ _ hE
theorem G.boxN{v:AV0}{b:Nat}(next:Reg P C ops rest (st.app (some d) ⟨.ptr b 0,[(b,.ent (.box t v.cells))]⟩) (([b],[b])::acc) K)(hm:Named d b:=by assumption)(hd:aC (some d) C.nt=true:=by rfl)(hx:st.ev x=some (.it v):=by rfl)(hf:st.hp b= .free:=by rfl)(h1:v.cells.all Atom.eO=true:=by rfl):Go1 P C ops (some d) (.box t x) ty rest st acc K:=
 ⟨[b],⟨.ptr b 0,[(b,.ent (.box t v.cells))]⟩,fun o h2 h3 h4=>aT.aa0 (h2▸dR hd) hf (fun st' E S a w hev hs=>by
  obtain⟨hv,hids⟩:=hs.ev ((hev x (by simp[h3,Op.operands])).trans hx)
  obtain⟨us,hc,hall,hone⟩:=AV0.has.cells hv h1;refine⟨fun i hi=>hids i (by rw[AV0.tH]at hi;exact hi),us.toArray,?_,by simpa using hall⟩
  unfold execOp;rw[h3];simp[Instr.box,newVar,newRow,hc]),next⟩
theorem G.aa0{cells:List Value}{b:Nat}[hz:gu P t cells](next:Reg P C ops rest (st.app (some d) ⟨.ptr b 0,[(b,.ent (.box t (cells.map fun v=>Atom.c (.val v))))]⟩) (([b],[b])::acc) K)(hm:Named d b:=by assumption)(hd:aC (some d) C.nt=true:=by rfl)(hf:st.hp b= .free:=by rfl):Go1 P C ops (some d) (.alloc t) ty rest st acc K:=
 ⟨[b],⟨.ptr b 0,[(b,.ent (.box t (cells.map fun v=>Atom.c (.val v))))]⟩,fun o h2 h3 h4=>aT.aa0 (h2▸dR hd) hf (fun st' E S a w hev hs=>by
  obtain⟨z,hz1,hz2⟩:=lN hz.h w;refine⟨fun i hi=>?_,cells.toArray,?_,by simpa using lq cells⟩
  ·obtain⟨c,hc,hi⟩:=zx9.1 hi;obtain⟨v,_,rfl⟩:=zqg.1 hc;cases hi
  ·unfold execOp;rw[h3];simp[Instr.alloc,newVar,newRow,hz1,hz2]),next⟩
theorem aM.qR{rs:List ResultVar}{out:Out}(b:Nat){size n:Nat}{ps:List Nat}{cells:List CA}(h:aM C P rs out (st.frz b size n cells))(hB:∀k,C.B k->k∈ps.map C.E0.blk:=by assumption)(hps:(ps.all fun p=>C.fix p&&(st.hp p).aiL&&!Nat.beq p b)=true:=by rfl)(hb:st.hp b= .ent (.row t size n cells):=by rfl):aM C P rs out st:=by
 obtain⟨s',hl,hr⟩:=h;exact⟨s',fun a w hs=>hl a w (St.aiB hB hps hb a w hs),hr⟩
def abS(st:St):List (Nat×Slot)->Prop
 |[]=>True
 |(b,s)::l=>st.hp b=s/\abS st l
theorem abS.spec{st:St}:∀{l:List (Nat×Slot)},abS st l->∀b e,(b,Slot.ent e)∈l->st.hp b= .ent e
 |[],_,_,_,h=>by cases h
 |(b',s)::l,hh,b,e,h=>by
  rcases zy3.1 h with h|h
  ·cases h;exact hh.1
  ·exact hh.2.spec b e h
theorem gG{rs:List ResultVar}{xs:List AV0}{l:List (Nat×Slot)}(h:aK (ak P st) rs xs)(hh:abS st l):aM C P rs ⟨aqv xs,l⟩ st:= .ok ⟨xs,h,rfl,hh.spec⟩
end
section
variable{P:Program}{C:Ctx}{st:St}
variable{ops rest:List Oper}{acc:List (List Nat×List Nat)}{K:List (List Nat×List Nat)->St->Prop}{dst:Option Tmp}{d:Tmp}{ty t:TypeId}{x y z:Operand}
theorem asc{A B D X:List Atom}(h:X.length=B.length):spl (A++B++D) A.length X=A++X++D:=by
 have e1:(A++B++D).drop (A.length+X.length)=D:=List.drop_left' (by rw[zqi,h])
 have e2:(A++B++D).take A.length=A:=by rw[zqj];exact List.take_left' rfl
 rw[iV _ _ _ (by simp only[zqi];omega),e1,e2]
theorem nG{size n i:Nat}{v:AV0}{ps:List (Nat×AV0)}{A B D:List Atom}(hi:i < n)(hA:A.length=i*size)(hB:B.length=size)(hv:v.cells.length=size):fV (placesOf n size) (A++B++D) ((i,v)::ps)=fV (placesOf n size) (A++v.cells++D) ps:=by
 have hpl:(placesOf n size)[i]? =some (i*size,size):=by simp[placesOf,hi]
 have e1:Nat.beq v.cells.length size=true:=by rw[hv];exact Nat.beq_refl _
 have e2:Nat.ble (i*size+size) (A++B++D).length=true:=by rw[zva];simp only[zqi];omega
 conv=>lhs;unfold fV
 simp only[hpl,e1,e2,Bool.and_self];rw[<-hA,asc zE]
theorem blocks{n size:Nat}{zs:List Value}(i:Nat)(hi:i < n):∃Z:List Atom,Z.length=size/\∃R:List Atom,R.length=(n - i - 1)*size/\(((madeCells zs.toArray (n*size)).toList.map fun v=>Atom.c (.val v)).drop (i*size))=Z++R:=by
 have hz:((madeCells zs.toArray (n*size)).toList.map fun v=>Atom.c (.val v)).length=n*size:=by simp[size_madeCells]
 generalize ((madeCells zs.toArray (n*size)).toList.map fun v=>Atom.c (.val v))=W at hz
 have h1:n*size=(n - i - 1)*size+(i*size+size):=by
  rw[<-zv8,<-zy5];congr 1;omega
 refine⟨(W.drop (i*size)).take size,?_,(W.drop (i*size)).drop size,?_,(zv5 _ _).symm⟩
 ·rw[zx3,zxe];omega
 ·rw[zxe,zxe];omega
theorem atv{size:Nat}{zs:List Value}{v1 v2:AV0}(h1:v1.cells.length=size)(h2:v2.cells.length=size):fV (placesOf 2 size) ((madeCells zs.toArray (2*size)).toList.map fun v=>Atom.c (.val v)) [(0,v1),(1,v2)]=some (v1.cells++v2.cells):=by
 obtain⟨Z,hZ,R,hR,e⟩:=blocks (n:=2) (size:=size) (zs:=zs) 0 zE
 rw[zw3,List.drop_zero]at e;rw[e,<-zvd Z,nG zE zp hZ h1,zvd]
 have hR':R.length=size:=zE
 rw[<-zqb R,<-zqj,nG zE zE hR' h2,zqb];rfl
theorem fill3{size:Nat}{zs:List Value}{v1 v2 v3:AV0}(h1:v1.cells.length=size)(h2:v2.cells.length=size)(h3:v3.cells.length=size):fV (placesOf 3 size) ((madeCells zs.toArray (3*size)).toList.map fun v=>Atom.c (.val v)) [(0,v1),(1,v2),(2,v3)]=some (v1.cells++v2.cells++v3.cells):=by
 obtain⟨Z,hZ,R,hR,e⟩:=blocks (n:=3) (size:=size) (zs:=zs) 0 zE
 rw[zw3,List.drop_zero]at e;rw[e,<-zvd Z,nG zE zp hZ h1,zvd]
 have hR':R.length=size+size:=zE
 obtain⟨R1,R2,hr1,hr2,rfl⟩:∃R1 R2:List Atom,R1.length=size/\R2.length=size/\R=R1++R2:=⟨R.take size,R.drop size,by rw[zx3];omega,by rw[zxe];omega,(zv5 _ _).symm⟩
 rw[<-zqj,nG zE zE hr1 h2]
 rw[<-zqb R2,<-zqj,nG zE (by simp only[zqi];omega) hr2 h3,zqb];rfl
def adq(size:Nat)(v:AV0)(m:List CA):Bool:=Nat.beq m.length size&&Nat.ble size 1000&&v.cells.all Atom.eO
theorem lg{size:Nat}{v:AV0}{m:List CA}(hc:aY v.cells=some m)(h:adq size v m=true):m.length=size/\size<=1000/\(v.cells.all Atom.eO)=true/\v.cells.length=size:=by
 unfold adq at h;simp only[zx4]at h;obtain⟨⟨h1,h2⟩,h3⟩:=h;have hl:m.length=size:=Nat.eq_of_beq_eq_true h1;exact⟨hl,by simpa[zva]using h2,h3,by rw[<-rQ hc];exact hl⟩
theorem jf:∀{a b:List Atom} {m k:List CA},aY a=some m->aY b=some k->aY (a++b)=some (m++k)
 |[],b,m,k,ha,hb=>by simp[aY]at ha;subst ha;exact hb
 |x::a,b,m,k,ha,hb=>by
  cases x with
  |c x=>
   unfold aY at ha;cases h1:aY a with
   |none=>simp[h1]at ha
   |some m'=>
    simp[h1]at ha;subst ha
    rw[List.cons_append];unfold aY;rw[jf h1 hb];rfl
  |ptr _ _=>simp[aY]at ha
  |own _=>simp[aY]at ha
  |rptr _ _=>simp[aY]at ha
  |clo _ _=>simp[aY]at ha
  |bnd _ _=>simp[aY]at ha
  |rel _ _=>simp[aY]at ha
theorem G.akx{e:TypeId}{size bytes:Nat}{zs:List Value}{v1 v2:AV0}{m1 m2:List CA}[ht:bT P t e size][he:fH P e zs bytes](next:Reg P C ops rest (st.app (some d) ⟨.own d,[(d,.ent (.row e size 2 (m1++m2)))]⟩) (([d],[d])::acc) K)(hown:uY d:=by assumption)(hd:aC (some d) C.nt=true:=by rfl)(hf:st.hp d= .free:=by rfl)(hx:st.ev x=some (.it v1):=by rfl)(hy:st.ev y=some (.it v2):=by rfl)(hc1:aY v1.cells=some m1:=by rfl)(hc2:aY v2.cells=some m2:=by rfl)
  (hm1:adq size v1 m1=true:=by rfl) (hm2:adq size v2 m2=true:=by rfl):Go1 P C ops (some d) (.buildSlice t 2 #[(0,x),(1,y)]) ty rest st acc K:=by
 obtain⟨a1,a2,a3,a4⟩:=lg hc1 hm1;obtain⟨b1,b2,b3,b4⟩:=lg hc2 hm2;refine Go1.buildSlice (ps:=[(0,v1),(1,v2)]) (l:=v1.cells++v2.cells) (m:=m1++m2) hd hf (by simp only[evp,hx,hy]) ?_ ?_ (atv a4 b4) (jf hc1 hc2) ?_ next
 ·simp only[List.all_cons,List.all_nil,Bool.and_true,a3,b3,Bool.true_and];rfl
 ·rw[zva];omega
 ·rw[zqi,a1,b1,Nat.two_mul];exact Nat.beq_refl _
theorem G.lit2{e:TypeId}{size bytes:Nat}{zs:List Value}{v1 v2:AV0}{m1 m2:List CA}[ht:bT P t e size][he:fH P e zs bytes](next:Reg P C ops rest (st.app dst ⟨.r (aQ size 2 (m1++m2)),[]⟩) (([],[])::acc) K)(hd:aC dst C.nt=true:=by rfl)(hx:st.ev x=some (.it v1):=by rfl)(hy:st.ev y=some (.it v2):=by rfl)(hc1:aY v1.cells=some m1:=by rfl)(hc2:aY v2.cells=some m2:=by rfl)
  (hm1:adq size v1 m1=true:=by rfl) (hm2:adq size v2 m2=true:=by rfl):Go1 P C ops dst (.buildSlice t 2 #[(0,x),(1,y)]) ty rest st acc K:=by
 obtain⟨a1,a2,a3,a4⟩:=lg hc1 hm1;obtain⟨b1,b2,b3,b4⟩:=lg hc2 hm2;refine Go1.sM (ps:=[(0,v1),(1,v2)]) (l:=v1.cells++v2.cells) (m:=m1++m2) hd (by simp only[evp,hx,hy]) ?_ ?_ (atv a4 b4) (jf hc1 hc2) ?_ next
 ·simp only[List.all_cons,List.all_nil,Bool.and_true,a3,b3,Bool.true_and];rfl
 ·rw[zva];omega
 ·rw[zqi,a1,b1,Nat.two_mul];exact Nat.beq_refl _
theorem G.lit3{e:TypeId}{size bytes:Nat}{zs:List Value}{v1 v2 v3:AV0}{m1 m2 m3:List CA}[ht:bT P t e size][he:fH P e zs bytes](next:Reg P C ops rest (st.app dst ⟨.r (aQ size 3 (m1++m2++m3)),[]⟩) (([],[])::acc) K)(hd:aC dst C.nt=true:=by rfl)(hx:st.ev x=some (.it v1):=by rfl)(hy:st.ev y=some (.it v2):=by rfl)(hz:st.ev z=some (.it v3):=by rfl)(hc1:aY v1.cells=some m1:=by rfl)(hc2:aY v2.cells=some m2:=by rfl)(hc3:aY v3.cells=some m3:=by rfl)
  (hm1:adq size v1 m1=true:=by rfl) (hm2:adq size v2 m2=true:=by rfl) (hm3:adq size v3 m3=true:=by rfl):Go1 P C ops dst (.buildSlice t 3 #[(0,x),(1,y),(2,z)]) ty rest st acc K:=by
 obtain⟨a1,a2,a3,a4⟩:=lg hc1 hm1;obtain⟨b1,b2,b3,b4⟩:=lg hc2 hm2;obtain⟨c1,c2,c3,c4⟩:=lg hc3 hm3;refine Go1.sM (ps:=[(0,v1),(1,v2),(2,v3)]) (l:=v1.cells++v2.cells++v3.cells) (m:=m1++m2++m3) hd (by simp only[evp,hx,hy,hz]) ?_ ?_ (fill3 a4 b4 c4) (jf (jf hc1 hc2) hc3) ?_ next
 ·simp only[List.all_cons,List.all_nil,Bool.and_true,a3,b3,c3,Bool.true_and];rfl
 ·rw[zva];omega
 ·rw[zqi,zqi,a1,b1,c1,show 3*size=size+size+size by omega];exact Nat.beq_refl _
end
section
variable{P:Program}{C:Ctx}{st:St}
variable{ops rest:List Oper}{acc:List (List Nat×List Nat)}{K:List (List Nat×List Nat)->St->Prop}{dst:Option Tmp}{d:Tmp}{ty t e:TypeId}{x y:Operand}{k:IntKind}{i n size:Nat}{zi:Int}
class TArr(P:Program)(t:TypeId)(n:outParam Nat)(e:outParam TypeId)(size:outParam Nat):Prop where
 h:P.underlying t=some (.array n e)
 s:(P.info? e).map (·.size)=some size
theorem aeY{l:List Atom}{m:List CA}(h:aY l=some m):l.flatMap Atom.ids=[]:=by
 rw[eu h];clear h
 induction m with
 |nil=>rfl
 |cons a m ih=>rw[zy6,zq7,ih];rfl
theorem G.ao4{zs:List Value}{parts:Array (Nat×Operand)}{ps:List (Nat×AV0)}{l:List Atom}{m:List CA}[ht:TArr P t n e size][hz:gu P t zs](next:Reg P C ops rest (st.app (some d) ⟨.agg l,[]⟩) (([],[])::acc) K)(hd:aC (some d) C.nt=true:=by rfl)(hp:evp st parts.toList=some ps:=by rfl)(h1:(ps.all fun p=>p.2.cells.all Atom.eO&&Nat.blt p.1 n)=true:=by rfl)
  (hf:fV (placesOf n size) (zs.map fun v=>Atom.c (.val v)) ps=some l:=by rfl) (hc:aY l=some m:=by rfl):Go1 P C ops (some d) (.build t parts) ty rest st acc K:=
 Go1.dM [] [] zp hd zp (fun o ho _ st' E S a w hev hs _=>by
  have hp':evp st' parts.toList=some ps:=by
   rw[mW (fun x hx=>hev x.2 (by rw[ho];simp[Op.operands];exact⟨x.1,by simpa using hx⟩))];exact hp
  obtain⟨hall,hids⟩:=vC hs hp';obtain⟨z,hz1,hz2⟩:=lN hz.h w;have hu:=run_underlying ht.h (w:=w);have hsz:=run_sizeOf ht.s w;rw[zqh]at h1;obtain⟨us,hfill,hus⟩:=sD (w:=w) (cs:=zs) hall (fun p hp=>by have:=h1 p hp;rw[zx4]at this;exact this.1) (lq zs) hf
  have hfill':Instr.fill (fun i=>some (i*size,size)) zs.toArray (parts.toList.map fun x=>(x.1,a.eval x.2))=some us.toArray:=by
   rw[<-hfill];refine pY _ _ fun q hq=>?_
   obtain⟨j,hj⟩:=List.getElem?_of_mem hq
   obtain⟨p,hp1,hp2⟩:=aK.get' hall hj;have:=h1 p (zq4 hp1);rw[zx4]at this;have hlt:q.1 < n:=by rw[<-hp2.1];simpa[Nat.blt_eq]using this.2
   simp[placesOf,hlt]
  refine⟨fun j hj=>?_,.agg us.toArray,?_,us,rfl,hus⟩
  ·have:j∈l.flatMap Atom.ids:=hj;rw[aeY hc]at this;cases this
  ·unfold execOp;rw[ho];simp only[Instr.build,Sem.run_bind,Sem.run_pure,Result.andThen_ok,hz1,hz2,hu,hsz,Array.toList_map];rw[hfill'];rfl) next
theorem G.aqf{l:List Atom}{a:Atom}[ht:TArr P t n e 1][ho:iK P e](next:Reg P C ops rest (st.app dst ⟨.it (.one a),[]⟩) (([],[])::acc) K)(hd:aC dst C.nt=true:=by rfl)(hx:st.ev x=some (.agg l):=by rfl)(hy:st.ev y=some (.v (.int k zi)):=by rfl)(hy0:zi=(i:Int):=by first|with_reducible rfl|exact SX.jE _|rfl)(hi:i < n:=by omega)(ha:l[i]? =some a:=by rfl):Go1 P C ops dst (.index t x y) ty rest st acc K:=
 Go1.dM [] [] zp hd zp (fun o ho' _ st' E S b w hev hs _=>by
  obtain⟨⟨vs,hv,hall⟩,hids⟩:=hs.ev ((hev x (by simp[ho',Op.operands])).trans hx)
  have hyv:b.eval y= .int k zi:=(hs.ev ((hev y (by simp[ho',Op.operands])).trans hy)).1
  obtain⟨v,hv1,hv2⟩:=aK.get hall ha;have hsz:=run_sizeOf ho.s w;have hag:=iq ho.h w;refine⟨fun j hj=>hids j (zx9.2 ⟨a,zq4 ha,hj⟩),v,?_,hv2⟩
  subst hy0;unfold execOp;rw[ho'];simp[hv,hyv,Instr.index,asIntOf,run_underlying ht.h,hi,hsz,part,hag,hv1]) next
end
section
variable{P:Program}{C:Ctx}{st:St}
variable{ops rest:List Oper}{acc:List (List Nat×List Nat)}{K:List (List Nat×List Nat)->St->Prop}{dst:Option Tmp}{d:Tmp}{ty t:TypeId}{x y:Operand}
end
end
section
def mpL(σ:Atom->Atom):List Atom->List Atom
 |[]=>[]
 |a::l=>σ a::mpL σ l
def AV0.mp(σ:Atom->Atom):AV0->AV0
 | .one a=> .one (σ a)
 | .agg l=> .agg (mpL σ l)
def mpT(σ:Atom->Atom):List AV0->List AV0
 |[]=>[]
 |a::l=>a.mp σ::mpT σ l
def AV.mp(σ:Atom->Atom):AV->AV
 | .it x=> .it (x.mp σ)
 | .tup l=> .tup (mpT σ l)
def Ent.mp(σ:Atom->Atom):Ent->Ent
 | .abs A=> .abs A
 | .box t l=> .box t (mpL σ l)
 | .row t s n l=> .row t s n l
def Slot.mp(σ:Atom->Atom):Slot->Slot
 | .ent e=> .ent (e.mp σ)
 | .free=> .free
 | .gone=> .gone
def St.mp(st:St)(b:Nat)(σ:Atom->Atom):St:=
 ⟨fun t=>match st.tm t with|some v=>some (v.mp σ)|none=>none,upd (fun c=>(st.hp c).mp σ) b .gone⟩
section
variable{σ:Atom->Atom}
theorem adQ(hσ:∀a,∀i∈(σ a).ids,i∈a.ids):∀(l:List Atom),∀i∈(mpL σ l).flatMap Atom.ids,i∈l.flatMap Atom.ids
 |[],i,hi=>hi
 |a::l,i,hi=>by
  simp only[mpL,zq7,zyg]at hi ⊢;exact hi.imp (hσ a i) (adQ hσ l i)
theorem AV0.yc(hσ:∀a,∀i∈(σ a).ids,i∈a.ids)(x:AV0):∀i∈(x.mp σ).ids,i∈x.ids:=by
 cases x with
 |one a=>exact hσ a
 |agg l=>exact adQ hσ l
theorem ai3(hσ:∀a,∀i∈(σ a).ids,i∈a.ids):∀(l:List AV0),∀i∈(mpT σ l).flatMap AV0.ids,i∈l.flatMap AV0.ids
 |[],i,hi=>hi
 |a::l,i,hi=>by
  simp only[mpT,zq7,zyg]at hi ⊢;exact hi.imp (a.yc hσ i) (ai3 hσ l i)
theorem AV.yc(hσ:∀a,∀i∈(σ a).ids,i∈a.ids)(x:AV):∀i∈(x.mp σ).ids,i∈x.ids:=by
 cases x with
 |it a=>exact a.yc hσ
 |tup l=>exact ai3 hσ l
theorem Ent.yc(hσ:∀a,∀i∈(σ a).ids,i∈a.ids)(x:Ent):∀i∈(x.mp σ).ids,i∈x.ids:=by
 cases x with
 |abs A=>intro i hi;cases hi
 |box t l=>exact adQ hσ l
 |row t s m l=>exact fun i h=>h
variable{E:Env}{S S':Nat->Prop}{w:World}
theorem ael(f:∀a v,Atom.has E S w a v->(σ a).has E S' w v):∀{l:List Atom} {vs:List Value},aK (Atom.has E S w) l vs->aK (Atom.has E S' w) (mpL σ l) vs
 |[],[],_=>trivial
 |a::_,v::_,h=>⟨f a v h.1,ael f h.2⟩
 |[],_::_,h=>h.elim
 |_::_,[],h=>h.elim
theorem AV0.has.mp(f:∀a v,Atom.has E S w a v->(σ a).has E S' w v){x:AV0}{v:Value}(h:x.has E S w v):(x.mp σ).has E S' w v:=by
 cases x with
 |one a=>exact f a v h
 |agg l=>obtain⟨vs,h1,h2⟩:=h;exact⟨vs,h1,ael f h2⟩
theorem ajm(f:∀a v,Atom.has E S w a v->(σ a).has E S' w v):∀{l:List AV0} {vs:List Value},aK (AV0.has E S w) l vs->aK (AV0.has E S' w) (mpT σ l) vs
 |[],[],_=>trivial
 |_::_,_::_,h=>⟨AV0.has.mp f h.1,ajm f h.2⟩
 |[],_::_,h=>h.elim
 |_::_,[],h=>h.elim
theorem AV.has.mp(f:∀a v,Atom.has E S w a v->(σ a).has E S' w v){x:AV}{v:Value}(h:x.has E S w v):(x.mp σ).has E S' w v:=by
 cases x with
 |it a=>exact AV0.has.mp f h
 |tup l=>obtain⟨vs,h1,h2⟩:=h;exact⟨vs,h1,ajm f h2⟩
theorem Ent.has.mp(f:∀a v,Atom.has E S w a v->(σ a).has E S' w v)(hsub:∀k,S' k->S k){e:Ent}{c:Nat}(h:e.has E S w c):(e.mp σ).has E S' w c:=by
 cases e with
 |abs A=>exact A.step h (Off.refl S w) (fun k hk=> .inl (hsub k hk)) (fun _ _=>rfl)
 |box t l=>obtain⟨cs,h1,h2⟩:=h;exact⟨cs,h1,ael f h2⟩
 |row t s m l=>obtain⟨vs,h1,h2⟩:=h;exact⟨vs,h1,h2.mono fun a v _ ha=>ha.step (Off.refl S w) (fun k hk=> .inl (hsub k hk))⟩
end
theorem St.le_mp{C:Ctx}{st:St}{b:Nat}{e:Ent}{σ:Atom->Atom}(hσi:∀a,∀i∈(σ a).ids,i∈a.ids)(hB:∀k,¬C.B k)(hb:st.hp b= .ent e)
  (hσ:∀E S w,e.has E S w b->(∀k,e.at E b k->S k)->∀a v,Atom.has E S w a v->(σ a).has E (fun k=>S k/\¬e.at E b k) w v):St.le C st (st.mp b σ):=by
 intro a w ⟨E,S,hs⟩;have f:=hσ E S w (hs.hp b e hb) (fun k hk=>(hs.blk b e k hb hk).1)
 have hkey:∀c e',(st.mp b σ).hp c= .ent e'->c≠b/\∃e0,st.hp c= .ent e0/\e'=e0.mp σ:=by
  intro c e' hc;have hc':upd (fun c=>(st.hp c).mp σ) b .gone c= .ent e':=hc
  by_cases hcb:c=b
  ·subst hcb;rw[upd_same]at hc';cases hc'
  ·rw[upd_ne _ _ hcb]at hc';refine⟨hcb,?_⟩;cases h1:st.hp c with
   |ent e0=>rw[h1]at hc';simp only[Slot.mp]at hc';cases hc';exact⟨e0,rfl,rfl⟩
   |free=>rw[h1]at hc';cases hc'
   |gone=>rw[h1]at hc';cases hc'
 have hused:∀c,(st.hp c).used=true->((st.mp b σ).hp c).used=true:=by
  intro c hc;show (upd (fun c=>(st.hp c).mp σ) b .gone c).used=true
  by_cases hcb:c=b
  ·subst hcb;rw[upd_same];rfl
  ·rw[upd_ne _ _ hcb];cases h1:st.hp c with
   |ent e0=>rfl
   |free=>rw[h1]at hc;cases hc
   |gone=>rfl
 have htm:∀t v,(st.mp b σ).tm t=some v->∃v0,st.tm t=some v0/\v=v0.mp σ:=by
  intro t v ht;have ht':(match st.tm t with|some v=>some (v.mp σ)|none=>none)=some v:=ht
  cases h1:st.tm t with
  |none=>rw[h1]at ht';cases ht'
  |some v0=>rw[h1]at ht';cases ht';exact⟨v0,rfl,rfl⟩
 have hblk:∀(e0:Ent) c,(e0.mp σ).at E c=e0.at E c:=fun e0 c=>by cases e0 <;> rfl
 refine⟨E,fun k=>S k/\¬e.at E b k,{dfr:=hs.dfr,nt:=hs.nt,cT:=fun k hk=>⟨hs.cT k hk,fun h=>?_⟩,cT0:=hs.cT0,cS:=fun k hk=>hs.cS k hk.1,lt:=fun k hk=>hs.lt k hk.1,tm:=fun t v ht=>?_,tid:=fun t v ht i hi=>?_,hp:=fun c e' hc=>?_,hid:=fun c e' hc i hi=>?_,blk:=fun c e' k hc hk=>?_,sep:=fun c c' e1 e2 k hne hc hc' hk=>?_,off:=hs.off,env:=fun c hc=>?_,gl:=hs.gl.sub fun k hk=>hk.1}⟩
 ·have h1:=(hs.blk b e k hb h).2.resolve_left (hB k);have h2:=hs.cT0 k hk;omega
 ·obtain⟨v0,h1,rfl⟩:=htm t v ht;exact AV.has.mp f (hs.tm t v0 h1)
 ·obtain⟨v0,h1,rfl⟩:=htm t v ht;exact hused i (hs.tid t v0 h1 i (v0.yc hσi i hi))
 ·obtain⟨_,e0,h1,rfl⟩:=hkey c e' hc;exact Ent.has.mp f (fun k hk=>hk.1) (hs.hp c e0 h1)
 ·obtain⟨_,e0,h1,rfl⟩:=hkey c e' hc;exact hused i (hs.hid c e0 h1 i (e0.yc hσi i hi))
 ·obtain⟨hcb,e0,h1,rfl⟩:=hkey c e' hc;rw[hblk]at hk;have h2:=hs.blk c e0 k h1 hk;exact⟨⟨h2.1,fun h=>hs.sep c b e0 e k hcb h1 hb hk h⟩,h2.2⟩
 ·obtain⟨_,e3,h1,rfl⟩:=hkey c e1 hc;obtain⟨_,e4,h2,rfl⟩:=hkey c' e2 hc';rw[hblk]at hk ⊢;exact hs.sep c c' e3 e4 k hne h1 h2 hk
 ·obtain⟨g1,g2,g3⟩:=hs.env c hc;exact⟨g1,g2,hused c g3⟩
def bfz(b:Nat)(m:List CA):Atom->Atom
 | .c a=> .c a
 | .ptr k off=>match Nat.beq k b with|true=> .c (.sat (dK (m.drop off)))|false=> .ptr k off
 | .own k=> .own k
 | .rptr k off=> .rptr k off
 | .clo f cap=> .clo f cap
 | .bnd f k=> .bnd f k
 | .rel k R=> .rel k R
theorem aji{b off:Nat}{m:List CA}:bfz b m (.ptr b off)= .c (.sat (dK (m.drop off))):=by
 simp only[bfz,Nat.beq_refl]
theorem ab9{b k off:Nat}{m:List CA}(h:k≠b):bfz b m (.ptr k off)= .ptr k off:=by
 simp only[bfz,ahv h]
theorem aqM(b:Nat)(m:List CA)(a:Atom):∀i∈(bfz b m a).ids,i∈a.ids:=by
 cases a with
 |ptr k off=>
  intro i hi;by_cases hk:k=b
  ·subst hk;rw[aji]at hi;cases hi
  ·rw[ab9 hk]at hi;exact hi
 |_=>exact fun i hi=>hi
theorem St.aud{C:Ctx}{st:St}{b:Nat}{t:TypeId}{cells:List Atom}{m:List CA}(hB:∀k,¬C.B k)(hb:st.hp b= .ent (.box t cells))(hc:aY cells=some m):St.le C st (st.mp b (bfz b m)):=
 St.le_mp (aqM b m) hB hb fun E S w hh hS a v ha=>by
  have hsub:∀k,(fun k=>S k/\¬(Ent.box t cells).at E b k) k->S k:=fun k hk=>hk.1
  have keep:∀a:Atom,a.has E S w v->a.has E (fun k=>S k/\¬(Ent.box t cells).at E b k) w v:=fun a ha=>ha.step (fun _ _=>⟨rfl,rfl⟩) (Off.refl S w) (fun k hk=> .inl (hsub k hk))
  cases a with
  |ptr k off=>
   by_cases hk:k=b
   ·subst hk;rw[aji];obtain⟨cs,h1,h2⟩:=hh;rw[eu hc]at h2;have h3:=iH h2;refine abB.2 ⟨E.blk k,off,ha,fun i c hic=>?_⟩
    rw[zv1]at hic
    obtain⟨u,hu,huc⟩:=h3.get hic;have hcell:=cells_of_block h1 0 (off+i) u (by simpa using hu)
    exact⟨u,fun h=>h.2 rfl,by simpa[Addr.add_lit]using hcell,huc.step (Off.refl S w) (fun k hk=> .inl (hsub k hk))⟩
   ·rw[ab9 hk];exact keep _ ha
  |c a=>exact keep _ ha
  |own k=>exact keep _ ha
  |rptr k off=>exact keep _ ha
  |clo f cap=>exact keep _ ha
  |bnd f k=>exact keep _ ha
  |rel k R=>exact keep _ ha
theorem WP.jo{P:Program}{C:Ctx}{st:St}{Q:Exit->St->Prop}{c:Code}{t:TypeId}(b:Nat){cells:List Atom}{m:List CA}(hB:∀k,¬C.B k)(hb:st.hp b= .ent (.box t cells))(hc:aY cells=some m)(h:WP P C c (st.mp b (bfz b m)) Q):WP P C c st Q:=
 WP.weaken (St.aud hB hb hc) h
def fD(f:FuncId)(bs cs:List CA):Rep where
 has S w v:=∃us vs:List Value,v= .func (.func f) us.toArray vs.toArray/\aK (CA.has S w) bs us/\aK (CA.has S w) cs vs
 one h:=by obtain⟨us,vs,rfl,_⟩:=h;rfl
 step h ho hs:=by
  obtain⟨us,vs,h1,h2,h3⟩:=h;exact⟨us,vs,h1,h2.mono fun a b _ h=>h.step ho hs,h3.mono fun a b _ h=>h.step ho hs⟩
def agJ(c:CA):AV:= .it (.one (.c c))
theorem abm{E:Env}{S:Nat->Prop}{w:World}:∀{l:List CA} {vs:List Value},aK (CA.has S w) l vs->aK (AV.has E S w) (l.map agJ) vs
 |[],[],_=>trivial
 |_::_,_::_,h=>⟨h.1,abm h.2⟩
 |[],_::_,h=>h.elim
 |_::_,[],h=>h.elim
def FnV(P:Program)(x:CA)(args:List AV)(r:AV):Prop:=
 ∀S w v,x.has S w v->∃(f:FuncId) (us vs:List Value) (bs cs:List AV),v= .func (.func f) (List.toArray us) (List.toArray vs)/\(∀E,aK (AV.has E S w) bs us)/\(∀E,aK (AV.has E S w) cs vs)/\ah P f (bs++args++cs) r
theorem FnV.clo{P:Program}{f:FuncId}{bs cs:List CA}{args:List AV}{r:AV}(h:ah P f (bs.map agJ++args++cs.map agJ) r):FnV P (.sat (fD f bs cs)) args r:=by
 rintro S w v ⟨us,vs,h1,h2,h3⟩;exact⟨f,us,vs,bs.map agJ,cs.map agJ,h1,fun E=>abm h2,fun E=>abm h3,h⟩
def cloA(f:FuncId)(m:List CA):Rep where
 has S w v:=∃us:List Value,v= .func (.func f) #[.agg us.toArray] #[]/\aK (CA.has S w) m us
 one h:=by obtain⟨us,rfl,_⟩:=h;rfl
 step h ho hs:=by
  obtain⟨us,h1,h2⟩:=h;exact⟨us,h1,h2.mono fun a b _ h=>h.step ho hs⟩
theorem abx{E:Env}{S:Nat->Prop}{w:World}:∀{m:List CA} {us:List Value},aK (CA.has S w) m us->aK (Atom.has E S w) (m.map Atom.c) us
 |[],[],_=>trivial
 |_::_,_::_,h=>⟨h.1,abx h.2⟩
 |[],_::_,h=>h.elim
 |_::_,[],h=>h.elim
theorem FnV.bound{P:Program}{f:FuncId}{m:List CA}{args:List AV}{r:AV}(h:ah P f (.agg (m.map Atom.c)::args) r):FnV P (.sat (cloA f m)) args r:=by
 rintro S w v ⟨us,h1,h2⟩;exact⟨f,[.agg us.toArray],[],[.agg (m.map Atom.c)],[],h1,fun E=>⟨⟨us,rfl,abx h2⟩,trivial⟩,fun E=>trivial,by simpa using h⟩
theorem ab3{E:Env}{S:Nat->Prop}{w:World}:∀{l:List CA} {vs:List Value},aK (AV.has E S w) (l.map agJ) vs->aK (CA.has S w) l vs
 |[],[],_=>trivial
 |_::_,_::_,h=>⟨h.1,ab3 h.2⟩
 |[],_::_,h=>h.elim
 |_::_,[],h=>h.elim
section
variable{P:Program}{C:Ctx}{st:St}
variable{ops rest:List Oper}{acc:List (List Nat×List Nat)}{K:List (List Nat×List Nat)->St->Prop}{dst:Option Tmp}{d:Tmp}{op:Op}{ty t t':TypeId}{x y z:Operand}
def abX:List AV->Option (List CA)
 |[]=>some []
 | .it (.one (.c c))::l=>match abX l with|some m=>some (c::m)|none=>none
 |_::_=>none
theorem uT:∀{l:List AV} {m:List CA},abX l=some m->l=m.map agJ
 |[],m,h=>by simp[abX]at h;subst h;rfl
 |v::l,m,h=>by
  unfold abX at h
  split at h
  ·rename_i heq;cases heq
  ·rename_i c l' heq;cases heq
   split at h
   ·rename_i m' hm;cases h;rw[zy6,uT hm];rfl
   ·cases h
  ·cases h
theorem G.mkfn{f:FuncId}{bnd caps:Array Operand}{l l':List AV}{bs cs:List CA}(next:Reg P C ops rest (st.app dst ⟨.r (fD f bs cs),[]⟩) (([],[])::acc) K)(hd:aC dst C.nt=true:=by rfl)(ha:evs st bnd.toList=some l:=by rfl)(hc:abX l=some bs:=by rfl)(ha':evs st caps.toList=some l':=by rfl)(hc':abX l'=some cs:=by rfl):Go1 P C ops dst (.makeFunc (.func f) bnd caps) ty rest st acc K:=
 Go1.dM [] [] zp hd zp (fun o ho _ st' E S a w hev hs _=>by
  have hop:o.op.operands=bnd++caps:=by rw[ho];simp[Op.operands]
  have h1:evs st' bnd.toList=some l:=by rw[iO (fun x hx=>hev x (by rw[hop];simp at hx ⊢;exact .inl hx))];exact ha
  have h2:evs st' caps.toList=some l':=by rw[iO (fun x hx=>hev x (by rw[hop];simp at hx ⊢;exact .inr hx))];exact ha'
  obtain⟨g1,_⟩:=lM hs h1;obtain⟨g2,_⟩:=lM hs h2;rw[uT hc]at g1;rw[uT hc']at g2;refine⟨fun i hi=>(by cases hi),_,by unfold execOp;rw[ho];simp[Instr.makeFunc];rfl,bnd.toList.map a.eval,caps.toList.map a.eval,?_,ab3 g1,ab3 g2⟩
  congr 1 <;> (apply Array.ext';simp)) next
theorem G.asN{f:FuncId}{x:Operand}{l:List Atom}{m:List CA}(next:Reg P C ops rest (st.app dst ⟨.r (cloA f m),[]⟩) (([],[])::acc) K)(hd:aC dst C.nt=true:=by rfl)(ha:st.ev x=some (.agg l):=by rfl)(hc:aY l=some m:=by rfl):Go1 P C ops dst (.makeFunc (.func f) #[x] #[]) ty rest st acc K:=
 Go1.dM [] [] zp hd zp (fun o ho _ st' E S a w hev hs _=>by
  obtain⟨⟨us,hv,hall⟩,_⟩:=hs.ev ((hev x (by simp[ho,Op.operands])).trans ha)
  rw[eu hc]at hall;refine⟨fun i hi=>(by cases hi),.func (.func f) #[.agg us.toArray] #[],?_,us,rfl,iH hall⟩
  unfold execOp;rw[ho];simp[Instr.makeFunc,hv]) next
theorem agA{o:Oper}{f:FuncId}{as:Array Operand}{tys:Array TypeId}{us vs:Array Value}{fx:Operand}{ρ:Operand->Value}(ho:o.op= .call ⟨.value fx,as,tys⟩)(hf:ρ fx= .func (.func f) us vs)
  (he:∃fn,P.funcs[f]? =some fn/\(fn.name== "runtime.NumGoroutine")=false/\fn.body.isNone=false) (w:World):(execOp ρ o).run P w= .ok (.enter f (us++as.map ρ++vs)) w:=by
 obtain⟨fn,h1,h2,h3⟩:=he;unfold execOp;rw[ho];have h2':fn.name≠ "runtime.NumGoroutine" :=by simpa using h2
 have h3':fn.body≠none:=by intro e;rw[e]at h3;cases h3
 simp[resolve,hf,Deferred.ofValue,invoke,callFunc,h1,h2',h3']
theorem G.ate{fx:Operand}{c:CA}{as:Array Operand}{tys:Array TypeId}{args:List AV}{r:AV}(next:Reg P C ops rest (st.app dst ⟨r,[]⟩) (([],[])::acc) K)(hd:aC dst C.nt=true:=by rfl)(hf:st.ev fx=some (.it (.one (.c c))):=by rfl)(ha:evs st as.toList=some args:=by rfl)
  (hc:FnV P c args r:=by assumption) (hr:r.ids=[]:=by rfl):Go1 P C ops dst (.call ⟨.value fx,as,tys⟩) ty rest st acc K:=by
 refine⟨[],⟨r,[]⟩,fun o h2 h3 h4=>aT.eff [] [] (fun b hb=>?_) (h2▸dR hd) (fun b e hb=>by cases hb) (fun b e hb=>by cases hb) (fun b s hb=>by cases hb) (fun b s hb=>by cases hb) (fun st' E S a w hev hhp hs _ _=>?_),next⟩
 ·rcases hb with⟨e,hb⟩|⟨e,hb⟩|⟨s,hb⟩ <;> cases hb
 ·have hop:o.op.operands= #[fx]++as:=by rw[h3];rfl
  have ha':evs st' as.toList=some args:=by rw[iO (fun x hx=>hev x (by rw[hop];simp at hx;simp[hx]))];exact ha
  obtain⟨hall,hids⟩:=lM hs ha';have hcl:=(hs.ev ((hev fx (by rw[hop];simp)).trans hf)).1
  obtain⟨f,us,vs,bs,cs,hv,g1,g2,hent,hcall⟩:=hc S w _ hcl;refine⟨⟨fun i hi=>(by rw[hr]at hi;cases hi),fun b e hb=>by cases hb⟩,fun K Q hK=>?_⟩
  have hcalls:=hcall E S w (us++as.toList.map a.eval++vs) hs.lt hs.gl (((g1 E).append hall).append (g2 E)) (fun b e hb=>by cases hb) (fun b e k hb=>by cases hb) (fun b b' e e' k _ hb=>by cases hb)
  unfold Oper.wp;rw[agA h3 hv hent w];have harr:us.toArray++as.map a.eval++vs.toArray=(us++as.toList.map a.eval++vs).toArray:=by
   apply Array.ext';simp
  show Calls P f _ w _;rw[harr];exact hcalls.mono fun e w' ⟨v,E',S',he,hE⟩=>by subst he;exact hK v w' E' S' hE
end
theorem FnV.const{P:Program}{f:FuncId}{args:List AV}{r:AV}(h:ah P f args r):FnV P (.sat (fD f [] [])) args r:=FnV.clo (by simpa using h)
end
