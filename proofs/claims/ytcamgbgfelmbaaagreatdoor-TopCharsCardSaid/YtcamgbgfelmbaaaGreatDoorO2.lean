import Derived.Test.YtcamgbgfelmbaaaGreatDoorO1
import Derived.Laws.BytesString
import Derived.Lib.Builder
import Derived.Lib.AppendStr
import Derived.Lib.UnsafeStr
set_option linter.all false
namespace SX
open Go Go.RowKit
variable{r:SX.AV}{v1 v2 v3:SX.AV0}{C:SX.Ctx}{E:SX.Env}{f:Go.FuncId}{ao:List SX.AV}{A B D cells0:List SX.Atom}{ag bs cs m m1 m2:List SX.CA}{js:List Nat}{l:List UInt8}{vs zs:List Go.Value}{bytes g i j k n nt off size:Nat}{S:Nat->Prop}{fx:Go.Operand}{P:Go.Program}{st:SX.St}{T e t tI tO:Go.TypeId}{z0:Go.Value}{w:Go.World}
section
section
variable{P:Program}
def qE(P:Program)(f:FuncId)(ao:List AV)(t:TypeId)(size n:Nat)(ag:List CA):Prop:=ak P f ao [] ⟨.own 100,[(100,.ent (.row t size n ag))]⟩
def qE.at{f:FuncId}{ao:List AV}{t:TypeId}{size n:Nat}{ag:List CA}(h:qE P f ao t size n ag)(d:Nat):ak P f ao [] ⟨.own d,[(d,.ent (.row t size n ag))]⟩:=by
 refine⟨h.1,fun E S w vs hl hg hv h1 h2 h3=>(h.2 E S w vs hl hg hv (fun b e hb=>by cases hb) (fun b e k hb=>by cases hb) (fun b b' e e' k _ hb=>by cases hb)).mono ?_⟩
 rintro e w' ⟨v,E',S',rfl,hE⟩;have hres:v=E'.sl 100/\v.oneCell'=true:=hE.res;obtain⟨us,hown,hall⟩:=hE.ents 100 (.row t size n ag) zp
 refine⟨v,⟨E.blk,upd E.sl d (E'.sl 100),E.fp⟩,S',rfl,{env:=fun b hb=>?_,fpe:=fun _ _=>rfl,sub:=hE.sub,new:=hE.new,lt:=hE.lt,off:=hE.off,res:=?_,ents:=fun b e hb=>?_,blk:=fun b e k hb hk=>?_,sep:=fun b b' e e' k hne hb hb'=>?_}⟩
 ·by_cases hbd:b=d
  ·subst hbd;obtain⟨e,he⟩:=hb ⟨_,by simp;rfl⟩
   cases he
  ·exact⟨rfl,upd_ne _ _ hbd⟩
 ·show v=upd E.sl d (E'.sl 100) d/\_;rw[upd_same];exact hres
 ·simp at hb;obtain⟨rfl,rfl⟩:=hb
  refine⟨us,?_,hall⟩;show w'.ownsRow 0 t size (upd E.sl b (E'.sl 100) b) n us;rw[upd_same];exact hown
 ·simp at hb;obtain⟨rfl,rfl⟩:=hb
  have hk':(upd E.sl b (E'.sl 100) b).ownBlock=some k:=hk;rw[upd_same]at hk';exact hE.blk 100 (.row t size n ag) k zp hk'
 ·simp at hb hb';exact absurd (hb.1.trans hb'.1.symm) hne
def qE.pure(h:qE P f ao t size n ag):ah P f ao (.r (aP size n ag)):=by
 refine⟨h.1,fun E S w vs hl hg hv h1 h2 h3=>(h.2 E S w vs hl hg hv (fun b e hb=>by cases hb) (fun b e k hb=>by cases hb) (fun b b' e e' k _ hb=>by cases hb)).mono ?_⟩
 rintro e w' ⟨v,E',S',rfl,hE⟩;have hres:v=E'.sl 100/\v.oneCell'=true:=hE.res;obtain⟨us,hown,hall⟩:=hE.ents 100 (.row t size n ag) zp
 have hnew:∀k,(E'.sl 100).ownBlock=some k->w.heap.size<=k:=fun k hk=>by
  rcases(hE.blk 100 (.row t size n ag) k zp hk).2 with⟨b,e,hb,_⟩|h
  ·cases hb
  ·exact h
 have hlen:ag.length=n*size:=by rw[hall.length,hown.1]
 refine⟨v,E,fun k=>S' k/\(E'.sl 100).ownBlock≠some k,rfl,{env:=fun b hb=>⟨rfl,rfl⟩,fpe:=fun _ _=>rfl,sub:=fun k hk=>⟨hE.sub k hk,fun h=>?_⟩,new:=fun k hk=>hE.new k hk.1,lt:=fun k hk=>hE.lt k hk.1,off:=hE.off,res:=?_,ents:=fun b e hb=>(by cases hb),blk:=fun b e k hb=>(by cases hb),sep:=fun b b' e e' k _ hb=>(by cases hb)}⟩
 ·have:=hnew k h;have:=hl k hk;omega
 ·show (aP size n ag).has _ w' v;rw[hres.1];rcases hown.2 with⟨hv,h0⟩|⟨g,am,cur,hv,_,hg,hn,hm,hcs,htk⟩
  ·refine bQ.2 ⟨none,0,by rw[hv,h0],zE,zq8 _,fun _=>rfl,hlen,fun i c hc=>?_⟩
   have:ag.length=0:=by rw[hlen,h0,zw3]
   rw[zx5 this]at hc;simp at hc
  ·refine bQ.2 ⟨some ⟨g,0,none⟩,am,hv,hn,hm,(fun h=>by cases h),hlen,fun i c hc=>?_⟩
   obtain⟨u,hu,huc⟩:=hall.get hc;have hown':=hown;rw[hv]at hown';have hcell:=hown'.cells (g:=g) rfl i u hu;refine⟨g,0,u,rfl,fun h=>h.2 (by rw[hv];rfl),by simpa[Addr.add_lit]using hcell,huc.step (Off.refl S' w') (fun k hk=> .inl hk.1)⟩
class ConO(P:Program)(f:FuncId)(ao:List AV)(pre:outParam Prop)(t:outParam TypeId)(size n:outParam Nat)(ag:outParam (List CA)):Prop where
 h:pre->qE P f ao t size n ag
open Classical in
def qE.fnF{fn:Func}{c:Code}{rs:List ResultVar}(hf:P.funcs[f]? =some fn)(hres:fn.results=rs.toArray)(hnt:fn.ntmps=nt)(hb:fn.body=some c)(hn:(fn.name== "runtime.NumGoroutine")=false)(hna:Nat.ble ao.length nt=true)(haid:∀v∈ao,v.ids=[])(h:∀(w0:World) (T B:Nat->Prop) (E0:Env),(∀k,¬B k)->WP P ⟨w0,T,B,nt,E0,fun _=>false⟩ c ⟨fun t=>ao[t]?,fun _=> .free⟩ (SX.aZ ⟨w0,T,B,nt,E0,fun _=>false⟩ P rs ⟨.own 100,[(100,.ent (.row t size n ag))]⟩)):qE P f ao t size n ag:=
 ak.fn hf hres hnt hb hn hna (fun b e hb=>by cases hb) (fun v hv i hi=>by rw[haid v hv]at hi;cases hi) (fun b e hb=>by cases hb) (fun b e hb=>by cases hb)
  (fun i hi=>by
   right
   rcases hi with hi|⟨b,e,hb,hi⟩
   ·have:i=100:=by simpa[AV.ids,AV0.ids,Atom.ids]using hi
    subst this;exact⟨_,by simp;rfl⟩
   ·simp at hb;obtain⟨rfl,rfl⟩:=hb;cases hi) (fun w0 T B E0 hB=>WP.aZ (h w0 T B E0 fun k hk=>let⟨_,_,hb,_⟩:=hB k hk;by cases hb))
end
section
variable{P:Program}{C:Ctx}{st:St}
variable{ae aa:List Oper}{ab:List (List Nat×List Nat)}{K:List (List Nat×List Nat)->St->Prop}{an:Option Tmp}{d:Tmp}{op:Op}{ty t t':TypeId}{x y z:Operand}{k k':IntKind}{i j:Nat}{za zb zi zj:Int}
def G.ab4{as:Array Operand}{tys:Array TypeId}(ai:Reg P C ae aa (st.app (some d) ⟨.own d,[(d,.ent (.row e size n ag))]⟩) (([d],[d])::ab) K)(ha:evs st as.toList=some ao:=by rfl)(hc:qE P f ao e size n ag:=by first|(with_reducible assumption)|assumption|exact SX.ConO.use (by first|trivial|omega|assumption|(refine⟨?_,?_⟩ <;> first|omega|assumption)|(refine⟨?_,?_,?_⟩ <;> first|omega|assumption)))(hd:aC (some d) C.nt=true:=by rfl)(hf:st.hp d= .free:=by rfl):Go1 P C ae (some d) (.call ⟨.value (.func f),as,tys⟩) ty aa st ab K:=
 Go1.wG (am:=[]) (pre:=[]) (out:=⟨.own d,[(d,.ent (.row e size n ag))]⟩) (fp:=[d]) hd rfl ha (by simpa using hc.at d) (fun b e hb=>by cases hb) (fun b s hb=>by simp at hb;rw[hb.1];exact .inr hf) (fun b s hb=>by simp at hb;rw[hb.2];rfl) (fun b s hb=>by simp at hb;simp[hb.1])
  (fun i hi=>by
   left
   rcases hi with hi|⟨b,e,hb,hi⟩
   ·have:i=d:=by simpa[AV.ids,AV0.ids,Atom.ids]using hi
    subst this;exact⟨_,by simp;rfl⟩
   ·simp at hb;obtain⟨rfl,rfl⟩:=hb;cases hi) ai
def G.amd{z:Value}[ht:bF P t e 1][he:eZ P e [z] bytes](ai:Reg P C ae aa (st.app (some d) ⟨.own d,[(d,.ent (.row e 1 n (List.replicate n (.val z))))]⟩) (([d],[d])::ab) K)(hd:aC (some d) C.nt=true:=by rfl)(hx:st.ev x=some (.v (.int k zi)):=by rfl)(hx0:zi=(n:Int):=by first|with_reducible rfl|exact SX.jI _|rfl)(hy:st.ev y=some (.v (.int k' zj)):=by rfl)(hy0:zj=(n:Int):=by first|with_reducible rfl|exact SX.jI _|rfl)(hf:st.hp d= .free:=by rfl)(hb:n*bytes<=140737488355328:=by omega)(hm:n<=9223372036854775807:=by omega):Go1 P C ae (some d) (.makeSlice t x y) ty aa st ab K:=
 Go1.make hd (evz hx hx0) (evz hy hy0) hf hb hm ai
def G.agQ{b:Nat}{c:CA}[ht:iT P t](ai:Reg P C ae aa (st.app none ⟨.v undef,[(b,.ent (.row e size n (spl ag off [c])))]⟩) (([b],[b])::ab) K)(hx:st.ev x=some (.it (.one (.rptr b off))):=by rfl)(hy:st.ev y=some (.it (.one (.c c))):=by rfl)(hb:st.hp b= .ent (.row e size n ag):=by rfl)(hl:off+1<=n*size:=by omega)(h1:[Atom.c c].all Atom.dN=true:=by rfl):Go1 P C ae none (.store t x y) ty aa st ab K:=
 Go1.aaz (m:=1) ht.s hx hy hb rfl hl h1 rfl rfl ai
def G.aoF{m:List UInt8}(ai:Reg P C ae aa (st.app an ⟨.v (str (l++m)),[]⟩) (([],[])::ab) K)(hd:aC an C.nt=true:=by rfl)(hx:st.ev x=some (.v (str l)):=by rfl)(hy:st.ev y=some (.v (str m)):=by rfl)(hb:l.length+m.length<=9223372036854775807:=by(try simp only[zx6,List.length_nil,zqi]);omega):Go1 P C ae an (.binOp .add t x y t') ty aa st ab K:=
 Go1.tF hd rfl hx hy (fun ρ o w ho h1 h2=>by
  unfold execOp;rw[ho];have hap:(⟨⟨l⟩⟩:ByteArray)++⟨⟨m⟩⟩=⟨⟨l++m⟩⟩:=by
   apply ByteArray.ext;simp
  have hl2:(((⟨⟨l⟩⟩:ByteArray).size:Nat):Int)+(((⟨⟨m⟩⟩:ByteArray).size:Nat):Int)<=9223372036854775807:=by
   show ((l.length:Nat):Int)+((m.length:Nat):Int)<=9223372036854775807;omega
  simp[h1,h2,eqGuard,binOp,Op.stringOp,hap]
  exact hl2) ai
structure zZ(d:Nat):Prop where
def G.afU{v:AV0}[ht:bF P t e size][he:eZ P e zs bytes](ai:Reg P C ae aa (st.app (some d) ⟨.own d,[(d,.ent (.row e size 1 m))]⟩) (([d],[d])::ab) K)(hown:zZ d:=by assumption)(hd:aC (some d) C.nt=true:=by rfl)(hf:st.hp d= .free:=by rfl)(hx:st.ev x=some (.it v):=by rfl)(hc:aV v.cells=some m:=by rfl)(hm:(Nat.beq m.length size&&Nat.ble size 1000&&v.cells.all Atom.dN)=true:=by rfl):Go1 P C ae (some d) (.buildSlice t 1 #[(0,x)]) ty aa st ab K:=by
 simp only[zx4]at hm;obtain⟨⟨h1,h2⟩,h3⟩:=hm;have hl:m.length=size:=Nat.eq_of_beq_eq_true h1;have h2':size<=1000:=by simpa[zva]using h2
 have hvl:v.cells.length=size:=by rw[<-uF hc];exact hl
 refine Go1.buildSlice (ps:=[(0,v)]) (l:=v.cells) (m:=m) hd hf (by simp only[evp,hx]) ?_ ?_ ?_ hc ?_ ai
 ·simp only[List.all_cons,List.all_nil,Bool.and_true,h3,Bool.true_and];rfl
 ·rw[Nat.one_mul,zva];omega
 ·have hpl:(placesOf 1 size)[0]? =some (0,size):=by simp[placesOf]
  have hz:((madeCells zs.toArray (1*size)).toList.map fun v=>Atom.c (.val v)).length=size:=by simp[size_madeCells]
  have e1:Nat.beq v.cells.length size=true:=by rw[hvl];exact Nat.beq_refl _
  simp only[gq,hpl];rw[hz,e1,zv7,show Nat.ble size size=true by rw[zva];exact zq6 _]
  simp only[Bool.and_self];rw[iX _ _ _ (by rw[hz,hvl];omega),hvl,List.take_zero,zvd,zv7,List.drop_of_length_le (by rw[hz];exact zq6 _),zqb]
 ·rw[hl,Nat.one_mul];exact Nat.beq_refl _
def aeY{α:Type}{enc:α->List CA}[dY enc 1]{l:List α}{i:Nat}{a:α}{c:CA}(he:enc a=[c])(ha:l[i]? =some a):(l.flatMap enc)[i*1]? =some c:=by
 have hf:=abG (enc:=enc) ha;rw[he]at hf;have:=congrArg (·[0]?) hf;simpa[zy9,zv1]using this
def G.agp{α:Type}{enc:α->List CA}{l:List α}{a:α}{b:Nat}{c:CA}[ht:iT P t][hz:dY enc 1](ai:Reg P C ae aa (st.app an ⟨.it (.one (.c c)),[]⟩) (([b],[])::ab) K)(hd:aC an C.nt=true:=by rfl)(hx:st.ev x=some (.it (.one (.rptr b (i*1)))):=by rfl)(hb:st.hp b= .ent (.row e size n (l.flatMap enc)):=by rfl)(ha:l[i]? =some a:=by assumption)(he:enc a=[c]:=by rfl):Go1 P C ae an (.load t x) ty aa st ab K:=
 Go1.ac2 hd hx hb (aeY he ha) ai
instance:atl .u8 255:=⟨fun m h=>by show IntKind.wrap .u8 (m:Int)=m;rw[IntKind.wrap_u8];omega⟩
def G.amP{a b:Nat}[h1:abd P t k][h2:abd P t' k'][hw:atl k' b](ai:Reg P C ae aa (st.app an ⟨.v (.int k' ((a:Nat):Int)),[]⟩) (([],[])::ab) K)(hd:aC an C.nt=true:=by rfl)(hx:st.ev x=some (.v (.int k za)):=by rfl)(hx0:za=(a:Int):=by first|with_reducible rfl|exact SX.jI _|rfl)(hb:a<=b:=by first|omega|assumption):Go1 P C ae an (.convert t t' x) ty aa st ab K:=
 Go1.conv hd (evz hx hx0) (hw.h a hb) ai
def kY(b:UInt8):List CA:=[.val (.int .u8 (b.toNat:Int))]
instance:dY kY 1:=⟨fun _=>rfl⟩
instance:ak7 kY:=⟨fun _=>rfl⟩
def pushes:∀(l:List UInt8) (s:ByteArray),((l.map fun b=>(b.toNat:Int)).foldl (fun r n=>r.push (UInt8.ofNat n.toNat)) s).data.toList=s.data.toList++l
 |[],s=>by simp
 |b::l,s=>by
  rw[zy6,List.foldl_cons,pushes l];simp
def G.afH{r:Rep}[h1:bF P t e 1][h2:abd P e .u8][h3:acN P t'](ai:Reg P C ae aa (st.app an ⟨.v (str l),[]⟩) (([],[])::ab) K)(hd:aC an C.nt=true:=by rfl)(hx:st.ev x=some (.r r):=by rfl)(hr:afy r 1 kY l:=by infer_instance):Go1 P C ae an (.convert t t' x) ty aa st ab K:=
 Go1.dz [] [] zp hd zp (fun o ho _ st' E S a w hev hs _=>by
  obtain⟨h4,_⟩:=hs.ev ((hev x (by simp[ho,Op.operands])).trans hx)
  obtain⟨oa,am,hv,hn,hc,h0,hlen,hcell⟩:=bQ.1 (hr.h _ _ _ h4);refine⟨fun i hi=>(by cases hi),.string ⟨⟨l⟩⟩,?_,rfl⟩
  unfold execOp;rw[ho];have hcv:(convert t t' (a.eval x)).run P w=(Conv.bytesToString (a.eval x)).run P w:=by
   rw[hv];simp[convert,run_underlying h1.h,run_underlying h2.h,run_underlying h3.h]
  have hrun:(Conv.bytesToString (a.eval x)).run P w= .ok (.string ⟨⟨l⟩⟩) w:=by
   rw[hv];cases oa with
   |none=>
    have h00:=h0 rfl;have:l=[]:=zx5 (by have:=hn;omega)
    subst this;rfl
   |some ad=>
    rw[run_bytesToString w ad l.length am (l.map fun b=>(b.toNat:Int))]
    ·congr 2
     exact ByteArray.ext (Array.ext' (by rw[pushes];rfl))
    ·have hl1:((l.map fun b=>(b.toNat:Int)).map (Value.int .u8)).length=l.length:=by simp
     have:=run_loadCells_list (P:=P) (w:=w) ad ((l.map fun b=>(b.toNat:Int)).map (Value.int .u8)) (fun j v hj=>by
      rw[zv4,zqa]at hj
      obtain⟨b,hb,rfl⟩:=zya.1 hj;have hf:=aeY (enc:=kY) (c:= .val (.int .u8 (b.toNat:Int))) rfl hb;rw[Nat.mul_one]at hf;obtain⟨bk,off,u,e1,_,e2,e3⟩:=hcell j _ hf;cases e1;rw[Addr.add_lit,e2,show u=_ from e3];rfl)
     rwa [hl1]at this
  simp[hcv,hrun]) ai
def retO{t:Tmp}(hle:St.le C st (gL [(t,.own 100)] [(100,.row e size n ag)]):=by exact SX.W.le):aJ C P [.tmp t] ⟨.own 100,[(100,.ent (.row e size n ag))]⟩ st:=
 ⟨_,hle,[.one (.own 100)],⟨aj.tmp (by simp[gL,lk]),trivial⟩,rfl,fun b e hb=>by simp at hb;obtain⟨rfl,rfl⟩:=hb;simp[gL,lk]⟩
end
end
section
section
variable{P:Program}{C:Ctx}{st:St}
variable{ae aa:List Oper}{ab:List (List Nat×List Nat)}{K:List (List Nat×List Nat)->St->Prop}{an:Option Tmp}{ty:TypeId}
def acS{E:Env}{S:Nat->Prop}{w:World}:∀{vs ao:List Value},aM (AV.has E S w) (ao.map AV.v) vs->vs=ao
 |[],[],_=>rfl
 |v::vs,a::ao,h=>by rw[acS h.2,show v=a from h.1]
 |[],_::_,h=>h.elim
 |_::_,[],h=>h.elim
def Go1.callE{as:Array Operand}{tys:Array TypeId}{ao:List Value}(ha:evs st as.toList=some (ao.map AV.v))(hc:∀w,(callFunc f ao.toArray).run P w= .ok (.value (.tuple vs.toArray)) w)(hd:aC an C.nt=true)(ai:Reg P C ae aa (st.app an ⟨.tup (vs.map fun v=> .one (.c (.val v))),[]⟩) (([],[])::ab) K):Go1 P C ae an (.call ⟨.value (.func f),as,tys⟩) ty aa st ab K:=
 Go1.dz [] [] zp hd zp (fun o ho _ st' E S a w hev hs _=>by
  have hop:o.op.operands= #[.func f]++as:=by rw[ho];rfl
  have ha':evs st' as.toList=some (ao.map AV.v):=by rw[jB (fun x hx=>hev x (by rw[hop];simp at hx;simp[hx]))];exact ha
  obtain⟨hall,_⟩:=nL hs ha';have hvs:=acS hall;have har:as.map a.eval=ao.toArray:=by apply Array.ext';simpa using hvs
  refine⟨fun i hi=>?_,_,?_,vs,rfl,?_⟩
  ·simp only[AV.ids,zx9,zqg]at hi;obtain⟨x,⟨v,_,rfl⟩,hx⟩:=hi;cases hx
  ·unfold execOp;rw[ho];have he:a.eval (.func f)= .func (.func f) #[] #[]:=rfl;have:=hc w;simp[resolve,he,Deferred.ofValue,invoke,har,this]
  ·clear ha hc ai hd
   induction vs with
   |nil=>trivial
   |cons v vs ih=>exact⟨rfl,ih⟩) ai
end
structure HeldR(q:Prop):Prop where
 out:q
def goR{p q:Prop}(h:q)(k:HeldR q->p:=by
  intro h
  repeat1' (first
   |(refine SX.Go1.is ?_;first
     |(refine SX.Go1.isLoad ?_;first|refine SX.G.aeQ ?_|refine SX.G.aev ?_|refine SX.G.zT ?_|refine SX.G.zM ?_|refine SX.G.ae1 ?_|refine SX.G.aaq ?_|refine SX.G.afi ?_|refine SX.G.aat ?_|refine SX.G.agp ?_|refine SX.G.ac2 ?_)
     |(refine SX.Go1.ani ?_;first|refine SX.G.lss ?_|refine SX.G.eql ?_|refine SX.G.neq ?_|refine SX.G.gtr ?_|refine SX.G.geq ?_|refine SX.G.leq ?_|refine SX.G.addN ?_|refine SX.G.alL ?_|refine SX.G.subN ?_|refine SX.G.amF ?_|refine SX.G.add ?_|refine SX.G.sub ?_|refine SX.G.mulN ?_|refine SX.G.alA ?_|refine SX.G.mul ?_|refine SX.G.quoN ?_|refine SX.G.an2 ?_|refine SX.G.quo ?_|refine SX.G.remN ?_|refine SX.G.am5 ?_|refine SX.G.rem ?_|refine SX.G.eqlT ?_|refine SX.G.neqT ?_|refine SX.G.apu ?_|refine SX.G.apl ?_|refine SX.G.shr ?_|refine SX.G.shl ?_|refine SX.G.and ?_|refine SX.G.aoF ?_)
     |(refine SX.Go1.isUn ?_;first|refine SX.G.not ?_|refine SX.G.neg ?_)
     |(refine SX.Go1.isField ?_;first|refine SX.G.fieldAddr ?_|refine SX.G.kX ?_)
     |(refine SX.Go1.abx ?_;first|refine SX.G.aa5 ?_|refine SX.G.aao ?_|refine SX.G.aa1 ?_|refine SX.G.build ?_)
     |(refine SX.Go1.ab2 ?_;first|refine SX.G.store ?_|refine SX.G.agQ ?_|refine SX.G.aaz ?_)
     |(refine SX.Go1.isIx ?_;first|refine SX.G.rH ?_|refine SX.G.rE ?_|refine SX.G.lU ?_|refine SX.G.kW ?_)
     |(refine SX.Go1.zh ?_;first|refine SX.G.afU ?_|refine SX.G.anE ?_)
     |(refine SX.Go1.dO ?_;first|refine SX.G.minN ?_|refine SX.G.maxN ?_|refine SX.G.aof ?_|refine SX.G.apq ?_|refine SX.G.lenT ?_|refine SX.G.auC ?_|refine SX.G.aoG ?_|refine SX.G.abF ?_|refine SX.G.appendNilW ?_|refine SX.G.ab4 ?_|refine SX.G.call ?_)
     |refine SX.G.move ?_|refine SX.G.assign ?_|refine SX.G.extract ?_|refine SX.G.box ?_|refine SX.G.alloc ?_|refine SX.G.pick ?_|refine SX.R.al2 ?_|refine SX.R.amW ?_|refine SX.G.pickB ?_|refine SX.G.pickV ?_|refine SX.G.amd ?_|refine SX.G.amP ?_|refine SX.G.conv ?_|refine SX.G.afH ?_|refine SX.G.zk ?_|refine SX.G.sliceLoW ?_|refine SX.G.uo ?_|refine SX.G.sliceLoR ?_|refine SX.G.sliceHiO ?_|refine SX.G.zB ?_|refine SX.G.xX ?_|refine SX.G.sliceLHT ?_|refine SX.G.agM ?_|refine SX.G.ug ?_|refine SX.G.uh ?_|refine SX.G.sliceLHS ?_|refine SX.G.acp ?_)
   |(refine SX.Reg.is ?_;first|refine SX.Reg.go ?_|refine SX.R.runT ?_|refine SX.R.runF ?_|refine SX.R.amU ?_|refine SX.R.alx ?_|refine SX.R.ae9 ?_)
)
  exact h.out):p:=k ⟨h⟩
end
section
def jw(l:List Nat)(i:Nat):Bool:=l.any (Nat.beq i)
def fD{l:List Nat}:jw l i=true↔i∈l:=by
 unfold jw;rw[List.any_eq_true];constructor
 ·rintro⟨x,hx,he⟩;have:i=x:=by simpa using he
  rw[this];exact hx
 ·intro h;exact⟨i,h,by simp⟩
def Slot.ids:Slot->List Nat
 | .ent e=>e.ids
 |_=>[]
def nodupB:List Nat->Bool
 |[]=>true
 |a::l=>!jw l a&&nodupB l
def axV(ao:List AV)(pre:List (Nat×Ent))(out:Out):Bool:=
 nodupB (pre.map (·.1))&&(pre.all fun p=>(Slot.ent p.2).amt)&&(ao.all fun v=>v.ids.all (jw (pre.map (·.1))))&&(pre.all fun p=>p.2.ids.all (jw (pre.map (·.1))))&&((pre.map (·.1)).all (jw (out.hp.map (·.1))))&&
  ((out.res.ids++out.hp.flatMap fun p=>p.2.ids).all fun i=>jw (pre.map (·.1)) i||jw (out.hp.map (·.1)) i)
def gF:∀(l:List (Nat×Ent)) (b:Nat),l.lookup b=lk l b
 |[],_=>rfl
 |(j,v)::l,b=>by
  rw[List.lookup_cons];unfold lk;by_cases h:b=j
  ·subst h;simp
  ·have h1:(b==j)=false:=by simpa using h
   have h2:Nat.beq j b=false:=by rw[Bool.eq_false_iff];simp;omega
   simp only[h1,h2];exact gF l b
def agR:∀{l:List (Nat×Ent)} {b:Nat} {e:Ent},nodupB (l.map (·.1))=true->(b,e)∈l->lk l b=some e
 |(j,v)::l,b,e,hn,h=>by
  rw[zy6,nodupB,zx4]at hn;unfold lk;rcases zy3.1 h with h|h
  ·cases h;simp
  ·have hne:Nat.beq j b=false:=by
    rw[Bool.eq_false_iff];intro he;have he':j=b:=by simpa using he
    subst he';have:jw (l.map (·.1)) j=true:=fD.2 (zqg.2 ⟨(j,e),h,rfl⟩);rw[this]at hn;cases hn.1
   simp only[hne];exact agR hn.2 h
def nX{l:List (Nat×Ent)}{b:Nat}(h:b∈l.map (·.1)):(lk l b).isSome=true:=by
 induction l with
 |nil=>cases h
 |cons p l ih=>
  obtain⟨j,v⟩:=p;unfold lk;cases hj:Nat.beq j b with
  |true=>rfl
  |false=>
   simp only;refine ih ?_;rw[zy6]at h;rcases zy3.1 h with h|h
   ·rw[h]at hj;simp at hj
   ·exact h
def ak.fnF{fn:Func}{c:Code}{pre:List (Nat×Ent)}{out:Out}{rs:List ResultVar}(hf:P.funcs[f]? =some fn)(hres:fn.results=rs.toArray)(hnt:fn.ntmps=nt)(hb:fn.body=some c)(hn:(fn.name== "runtime.NumGoroutine")=false)(hna:Nat.ble ao.length nt=true)(hp:axV ao pre out=true)(h:∀(w0:World) (T B:Nat->Prop) (E0:Env),(∀k,B k->k∈(pre.map (·.1)).map E0.blk)->WP P ⟨w0,T,B,nt,E0,fun b=>(lk pre b).isSome⟩ c ⟨fun t=>ao[t]?,fun b=>match lk pre b with|some e=> .ent e|none=> .free⟩ (aZ ⟨w0,T,B,nt,E0,fun b=>(lk pre b).isSome⟩ P rs out)):ak P f ao pre out:=by
 unfold axV at hp;simp only[zx4]at hp;obtain⟨⟨⟨⟨⟨p1,p2⟩,p3⟩,p4⟩,p5⟩,p6⟩:=hp;have e1:(fun b=>(pre.lookup b).isSome)=fun b=>(lk pre b).isSome:=funext fun b=>by rw[gF]
 have e2:jA ao pre=⟨fun t=>ao[t]?,fun b=>match lk pre b with|some e=> .ent e|none=> .free⟩:=by
  unfold jA
  congr 1
  funext b
  rw[gF];cases lk pre b <;> rfl
 have key:∀i,jw (pre.map (·.1)) i=true->(pre.lookup i).isSome=true:=fun i hi=>by rw[gF];exact nX (fD.1 hi)
 refine ak.fn hf hres hnt hb hn hna (fun b e hb=>by rw[gF];exact agR p1 hb) (fun v hv i hi=>key i (zqh.1 (zqh.1 p3 v hv) i hi)) (fun b e hb i hi=>key i (zqh.1 (zqh.1 p4 (b,e) hb) i hi)) (fun b e hb=>?_) (fun i hi=>?_) fun w0 T B E0 hB=>?_
 ·have:=fD.1 (zqh.1 p5 b (zqg.2 ⟨(b,e),hb,rfl⟩));obtain⟨⟨b',s⟩,hs,rfl⟩:=zqg.1 this;exact⟨s,hs⟩
 ·have hi':i∈out.res.ids++out.hp.flatMap fun p=>p.2.ids:=by
   rw[zyg];rcases hi with hi|⟨b,e,hb,hi⟩
   ·exact .inl hi
   ·exact .inr (zx9.2 ⟨(b,.ent e),hb,hi⟩)
  have:=zqh.1 p6 i hi';rw[Bool.or_eq_true]at this;rcases this with h|h
  ·exact .inl (key i h)
  ·obtain⟨⟨b',s⟩,hs,rfl⟩:=zqg.1 (fD.1 h);exact .inr ⟨s,hs⟩
 ·rw[e1,e2];refine WP.aZ (h w0 T B E0 fun k hk=>?_)
  obtain⟨b,e,hb,hk⟩:=hB k hk;have h2:=zqh.1 p2 (b,e) hb;cases e with
  |box t ag=>
   have hk':some (E0.blk b)=some k:=hk;exact zqg.2 ⟨b,zqg.2 ⟨_,hb,rfl⟩,zy7 hk'⟩
  |row _ _ _ _=>cases h2
  |abs _=>cases h2
def ak.fq{fn:Func}{c:Code}{pre:List (Nat×Ent)}{out:Out}{rs:List ResultVar}(hf:P.funcs[f]? =some fn)(h:∀(w0:World) (T B:Nat->Prop) (E0:Env),(∀k,B k->k∈(pre.map (·.1)).map E0.blk)->WP P ⟨w0,T,B,nt,E0,fun b=>(lk pre b).isSome⟩ c ⟨fun t=>ao[t]?,fun b=>match lk pre b with|some e=> .ent e|none=> .free⟩ (aZ ⟨w0,T,B,nt,E0,fun b=>(lk pre b).isSome⟩ P rs out))(hres:fn.results=rs.toArray:=by rfl)(hnt:fn.ntmps=nt:=by rfl)(hb:fn.body=some c:=by rfl)(hn:(fn.name== "runtime.NumGoroutine")=false:=by rfl)(hna:Nat.ble ao.length nt=true:=by rfl)(hp:axV ao pre out=true:=by rfl):ak P f ao pre out:=ak.fnF hf hres hnt hb hn hna hp h
section
variable{P:Program}{C:Ctx}{st:St}
variable{ae aa:List Oper}{ab:List (List Nat×List Nat)}{K:List (List Nat×List Nat)->St->Prop}{an:Option Tmp}{d:Tmp}{op:Op}{ty t t':TypeId}{x y z:Operand}
def ayk:List Nat:=[29,81,82,83,84]
def reach(st:St)(ao:List AV)(am:List Nat):List Nat:=
 let l:=am++ao.flatMap AV.ids
 l++l.flatMap fun b=>(st.hp b).ids
def keysOf(l:List Nat):List Nat:=ayk.filter fun k=>jw l k
def aeU(st:St):List Nat->Option (List (Nat×Ent))
 |[]=>some []
 |b::l=>match st.hp b,aeU st l with
  | .ent e,some m=>some ((b,e)::m)
  |_,_=>none
def aae{st:St}:∀{l:List Nat} {m:List (Nat×Ent)},aeU st l=some m->∀b e,(b,e)∈m->st.hp b= .ent e
 |[],m,h,b,e,hb=>by cases h;cases hb
 |a::l,m,h,b,e,hb=>by
  unfold aeU at h;cases h1:st.hp a with
  |ent e1=>
   cases h2:aeU st l with
   |none=>simp[h1,h2]at h
   |some m'=>
    simp only[h1,h2]at h;cases h;rcases zy3.1 hb with hb|hb
    ·cases hb;exact h1
    ·exact aae h2 b e hb
  |free=>simp[h1]at h
  |gone=>simp[h1]at h
def amf(ao:List AV)(pre:List (Nat×Ent))(out:Out):Bool:=
 ((pre.map (·.1)).all (jw (out.hp.map (·.1))))&&((out.hp.map (·.1)).all (jw (pre.map (·.1))))&&(out.hp.all fun p=>p.2.used)&&((out.res.ids++out.hp.flatMap fun p=>p.2.ids).all fun i=>jw (out.hp.map (·.1)) i)
def G.ayd{am:List (Nat×Nat)}{as:Array Operand}{tys:Array TypeId}{pre:List (Nat×Ent)}{out:Out}(ai:Reg P C ae aa (st.app an out) ((out.hp.map (·.1),out.hp.map (·.1))::ab) K)(hd:aC an C.nt=true:=by rfl)(hf:st.ev fx=some (.it (.one (.clo f am))):=by rfl)(ha:evs st as.toList=some ao:=by rfl)(hk:aeU st (keysOf (reach st ao (am.map (·.1))))=some pre:=by rfl)(hc:ak P f (ao++am.map fun p=> .ptr p.1 p.2) pre out:=by assumption)(ho:amf ao pre out=true:=by rfl):Go1 P C ae an (.call ⟨.value fx,as,tys⟩) ty aa st ab K:=by
 unfold amf at ho;simp only[zx4]at ho;obtain⟨⟨⟨o1,o2⟩,o3⟩,o4⟩:=ho;refine Go1.wG hd hf ha hc (fun b e hb=>⟨aae hk b e hb,?_⟩) (fun b s hb=> .inl ?_) (fun b s hb=>zqh.1 o3 (b,s) hb) (fun b s hb=>zqg.2 ⟨(b,s),hb,rfl⟩) (fun i hi=> .inl ?_) ai
 ·have:=fD.1 (zqh.1 o1 b (zqg.2 ⟨(b,e),hb,rfl⟩));obtain⟨⟨b',s⟩,hs,rfl⟩:=zqg.1 this;exact⟨s,hs⟩
 ·have:=fD.1 (zqh.1 o2 b (zqg.2 ⟨(b,s),hb,rfl⟩));obtain⟨⟨b',e⟩,hs,rfl⟩:=zqg.1 this;exact⟨e,hs⟩
 ·have hi':i∈out.res.ids++out.hp.flatMap fun p=>p.2.ids:=by
   rw[zyg];rcases hi with hi|⟨b,e,hb,hi⟩
   ·exact .inl hi
   ·exact .inr (zx9.2 ⟨(b,.ent e),hb,hi⟩)
  obtain⟨⟨b',s⟩,hs,rfl⟩:=zqg.1 (fD.1 (zqh.1 o4 i hi'));exact⟨s,hs⟩
def ajZ{o:Oper}{as:Array Operand}{tys:Array TypeId}{p:Value}{ρ:Operand->Value}(ho:o.op= .call ⟨.value fx,as,tys⟩)(hf:ρ fx= .func (.func f) #[p] #[])(he:∃fn,P.funcs[f]? =some fn/\(fn.name== "runtime.NumGoroutine")=false/\fn.body.isNone=false)(w:World):(execOp ρ o).run P w= .ok (.enter f (#[p]++as.map ρ)) w:=by
 obtain⟨fn,h1,h2,h3⟩:=he;unfold execOp;rw[ho];have h2':fn.name≠ "runtime.NumGoroutine" :=by simpa using h2
 have h3':fn.body≠none:=by intro e;rw[e]at h3;cases h3
 simp[resolve,hf,Deferred.ofValue,invoke,callFunc,h1,h2',h3']
def Go1.amw{p:Nat}{as:Array Operand}{tys:Array TypeId}{pre:List (Nat×Ent)}{out:Out}{fp:List Nat}(hd:aC an C.nt=true)(hf:st.ev fx=some (.it (.one (.bnd f p))))(ha:evs st as.toList=some ao)(hc:ak P f (.ptr p 0::ao) pre out)(hpre:∀b e,(b,e)∈pre->st.hp b= .ent e/\∃s,(b,s)∈out.hp)(hnew:∀b s,(b,s)∈out.hp->(∃e,(b,e)∈pre)\/st.hp b= .free)(hkeep:∀b s,(b,s)∈out.hp->s.used=true)(hfp:∀b s,(b,s)∈out.hp->b∈fp)(aq:∀i,(i∈out.res.ids\/∃b e,(b,Slot.ent e)∈out.hp/\i∈e.ids)->(∃s,(i,s)∈out.hp))(ai:Reg P C ae aa (st.app an out) ((fp,out.hp.map (·.1))::ab) K):Go1 P C ae an (.call ⟨.value fx,as,tys⟩) ty aa st ab K:=by
 refine⟨fp,out,fun o h2 h3 h4=>aT.eff [] pre (fun b hb=>?_) (h2▸dP hd) (fun b e hb=>by cases hb) hpre hnew hkeep (fun st' E S a w hev hhp hs _ hpre'=>?_),ai⟩
 ·rcases hb with⟨e,hb⟩|⟨e,hb⟩|⟨s,hb⟩
  ·cases hb
  ·obtain⟨_,s,hs⟩:=hpre b e hb;exact hfp b s hs
  ·exact hfp b s hb
 ·have hop:o.op.operands= #[fx]++as:=by rw[h3];rfl
  have ha':evs st' as.toList=some ao:=by rw[jB (fun x hx=>hev x (by rw[hop];simp at hx;simp[hx]))];exact ha
  obtain⟨hall,hids⟩:=nL hs ha';have hcl:=hs.ev ((hev fx (by rw[hop];simp)).trans hf)
  obtain⟨hent,hcall⟩:=hc;have key:∀i,(∃s,(i,s)∈out.hp)->(fH st'.hp out.hp i).used=true:=by
   intro i hi;rcases gY i out.hp st'.hp with⟨s,g1,g2⟩|⟨g1,g2⟩
   ·rw[g2];exact hkeep i s g1
   ·obtain⟨s,hi⟩:=hi;exact absurd hi (g1 s)
  refine⟨⟨fun i hi=>key i (aq i (.inl hi)),fun b e hb i hi=>key i (aq i (.inr ⟨b,e,hb,hi⟩))⟩,fun K Q hK=>?_⟩
  have hcalls:=hcall E S w (.pointer (some ⟨E.blk p,0,none⟩)::as.toList.map a.eval) hs.lt hs.gl ⟨rfl,hall⟩ (fun b e hb=>hs.hp b e (hpre' b e hb)) (fun b e k hb hk=>(hs.blk b e k (hpre' b e hb) hk).1)
   (fun b b' e e' k hne hb hb'=>hs.sep b b' e e' k hne (hpre' b e hb) (hpre' b' e' hb'))
  unfold Oper.wp;rw[ajZ h3 hcl.1 hent w];have harr: #[Value.pointer (some ⟨E.blk p,0,none⟩)]++as.map a.eval=(Value.pointer (some ⟨E.blk p,0,none⟩)::as.toList.map a.eval).toArray:=by
   apply Array.ext';simp
  show Calls P f _ w _;rw[harr];exact hcalls.mono fun e w' ⟨v,E',S',he,hE⟩=>by subst he;exact hK v w' E' S' hE
def G.amw{fx:Operand}{f:FuncId}{p:Nat}{as:Array Operand}{tys:Array TypeId}{ao:List AV}{pre:List (Nat×Ent)}{out:Out}
  (ai:Reg P C ae aa (st.app an out) ((out.hp.map (·.1),out.hp.map (·.1))::ab) K) (hd:aC an C.nt=true:=by rfl) (hf:st.ev fx=some (.it (.one (.bnd f p))):=by rfl) (ha:evs st as.toList=some ao:=by rfl)
  (hk:aeU st (keysOf (reach st ao [p]))=some pre:=by rfl) (hc:ak P f (.ptr p 0::ao) pre out:=by assumption) (ho:amf ao pre out=true:=by rfl):Go1 P C ae an (.call ⟨.value fx,as,tys⟩) ty aa st ab K:=by
 unfold amf at ho;simp only[zx4]at ho;obtain⟨⟨⟨o1,o2⟩,o3⟩,o4⟩:=ho;refine Go1.amw hd hf ha hc (fun b e hb=>⟨aae hk b e hb,?_⟩) (fun b s hb=> .inl ?_) (fun b s hb=>zqh.1 o3 (b,s) hb) (fun b s hb=>zqg.2 ⟨(b,s),hb,rfl⟩) (fun i hi=>?_) ai
 ·have:=fD.1 (zqh.1 o1 b (zqg.2 ⟨(b,e),hb,rfl⟩));obtain⟨⟨b',s⟩,hs,rfl⟩:=zqg.1 this;exact⟨s,hs⟩
 ·have:=fD.1 (zqh.1 o2 b (zqg.2 ⟨(b,s),hb,rfl⟩));obtain⟨⟨b',e⟩,hs,rfl⟩:=zqg.1 this;exact⟨e,hs⟩
 ·have hi':i∈out.res.ids++out.hp.flatMap fun p=>p.2.ids:=by
   rw[zyg];rcases hi with hi|⟨b,e,hb,hi⟩
   ·exact .inl hi
   ·exact .inr (zx9.2 ⟨(b,.ent e),hb,hi⟩)
  obtain⟨⟨b',s⟩,hs,rfl⟩:=zqg.1 (fD.1 (zqh.1 o4 i hi'));exact⟨s,hs⟩
def acK:List AV->Option (List (Nat×Nat))
 |[]=>some []
 | .it (.one (.ptr b off))::l=>match acK l with|some m=>some ((b,off)::m)|none=>none
 |_::_=>none
def aaP:∀{l:List AV} {m:List (Nat×Nat)},acK l=some m->l=m.map fun p=>AV.ptr p.1 p.2
 |[],m,h=>by simp[acK]at h;subst h;rfl
 |v::l,m,h=>by
  unfold acK at h
  split at h
  ·rename_i heq;cases heq
  ·rename_i b off l' heq;cases heq
   split at h
   ·rename_i m' hm;cases h;rw[zy6,aaP hm]
   ·cases h
  ·cases h
def aia{E:Env}{S:Nat->Prop}{w:World}:∀{m:List (Nat×Nat)} {vs:List Value},aM (AV.has E S w) (m.map fun p=>AV.ptr p.1 p.2) vs->vs=m.map fun p=>Value.pointer (some ⟨E.blk p.1,p.2,none⟩)
 |[],[],_=>rfl
 |p::m,v::vs,h=>by rw[zy6,<-aia h.2,show v=_ from h.1]
 |[],_::_,h=>h.elim
 |_::_,[],h=>h.elim
def G.axD{caps:Array Operand}{l:List AV}{am:List (Nat×Nat)}(ai:Reg P C ae aa (st.app an ⟨.it (.one (.clo f am)),[]⟩) (([],[])::ab) K)(hd:aC an C.nt=true:=by rfl)(ha:evs st caps.toList=some l:=by rfl)(hc:acK l=some am:=by rfl):Go1 P C ae an (.makeFunc (.func f) #[] caps) ty aa st ab K:=
 Go1.dz [] [] zp hd zp (fun o ho _ st' E S a w hev hs _=>by
  have hop:o.op.operands=caps:=by rw[ho];simp[Op.operands]
  have ha':evs st' caps.toList=some l:=by rw[jB (fun x hx=>hev x (by rw[hop];simpa using hx))];exact ha
  obtain⟨hall,hids⟩:=nL hs ha';have hl:=aaP hc;subst hl;have hv:=aia hall;have har:caps.map a.eval=(am.map fun p=>Value.pointer (some ⟨E.blk p.1,p.2,none⟩)).toArray:=by apply Array.ext';simpa using hv
  refine⟨fun i hi=>?_,_,by unfold execOp;rw[ho];simp[Instr.makeFunc];rfl,?_⟩
  ·obtain⟨p,hp,rfl⟩:=zqg.1 (show i∈am.map (·.1)from hi)
   exact hids (AV.ptr p.1 p.2) (zqg.2 ⟨p,hp,rfl⟩) p.1 zd
  ·show _=Value.func (.func f) #[] _;rw[har]) ai
def G.axL{b:Nat}(ai:Reg P C ae aa (st.app an ⟨.it (.one (.bnd f b)),[]⟩) (([],[])::ab) K)(hd:aC an C.nt=true:=by rfl)(hx:st.ev x=some (.ptr b 0):=by rfl):Go1 P C ae an (.makeFunc (.func f) #[x] #[]) ty aa st ab K:=
 Go1.dz [] [] zp hd zp (fun o ho _ st' E S a w hev hs _=>by
  have hx':=hs.ev ((hev x (by simp[ho,Op.operands])).trans hx)
  refine⟨fun i hi=>hx'.2 i hi,_,by unfold execOp;rw[ho];simp[Instr.makeFunc];rfl,?_⟩
  show _=Value.func (.func f) #[_] #[];rw[show a.eval x=_ from hx'.1]) ai
def G.afu{b:Nat}(ai:Reg P C ae aa (st.app an ⟨.ptr b off,[]⟩) (([],[])::ab) K)(hd:aC an C.nt=true:=by rfl)(hx:st.ev x=some (.ptr b off):=by rfl):Go1 P C ae an (.nilCheck x) ty aa st ab K:=
 Go1.dz [] [] zp hd zp (fun o ho _ st' E S a w hev hs _=>by
  have hx':=hs.ev ((hev x (by simp[ho,Op.operands])).trans hx)
  have hv:a.eval x= .pointer (some ⟨E.blk b,off,none⟩):=hx'.1;exact⟨fun i hi=>hx'.2 i hi,_,by unfold execOp;rw[ho];simp[hv],rfl⟩) ai
structure Named(d b:Nat):Prop where
def aT.adq{o:Oper}{b:Nat}{ag:List Atom}(hd:∀d,o.dst=some d->d < C.nt)(hf:st.hp b= .free)
  (h:∀st' E S a w,(∀x∈o.op.operands,st'.ev x=st.ev x)->nZ C st' E S a w->
   (∀i∈ag.flatMap Atom.ids,(st'.hp i).used=true)/\∃cs,(execOp a.eval o).run P w= .ok (.value (.pointer (some ⟨w.heap.size,0,none⟩))) (w.alloc (.cells cs t))/\aM (Atom.has E S w) ag cs.toList):
  aT P C o st [b] ⟨.ptr b 0,[(b,.ent (.box t ag))]⟩:=by
 refine aT.eff [] [] (fun b hb=>?_) hd (fun b e hb=>by cases hb) (fun b e hb=>by cases hb) (fun b s hb=>?_) (fun b s hb=>?_) (fun st' E S a w hev hhp hs _ _=>?_)
 ·rcases hb with⟨e,hb⟩|⟨e,hb⟩|⟨s,hb⟩
  ·cases hb
  ·cases hb
  ·simp at hb;simp[hb.1]
 ·simp at hb;rw[hb.1];exact .inr hf
 ·simp at hb;rw[hb.2];rfl
 ·obtain⟨aq,cs,hr,hall⟩:=h st' E S a w hev hs;have hfree:st'.hp b= .free:=(hhp b zp).trans hf
  refine⟨⟨fun i hi=>?_,fun b e hb i hi=>?_⟩,fun K Q hK=>?_⟩
  ·simp[AV.ids,AV0.ids,Atom.ids]at hi;subst hi;simp[fH,Slot.used]
  ·simp at hb
   obtain⟨rfl,rfl⟩:=hb;by_cases e:i=b
   ·subst e;simp[fH,Slot.used]
   ·simp only[fH];rw[upd_ne _ _ e];exact aq i hi
  ·have hE:=Eff.alloc (E:=E) (S:=S) (w:=w) (b:=b) (T:=t) (ag:=ag) (cs:=cs.toList) hs.lt (fun c hc1 hc2=>by
    have:=aq b (zx9.2 ⟨c,hc1,hc2⟩);rw[hfree]at this;cases this) hall
   unfold Oper.wp;rw[hr];exact hK _ _ _ _ hE
def G.boxN{v:AV0}{b:Nat}(ai:Reg P C ae aa (st.app (some d) ⟨.ptr b 0,[(b,.ent (.box t v.cells))]⟩) (([b],[b])::ab) K)(hm:Named d b:=by assumption)(hd:aC (some d) C.nt=true:=by rfl)(hx:st.ev x=some (.it v):=by rfl)(hf:st.hp b= .free:=by rfl)(h1:v.cells.all Atom.dN=true:=by rfl):Go1 P C ae (some d) (.box t x) ty aa st ab K:=
 ⟨[b],⟨.ptr b 0,[(b,.ent (.box t v.cells))]⟩,fun o h2 h3 h4=>aT.adq (h2▸dP hd) hf (fun st' E S a w hev hs=>by
  obtain⟨hv,hids⟩:=hs.ev ((hev x (by simp[h3,Op.operands])).trans hx)
  obtain⟨us,hc,hall,hone⟩:=AV0.has.cells hv h1;refine⟨fun i hi=>hids i (by rw[AV0.vC]at hi;exact hi),us.toArray,?_,by simpa using hall⟩
  unfold execOp;rw[h3];simp[Instr.box,newVar,newRow,hc]),ai⟩
def G.adq{ag:List Value}{b:Nat}[hz:fQ P t ag](ai:Reg P C ae aa (st.app (some d) ⟨.ptr b 0,[(b,.ent (.box t (ag.map fun v=>Atom.c (.val v))))]⟩) (([b],[b])::ab) K)(hm:Named d b:=by assumption)(hd:aC (some d) C.nt=true:=by rfl)(hf:st.hp b= .free:=by rfl):Go1 P C ae (some d) (.alloc t) ty aa st ab K:=
 ⟨[b],⟨.ptr b 0,[(b,.ent (.box t (ag.map fun v=>Atom.c (.val v))))]⟩,fun o h2 h3 h4=>aT.adq (h2▸dP hd) hf (fun st' E S a w hev hs=>by
  obtain⟨z,hz1,hz2⟩:=mE hz.h w;refine⟨fun i hi=>?_,ag.toArray,?_,by simpa using lG ag⟩
  ·obtain⟨c,hc,hi⟩:=zx9.1 hi;obtain⟨v,_,rfl⟩:=zqg.1 hc;cases hi
  ·unfold execOp;rw[h3];simp[Instr.alloc,newVar,newRow,hz1,hz2]),ai⟩
def aJ.tC{rs:List ResultVar}{out:Out}(b:Nat){ps:List Nat}(h:aJ C P rs out (st.frz b size n ag))(hB:∀k,C.B k->k∈ps.map C.E0.blk:=by assumption)(hps:(ps.all fun p=>C.fix p&&(st.hp p).amt&&!Nat.beq p b)=true:=by rfl)(hb:st.hp b= .ent (.row t size n ag):=by rfl):aJ C P rs out st:=by
 obtain⟨s',hl,hr⟩:=h;exact⟨s',fun a w hs=>hl a w (St.amj hB hps hb a w hs),hr⟩
def adZ(st:St):List (Nat×Slot)->Prop
 |[]=>True
 |(b,s)::l=>st.hp b=s/\adZ st l
def adZ.spec{st:St}:∀{l:List (Nat×Slot)},adZ st l->∀b e,(b,Slot.ent e)∈l->st.hp b= .ent e
 |[],_,_,_,h=>by cases h
 |(b',s)::l,hh,b,e,h=>by
  rcases zy3.1 h with h|h
  ·cases h;exact hh.1
  ·exact hh.2.spec b e h
def gQ{rs:List ResultVar}{xs:List AV0}{l:List (Nat×Slot)}(h:aM (aj P st) rs xs)(hh:adZ st l):aJ C P rs ⟨aro xs,l⟩ st:= .ok ⟨xs,h,rfl,hh.spec⟩
end
section
variable{P:Program}{C:Ctx}{st:St}
variable{ae aa:List Oper}{ab:List (List Nat×List Nat)}{K:List (List Nat×List Nat)->St->Prop}{an:Option Tmp}{d:Tmp}{ty t:TypeId}{x y z:Operand}
def avU{X:List Atom}(h:X.length=B.length):spl (A++B++D) A.length X=A++X++D:=by
 have e1:(A++B++D).drop (A.length+X.length)=D:=List.drop_left' (by rw[zqi,h])
 have e2:(A++B++D).take A.length=A:=by rw[zqj];exact List.take_left' rfl
 rw[iX _ _ _ (by simp only[zqi];omega),e1,e2]
def oh{v:AV0}{ps:List (Nat×AV0)}(hi:i < n)(hA:A.length=i*size)(hB:B.length=size)(hv:v.cells.length=size):gq (placesOf n size) (A++B++D) ((i,v)::ps)=gq (placesOf n size) (A++v.cells++D) ps:=by
 have hpl:(placesOf n size)[i]? =some (i*size,size):=by simp[placesOf,hi]
 have e1:Nat.beq v.cells.length size=true:=by rw[hv];exact Nat.beq_refl _
 have e2:Nat.ble (i*size+size) (A++B++D).length=true:=by rw[zva];simp only[zqi];omega
 conv=>lhs;unfold gq
 simp only[hpl,e1,e2,Bool.and_self];rw[<-hA,avU zE]
def blocks(i:Nat)(hi:i < n):∃Z:List Atom,Z.length=size/\∃R:List Atom,R.length=(n - i - 1)*size/\(((madeCells zs.toArray (n*size)).toList.map fun v=>Atom.c (.val v)).drop (i*size))=Z++R:=by
 have hz:((madeCells zs.toArray (n*size)).toList.map fun v=>Atom.c (.val v)).length=n*size:=by simp[size_madeCells]
 generalize ((madeCells zs.toArray (n*size)).toList.map fun v=>Atom.c (.val v))=W at hz
 have h1:n*size=(n - i - 1)*size+(i*size+size):=by
  rw[<-zv8,<-zy5];congr 1;omega
 refine⟨(W.drop (i*size)).take size,?_,(W.drop (i*size)).drop size,?_,(zv5 _ _).symm⟩
 ·rw[zx3,zxe];omega
 ·rw[zxe,zxe];omega
def axG(h1:v1.cells.length=size)(h2:v2.cells.length=size):gq (placesOf 2 size) ((madeCells zs.toArray (2*size)).toList.map fun v=>Atom.c (.val v)) [(0,v1),(1,v2)]=some (v1.cells++v2.cells):=by
 obtain⟨Z,hZ,R,hR,e⟩:=blocks (n:=2) (size:=size) (zs:=zs) 0 zE
 rw[zw3,List.drop_zero]at e;rw[e,<-zvd Z,oh zE zp hZ h1,zvd]
 have hR':R.length=size:=zE
 rw[<-zqb R,<-zqj,oh zE zE hR' h2,zqb];rfl
def fill3(h1:v1.cells.length=size)(h2:v2.cells.length=size)(h3:v3.cells.length=size):gq (placesOf 3 size) ((madeCells zs.toArray (3*size)).toList.map fun v=>Atom.c (.val v)) [(0,v1),(1,v2),(2,v3)]=some (v1.cells++v2.cells++v3.cells):=by
 obtain⟨Z,hZ,R,hR,e⟩:=blocks (n:=3) (size:=size) (zs:=zs) 0 zE
 rw[zw3,List.drop_zero]at e;rw[e,<-zvd Z,oh zE zp hZ h1,zvd]
 have hR':R.length=size+size:=zE
 obtain⟨R1,R2,hr1,hr2,rfl⟩:∃R1 R2:List Atom,R1.length=size/\R2.length=size/\R=R1++R2:=⟨R.take size,R.drop size,by rw[zx3];omega,by rw[zxe];omega,(zv5 _ _).symm⟩
 rw[<-zqj,oh zE zE hr1 h2]
 rw[<-zqb R2,<-zqj,oh zE (by simp only[zqi];omega) hr2 h3,zqb];rfl
def agt(size:Nat)(v:AV0)(m:List CA):Bool:=Nat.beq m.length size&&Nat.ble size 1000&&v.cells.all Atom.dN
def lC{v:AV0}(hc:aV v.cells=some m)(h:agt size v m=true):m.length=size/\size<=1000/\(v.cells.all Atom.dN)=true/\v.cells.length=size:=by
 unfold agt at h;simp only[zx4]at h;obtain⟨⟨h1,h2⟩,h3⟩:=h;have hl:m.length=size:=Nat.eq_of_beq_eq_true h1;exact⟨hl,by simpa[zva]using h2,h3,by rw[<-uF hc];exact hl⟩
def jo:∀{a b:List Atom} {m k:List CA},aV a=some m->aV b=some k->aV (a++b)=some (m++k)
 |[],b,m,k,ha,hb=>by simp[aV]at ha;subst ha;exact hb
 |x::a,b,m,k,ha,hb=>by
  cases x with
  |c x=>
   unfold aV at ha;cases h1:aV a with
   |none=>simp[h1]at ha
   |some m'=>
    simp[h1]at ha;subst ha
    rw[List.cons_append];unfold aV;rw[jo h1 hb];rfl
  |ptr _ _=>simp[aV]at ha
  |own _=>simp[aV]at ha
  |rptr _ _=>simp[aV]at ha
  |clo _ _=>simp[aV]at ha
  |bnd _ _=>simp[aV]at ha
  |rel _ _=>simp[aV]at ha
def G.al9[ht:bF P t e size][he:eZ P e zs bytes](ai:Reg P C ae aa (st.app (some d) ⟨.own d,[(d,.ent (.row e size 2 (m1++m2)))]⟩) (([d],[d])::ab) K)(hown:zZ d:=by assumption)(hd:aC (some d) C.nt=true:=by rfl)(hf:st.hp d= .free:=by rfl)(hx:st.ev x=some (.it v1):=by rfl)(hy:st.ev y=some (.it v2):=by rfl)(hc1:aV v1.cells=some m1:=by rfl)(hc2:aV v2.cells=some m2:=by rfl)(hm1:agt size v1 m1=true:=by rfl)(hm2:agt size v2 m2=true:=by rfl):Go1 P C ae (some d) (.buildSlice t 2 #[(0,x),(1,y)]) ty aa st ab K:=by
 obtain⟨a1,a2,a3,a4⟩:=lC hc1 hm1;obtain⟨b1,b2,b3,b4⟩:=lC hc2 hm2;refine Go1.buildSlice (ps:=[(0,v1),(1,v2)]) (l:=v1.cells++v2.cells) (m:=m1++m2) hd hf (by simp only[evp,hx,hy]) ?_ ?_ (axG a4 b4) (jo hc1 hc2) ?_ ai
 ·simp only[List.all_cons,List.all_nil,Bool.and_true,a3,b3,Bool.true_and];rfl
 ·rw[zva];omega
 ·rw[zqi,a1,b1,Nat.two_mul];exact Nat.beq_refl _
def G.lit2[ht:bF P t e size][he:eZ P e zs bytes](ai:Reg P C ae aa (st.app an ⟨.r (aP size 2 (m1++m2)),[]⟩) (([],[])::ab) K)(hd:aC an C.nt=true:=by rfl)(hx:st.ev x=some (.it v1):=by rfl)(hy:st.ev y=some (.it v2):=by rfl)(hc1:aV v1.cells=some m1:=by rfl)(hc2:aV v2.cells=some m2:=by rfl)(hm1:agt size v1 m1=true:=by rfl)(hm2:agt size v2 m2=true:=by rfl):Go1 P C ae an (.buildSlice t 2 #[(0,x),(1,y)]) ty aa st ab K:=by
 obtain⟨a1,a2,a3,a4⟩:=lC hc1 hm1;obtain⟨b1,b2,b3,b4⟩:=lC hc2 hm2;refine Go1.uL (ps:=[(0,v1),(1,v2)]) (l:=v1.cells++v2.cells) (m:=m1++m2) hd (by simp only[evp,hx,hy]) ?_ ?_ (axG a4 b4) (jo hc1 hc2) ?_ ai
 ·simp only[List.all_cons,List.all_nil,Bool.and_true,a3,b3,Bool.true_and];rfl
 ·rw[zva];omega
 ·rw[zqi,a1,b1,Nat.two_mul];exact Nat.beq_refl _
def G.lit3{m3:List CA}[ht:bF P t e size][he:eZ P e zs bytes](ai:Reg P C ae aa (st.app an ⟨.r (aP size 3 (m1++m2++m3)),[]⟩) (([],[])::ab) K)(hd:aC an C.nt=true:=by rfl)(hx:st.ev x=some (.it v1):=by rfl)(hy:st.ev y=some (.it v2):=by rfl)(hz:st.ev z=some (.it v3):=by rfl)(hc1:aV v1.cells=some m1:=by rfl)(hc2:aV v2.cells=some m2:=by rfl)(hc3:aV v3.cells=some m3:=by rfl)(hm1:agt size v1 m1=true:=by rfl)(hm2:agt size v2 m2=true:=by rfl)(hm3:agt size v3 m3=true:=by rfl):Go1 P C ae an (.buildSlice t 3 #[(0,x),(1,y),(2,z)]) ty aa st ab K:=by
 obtain⟨a1,a2,a3,a4⟩:=lC hc1 hm1;obtain⟨b1,b2,b3,b4⟩:=lC hc2 hm2;obtain⟨c1,c2,c3,c4⟩:=lC hc3 hm3;refine Go1.uL (ps:=[(0,v1),(1,v2),(2,v3)]) (l:=v1.cells++v2.cells++v3.cells) (m:=m1++m2++m3) hd (by simp only[evp,hx,hy,hz]) ?_ ?_ (fill3 a4 b4 c4) (jo (jo hc1 hc2) hc3) ?_ ai
 ·simp only[List.all_cons,List.all_nil,Bool.and_true,a3,b3,c3,Bool.true_and];rfl
 ·rw[zva];omega
 ·rw[zqi,zqi,a1,b1,c1,show 3*size=size+size+size by omega];exact Nat.beq_refl _
end
section
variable{P:Program}{C:Ctx}{st:St}
variable{ae aa:List Oper}{ab:List (List Nat×List Nat)}{K:List (List Nat×List Nat)->St->Prop}{an:Option Tmp}{d:Tmp}{ty t e:TypeId}{x y:Operand}{k:IntKind}{i n size:Nat}{zi:Int}
class TArr(P:Program)(t:TypeId)(n:outParam Nat)(e:outParam TypeId)(size:outParam Nat):Prop where
 h:P.underlying t=some (.array n e)
 s:(P.info? e).map (·.size)=some size
def ahg{l:List Atom}(h:aV l=some m):l.flatMap Atom.ids=[]:=by
 rw[dU h];clear h
 induction m with
 |nil=>rfl
 |cons a m ih=>rw[zy6,zq7,ih];rfl
def G.atZ{parts:Array (Nat×Operand)}{ps:List (Nat×AV0)}{l:List Atom}[ht:TArr P t n e size][hz:fQ P t zs](ai:Reg P C ae aa (st.app (some d) ⟨.agg l,[]⟩) (([],[])::ab) K)(hd:aC (some d) C.nt=true:=by rfl)(hp:evp st parts.toList=some ps:=by rfl)(h1:(ps.all fun p=>p.2.cells.all Atom.dN&&Nat.blt p.1 n)=true:=by rfl)(hf:gq (placesOf n size) (zs.map fun v=>Atom.c (.val v)) ps=some l:=by rfl)(hc:aV l=some m:=by rfl):Go1 P C ae (some d) (.build t parts) ty aa st ab K:=
 Go1.dz [] [] zp hd zp (fun o ho _ st' E S a w hev hs _=>by
  have hp':evp st' parts.toList=some ps:=by
   rw[nU (fun x hx=>hev x.2 (by rw[ho];simp[Op.operands];exact⟨x.1,by simpa using hx⟩))];exact hp
  obtain⟨hall,hids⟩:=zD hs hp';obtain⟨z,hz1,hz2⟩:=mE hz.h w;have hu:=run_underlying ht.h (w:=w);have hsz:=run_sizeOf ht.s w;rw[zqh]at h1;obtain⟨us,hfill,hus⟩:=u7 (w:=w) (cs:=zs) hall (fun p hp=>by have:=h1 p hp;rw[zx4]at this;exact this.1) (lG zs) hf
  have hfill':Instr.fill (fun i=>some (i*size,size)) zs.toArray (parts.toList.map fun x=>(x.1,a.eval x.2))=some us.toArray:=by
   rw[<-hfill];refine rU _ _ fun q hq=>?_
   obtain⟨j,hj⟩:=List.getElem?_of_mem hq
   obtain⟨p,hp1,hp2⟩:=aM.get' hall hj;have:=h1 p (zq4 hp1);rw[zx4]at this;have hlt:q.1 < n:=by rw[<-hp2.1];simpa[Nat.blt_eq]using this.2
   simp[placesOf,hlt]
  refine⟨fun j hj=>?_,.agg us.toArray,?_,us,rfl,hus⟩
  ·have:j∈l.flatMap Atom.ids:=hj;rw[ahg hc]at this;cases this
  ·unfold execOp;rw[ho];simp only[Instr.build,Sem.run_bind,Sem.run_pure,Result.andThen_ok,hz1,hz2,hu,hsz,Array.toList_map];rw[hfill'];rfl) ai
def G.auG{l:List Atom}{a:Atom}[ht:TArr P t n e 1][ho:iT P e](ai:Reg P C ae aa (st.app an ⟨.it (.one a),[]⟩) (([],[])::ab) K)(hd:aC an C.nt=true:=by rfl)(hx:st.ev x=some (.agg l):=by rfl)(hy:st.ev y=some (.v (.int k zi)):=by rfl)(hy0:zi=(i:Int):=by first|with_reducible rfl|exact SX.jI _|rfl)(hi:i < n:=by omega)(ha:l[i]? =some a:=by rfl):Go1 P C ae an (.index t x y) ty aa st ab K:=
 Go1.dz [] [] zp hd zp (fun o ho' _ st' E S b w hev hs _=>by
  obtain⟨⟨vs,hv,hall⟩,hids⟩:=hs.ev ((hev x (by simp[ho',Op.operands])).trans hx)
  have hyv:b.eval y= .int k zi:=(hs.ev ((hev y (by simp[ho',Op.operands])).trans hy)).1
  obtain⟨v,hv1,hv2⟩:=aM.get hall ha;have hsz:=run_sizeOf ho.s w;have hag:=ig ho.h w;refine⟨fun j hj=>hids j (zx9.2 ⟨a,zq4 ha,hj⟩),v,?_,hv2⟩
  subst hy0;unfold execOp;rw[ho'];simp[hv,hyv,Instr.index,asIntOf,run_underlying ht.h,hi,hsz,part,hag,hv1]) ai
end
section
variable{P:Program}{C:Ctx}{st:St}
variable{ae aa:List Oper}{ab:List (List Nat×List Nat)}{K:List (List Nat×List Nat)->St->Prop}{an:Option Tmp}{d:Tmp}{ty t:TypeId}{x y:Operand}
end
end
section
def mpL(σ:Atom->Atom):List Atom->List Atom
 |[]=>[]
 |a::l=>σ a::mpL σ l
def AV0.mp(σ:Atom->Atom):AV0->AV0
 | .one a=> .one (σ a)
 | .agg l=> .agg (mpL σ l)
def mpT(σ:Atom->Atom):List AV0->List AV0
 |[]=>[]
 |a::l=>a.mp σ::mpT σ l
def AV.mp(σ:Atom->Atom):AV->AV
 | .it x=> .it (x.mp σ)
 | .tup l=> .tup (mpT σ l)
def Ent.mp(σ:Atom->Atom):Ent->Ent
 | .abs A=> .abs A
 | .box t l=> .box t (mpL σ l)
 | .row t s n l=> .row t s n l
def Slot.mp(σ:Atom->Atom):Slot->Slot
 | .ent e=> .ent (e.mp σ)
 | .free=> .free
 | .gone=> .gone
def St.mp(st:St)(b:Nat)(σ:Atom->Atom):St:=
 ⟨fun t=>match st.tm t with|some v=>some (v.mp σ)|none=>none,upd (fun c=>(st.hp c).mp σ) b .gone⟩
section
variable{σ:Atom->Atom}
def afZ(hσ:∀a,∀i∈(σ a).ids,i∈a.ids):∀(l:List Atom),∀i∈(mpL σ l).flatMap Atom.ids,i∈l.flatMap Atom.ids
 |[],i,hi=>hi
 |a::l,i,hi=>by
  simp only[mpL,zq7,zyg]at hi ⊢;exact hi.imp (hσ a i) (afZ hσ l i)
def AV0.uV(hσ:∀a,∀i∈(σ a).ids,i∈a.ids)(x:AV0):∀i∈(x.mp σ).ids,i∈x.ids:=by
 cases x with
 |one a=>exact hσ a
 |agg l=>exact afZ hσ l
def anj(hσ:∀a,∀i∈(σ a).ids,i∈a.ids):∀(l:List AV0),∀i∈(mpT σ l).flatMap AV0.ids,i∈l.flatMap AV0.ids
 |[],i,hi=>hi
 |a::l,i,hi=>by
  simp only[mpT,zq7,zyg]at hi ⊢;exact hi.imp (a.uV hσ i) (anj hσ l i)
def AV.uV(hσ:∀a,∀i∈(σ a).ids,i∈a.ids)(x:AV):∀i∈(x.mp σ).ids,i∈x.ids:=by
 cases x with
 |it a=>exact a.uV hσ
 |tup l=>exact anj hσ l
def Ent.uV(hσ:∀a,∀i∈(σ a).ids,i∈a.ids)(x:Ent):∀i∈(x.mp σ).ids,i∈x.ids:=by
 cases x with
 |abs A=>intro i hi;cases hi
 |box t l=>exact afZ hσ l
 |row t s m l=>exact fun i h=>h
variable{E:Env}{S S':Nat->Prop}{w:World}
def afI(f:∀a v,Atom.has E S w a v->(σ a).has E S' w v):∀{l:List Atom} {vs:List Value},aM (Atom.has E S w) l vs->aM (Atom.has E S' w) (mpL σ l) vs
 |[],[],_=>trivial
 |a::_,v::_,h=>⟨f a v h.1,afI f h.2⟩
 |[],_::_,h=>h.elim
 |_::_,[],h=>h.elim
def AV0.has.mp(f:∀a v,Atom.has E S w a v->(σ a).has E S' w v){x:AV0}{v:Value}(h:x.has E S w v):(x.mp σ).has E S' w v:=by
 cases x with
 |one a=>exact f a v h
 |agg l=>obtain⟨vs,h1,h2⟩:=h;exact⟨vs,h1,afI f h2⟩
def amL(f:∀a v,Atom.has E S w a v->(σ a).has E S' w v):∀{l:List AV0} {vs:List Value},aM (AV0.has E S w) l vs->aM (AV0.has E S' w) (mpT σ l) vs
 |[],[],_=>trivial
 |_::_,_::_,h=>⟨AV0.has.mp f h.1,amL f h.2⟩
 |[],_::_,h=>h.elim
 |_::_,[],h=>h.elim
def AV.has.mp(f:∀a v,Atom.has E S w a v->(σ a).has E S' w v){x:AV}{v:Value}(h:x.has E S w v):(x.mp σ).has E S' w v:=by
 cases x with
 |it a=>exact AV0.has.mp f h
 |tup l=>obtain⟨vs,h1,h2⟩:=h;exact⟨vs,h1,amL f h2⟩
def Ent.has.mp(f:∀a v,Atom.has E S w a v->(σ a).has E S' w v)(hsub:∀k,S' k->S k){e:Ent}{c:Nat}(h:e.has E S w c):(e.mp σ).has E S' w c:=by
 cases e with
 |abs A=>exact A.step h (Off.refl S w) (fun k hk=> .inl (hsub k hk)) (fun _ _=>rfl)
 |box t l=>obtain⟨cs,h1,h2⟩:=h;exact⟨cs,h1,afI f h2⟩
 |row t s m l=>obtain⟨vs,h1,h2⟩:=h;exact⟨vs,h1,h2.mono fun a v _ ha=>ha.step (Off.refl S w) (fun k hk=> .inl (hsub k hk))⟩
end
def St.le_mp{b:Nat}{e:Ent}{σ:Atom->Atom}(hσi:∀a,∀i∈(σ a).ids,i∈a.ids)(hB:∀k,¬C.B k)(hb:st.hp b= .ent e)(hσ:∀E S w,e.has E S w b->(∀k,e.at E b k->S k)->∀a v,Atom.has E S w a v->(σ a).has E (fun k=>S k/\¬e.at E b k) w v):St.le C st (st.mp b σ):=by
 intro a w ⟨E,S,hs⟩;have f:=hσ E S w (hs.hp b e hb) (fun k hk=>(hs.blk b e k hb hk).1)
 have hkey:∀c e',(st.mp b σ).hp c= .ent e'->c≠b/\∃e0,st.hp c= .ent e0/\e'=e0.mp σ:=by
  intro c e' hc;have hc':upd (fun c=>(st.hp c).mp σ) b .gone c= .ent e':=hc
  by_cases hcb:c=b
  ·subst hcb;rw[upd_same]at hc';cases hc'
  ·rw[upd_ne _ _ hcb]at hc';refine⟨hcb,?_⟩;cases h1:st.hp c with
   |ent e0=>rw[h1]at hc';simp only[Slot.mp]at hc';cases hc';exact⟨e0,rfl,rfl⟩
   |free=>rw[h1]at hc';cases hc'
   |gone=>rw[h1]at hc';cases hc'
 have hused:∀c,(st.hp c).used=true->((st.mp b σ).hp c).used=true:=by
  intro c hc;show (upd (fun c=>(st.hp c).mp σ) b .gone c).used=true
  by_cases hcb:c=b
  ·subst hcb;rw[upd_same];rfl
  ·rw[upd_ne _ _ hcb];cases h1:st.hp c with
   |ent e0=>rfl
   |free=>rw[h1]at hc;cases hc
   |gone=>rfl
 have htm:∀t v,(st.mp b σ).tm t=some v->∃v0,st.tm t=some v0/\v=v0.mp σ:=by
  intro t v ht;have ht':(match st.tm t with|some v=>some (v.mp σ)|none=>none)=some v:=ht
  cases h1:st.tm t with
  |none=>rw[h1]at ht';cases ht'
  |some v0=>rw[h1]at ht';cases ht';exact⟨v0,rfl,rfl⟩
 have hblk:∀(e0:Ent) c,(e0.mp σ).at E c=e0.at E c:=fun e0 c=>by cases e0 <;> rfl
 refine⟨E,fun k=>S k/\¬e.at E b k,{dfr:=hs.dfr,nt:=hs.nt,cT:=fun k hk=>⟨hs.cT k hk,fun h=>?_⟩,cT0:=hs.cT0,cS:=fun k hk=>hs.cS k hk.1,lt:=fun k hk=>hs.lt k hk.1,tm:=fun t v ht=>?_,tid:=fun t v ht i hi=>?_,hp:=fun c e' hc=>?_,aq:=fun c e' hc i hi=>?_,blk:=fun c e' k hc hk=>?_,sep:=fun c c' e1 e2 k hne hc hc' hk=>?_,off:=hs.off,env:=fun c hc=>?_,gl:=hs.gl.sub fun k hk=>hk.1}⟩
 ·have h1:=(hs.blk b e k hb h).2.resolve_left (hB k);have h2:=hs.cT0 k hk;omega
 ·obtain⟨v0,h1,rfl⟩:=htm t v ht;exact AV.has.mp f (hs.tm t v0 h1)
 ·obtain⟨v0,h1,rfl⟩:=htm t v ht;exact hused i (hs.tid t v0 h1 i (v0.uV hσi i hi))
 ·obtain⟨_,e0,h1,rfl⟩:=hkey c e' hc;exact Ent.has.mp f (fun k hk=>hk.1) (hs.hp c e0 h1)
 ·obtain⟨_,e0,h1,rfl⟩:=hkey c e' hc;exact hused i (hs.aq c e0 h1 i (e0.uV hσi i hi))
 ·obtain⟨hcb,e0,h1,rfl⟩:=hkey c e' hc;rw[hblk]at hk;have h2:=hs.blk c e0 k h1 hk;exact⟨⟨h2.1,fun h=>hs.sep c b e0 e k hcb h1 hb hk h⟩,h2.2⟩
 ·obtain⟨_,e3,h1,rfl⟩:=hkey c e1 hc;obtain⟨_,e4,h2,rfl⟩:=hkey c' e2 hc';rw[hblk]at hk ⊢;exact hs.sep c c' e3 e4 k hne h1 h2 hk
 ·obtain⟨g1,g2,g3⟩:=hs.env c hc;exact⟨g1,g2,hused c g3⟩
def bfz(b:Nat)(m:List CA):Atom->Atom
 | .c a=> .c a
 | .ptr k off=>match Nat.beq k b with|true=> .c (.sat (dL (m.drop off)))|false=> .ptr k off
 | .own k=> .own k
 | .rptr k off=> .rptr k off
 | .clo f am=> .clo f am
 | .bnd f k=> .bnd f k
 | .rel k R=> .rel k R
def anq{b:Nat}:bfz b m (.ptr b off)= .c (.sat (dL (m.drop off))):=by
 simp only[bfz,Nat.beq_refl]
def acB{b:Nat}(h:k≠b):bfz b m (.ptr k off)= .ptr k off:=by
 simp only[bfz,akb h]
def axj(b:Nat)(m:List CA)(a:Atom):∀i∈(bfz b m a).ids,i∈a.ids:=by
 cases a with
 |ptr k off=>
  intro i hi;by_cases hk:k=b
  ·subst hk;rw[anq]at hi;cases hi
  ·rw[acB hk]at hi;exact hi
 |_=>exact fun i hi=>hi
def St.az6{b:Nat}{ag:List Atom}(hB:∀k,¬C.B k)(hb:st.hp b= .ent (.box t ag))(hc:aV ag=some m):St.le C st (st.mp b (bfz b m)):=
 St.le_mp (axj b m) hB hb fun E S w hh hS a v ha=>by
  have hsub:∀k,(fun k=>S k/\¬(Ent.box t ag).at E b k) k->S k:=fun k hk=>hk.1
  have keep:∀a:Atom,a.has E S w v->a.has E (fun k=>S k/\¬(Ent.box t ag).at E b k) w v:=fun a ha=>ha.step (fun _ _=>⟨rfl,rfl⟩) (Off.refl S w) (fun k hk=> .inl (hsub k hk))
  cases a with
  |ptr k off=>
   by_cases hk:k=b
   ·subst hk;rw[anq];obtain⟨cs,h1,h2⟩:=hh;rw[dU hc]at h2;have h3:=jq h2;refine adB.2 ⟨E.blk k,off,ha,fun i c hic=>?_⟩
    rw[zv1]at hic
    obtain⟨u,hu,huc⟩:=h3.get hic;have hcell:=cells_of_block h1 0 (off+i) u (by simpa using hu)
    exact⟨u,fun h=>h.2 rfl,by simpa[Addr.add_lit]using hcell,huc.step (Off.refl S w) (fun k hk=> .inl (hsub k hk))⟩
   ·rw[acB hk];exact keep _ ha
  |c a=>exact keep _ ha
  |own k=>exact keep _ ha
  |rptr k off=>exact keep _ ha
  |clo f am=>exact keep _ ha
  |bnd f k=>exact keep _ ha
  |rel k R=>exact keep _ ha
def WP.dG{Q:Exit->St->Prop}{c:Code}(b:Nat){ag:List Atom}(hB:∀k,¬C.B k)(hb:st.hp b= .ent (.box t ag))(hc:aV ag=some m)(h:WP P C c (st.mp b (bfz b m)) Q):WP P C c st Q:=
 WP.weaken (St.az6 hB hb hc) h
def jR(f:FuncId)(bs cs:List CA):Rep where
 has S w v:=∃us vs:List Value,v= .func (.func f) us.toArray vs.toArray/\aM (CA.has S w) bs us/\aM (CA.has S w) cs vs
 one h:=by obtain⟨us,vs,rfl,_⟩:=h;rfl
 step h ho hs:=by
  obtain⟨us,vs,h1,h2,h3⟩:=h;exact⟨us,vs,h1,h2.mono fun a b _ h=>h.step ho hs,h3.mono fun a b _ h=>h.step ho hs⟩
def alp(c:CA):AV:= .it (.one (.c c))
def adt{E:Env}{S:Nat->Prop}{w:World}:∀{l:List CA} {vs:List Value},aM (CA.has S w) l vs->aM (AV.has E S w) (l.map alp) vs
 |[],[],_=>trivial
 |_::_,_::_,h=>⟨h.1,adt h.2⟩
 |[],_::_,h=>h.elim
 |_::_,[],h=>h.elim
def FnV(P:Program)(x:CA)(ao:List AV)(r:AV):Prop:=
 ∀S w v,x.has S w v->∃(f:FuncId) (us vs:List Value) (bs cs:List AV),v= .func (.func f) (List.toArray us) (List.toArray vs)/\(∀E,aM (AV.has E S w) bs us)/\(∀E,aM (AV.has E S w) cs vs)/\ah P f (bs++ao++cs) r
def FnV.clo(h:ah P f (bs.map alp++ao++cs.map alp) r):FnV P (.sat (jR f bs cs)) ao r:=by
 rintro S w v ⟨us,vs,h1,h2,h3⟩;exact⟨f,us,vs,bs.map alp,cs.map alp,h1,fun E=>adt h2,fun E=>adt h3,h⟩
def aqN(f:FuncId)(m:List CA):Rep where
 has S w v:=∃us:List Value,v= .func (.func f) #[.agg us.toArray] #[]/\aM (CA.has S w) m us
 one h:=by obtain⟨us,rfl,_⟩:=h;rfl
 step h ho hs:=by
  obtain⟨us,h1,h2⟩:=h;exact⟨us,h1,h2.mono fun a b _ h=>h.step ho hs⟩
def ads{E:Env}{S:Nat->Prop}{w:World}:∀{m:List CA} {us:List Value},aM (CA.has S w) m us->aM (Atom.has E S w) (m.map Atom.c) us
 |[],[],_=>trivial
 |_::_,_::_,h=>⟨h.1,ads h.2⟩
 |[],_::_,h=>h.elim
 |_::_,[],h=>h.elim
def FnV.bound(h:ah P f (.agg (m.map Atom.c)::ao) r):FnV P (.sat (aqN f m)) ao r:=by
 rintro S w v ⟨us,h1,h2⟩;exact⟨f,[.agg us.toArray],[],[.agg (m.map Atom.c)],[],h1,fun E=>⟨⟨us,rfl,ads h2⟩,trivial⟩,fun E=>trivial,by simpa using h⟩
def adX{E:Env}{S:Nat->Prop}{w:World}:∀{l:List CA} {vs:List Value},aM (AV.has E S w) (l.map alp) vs->aM (CA.has S w) l vs
 |[],[],_=>trivial
 |_::_,_::_,h=>⟨h.1,adX h.2⟩
 |[],_::_,h=>h.elim
 |_::_,[],h=>h.elim
section
variable{P:Program}{C:Ctx}{st:St}
variable{ae aa:List Oper}{ab:List (List Nat×List Nat)}{K:List (List Nat×List Nat)->St->Prop}{an:Option Tmp}{d:Tmp}{op:Op}{ty t t':TypeId}{x y z:Operand}
def aeF:List AV->Option (List CA)
 |[]=>some []
 | .it (.one (.c c))::l=>match aeF l with|some m=>some (c::m)|none=>none
 |_::_=>none
def wR:∀{l:List AV} {m:List CA},aeF l=some m->l=m.map alp
 |[],m,h=>by simp[aeF]at h;subst h;rfl
 |v::l,m,h=>by
  unfold aeF at h
  split at h
  ·rename_i heq;cases heq
  ·rename_i c l' heq;cases heq
   split at h
   ·rename_i m' hm;cases h;rw[zy6,wR hm];rfl
   ·cases h
  ·cases h
def G.mkfn{bnd caps:Array Operand}{l l':List AV}(ai:Reg P C ae aa (st.app an ⟨.r (jR f bs cs),[]⟩) (([],[])::ab) K)(hd:aC an C.nt=true:=by rfl)(ha:evs st bnd.toList=some l:=by rfl)(hc:aeF l=some bs:=by rfl)(ha':evs st caps.toList=some l':=by rfl)(hc':aeF l'=some cs:=by rfl):Go1 P C ae an (.makeFunc (.func f) bnd caps) ty aa st ab K:=
 Go1.dz [] [] zp hd zp (fun o ho _ st' E S a w hev hs _=>by
  have hop:o.op.operands=bnd++caps:=by rw[ho];simp[Op.operands]
  have h1:evs st' bnd.toList=some l:=by rw[jB (fun x hx=>hev x (by rw[hop];simp at hx ⊢;exact .inl hx))];exact ha
  have h2:evs st' caps.toList=some l':=by rw[jB (fun x hx=>hev x (by rw[hop];simp at hx ⊢;exact .inr hx))];exact ha'
  obtain⟨g1,_⟩:=nL hs h1;obtain⟨g2,_⟩:=nL hs h2;rw[wR hc]at g1;rw[wR hc']at g2;refine⟨fun i hi=>(by cases hi),_,by unfold execOp;rw[ho];simp[Instr.makeFunc];rfl,bnd.toList.map a.eval,caps.toList.map a.eval,?_,adX g1,adX g2⟩
  congr 1 <;> (apply Array.ext';simp)) ai
def G.aye{x:Operand}{l:List Atom}(ai:Reg P C ae aa (st.app an ⟨.r (aqN f m),[]⟩) (([],[])::ab) K)(hd:aC an C.nt=true:=by rfl)(ha:st.ev x=some (.agg l):=by rfl)(hc:aV l=some m:=by rfl):Go1 P C ae an (.makeFunc (.func f) #[x] #[]) ty aa st ab K:=
 Go1.dz [] [] zp hd zp (fun o ho _ st' E S a w hev hs _=>by
  obtain⟨⟨us,hv,hall⟩,_⟩:=hs.ev ((hev x (by simp[ho,Op.operands])).trans ha)
  rw[dU hc]at hall;refine⟨fun i hi=>(by cases hi),.func (.func f) #[.agg us.toArray] #[],?_,us,rfl,jq hall⟩
  unfold execOp;rw[ho];simp[Instr.makeFunc,hv]) ai
def akc{o:Oper}{as:Array Operand}{tys:Array TypeId}{us vs:Array Value}{ρ:Operand->Value}(ho:o.op= .call ⟨.value fx,as,tys⟩)(hf:ρ fx= .func (.func f) us vs)(he:∃fn,P.funcs[f]? =some fn/\(fn.name== "runtime.NumGoroutine")=false/\fn.body.isNone=false)(w:World):(execOp ρ o).run P w= .ok (.enter f (us++as.map ρ++vs)) w:=by
 obtain⟨fn,h1,h2,h3⟩:=he;unfold execOp;rw[ho];have h2':fn.name≠ "runtime.NumGoroutine" :=by simpa using h2
 have h3':fn.body≠none:=by intro e;rw[e]at h3;cases h3
 simp[resolve,hf,Deferred.ofValue,invoke,callFunc,h1,h2',h3']
def G.axB{c:CA}{as:Array Operand}{tys:Array TypeId}(ai:Reg P C ae aa (st.app an ⟨r,[]⟩) (([],[])::ab) K)(hd:aC an C.nt=true:=by rfl)(hf:st.ev fx=some (.it (.one (.c c))):=by rfl)(ha:evs st as.toList=some ao:=by rfl)(hc:FnV P c ao r:=by assumption)(hr:r.ids=[]:=by rfl):Go1 P C ae an (.call ⟨.value fx,as,tys⟩) ty aa st ab K:=by
 refine⟨[],⟨r,[]⟩,fun o h2 h3 h4=>aT.eff [] [] (fun b hb=>?_) (h2▸dP hd) (fun b e hb=>by cases hb) (fun b e hb=>by cases hb) (fun b s hb=>by cases hb) (fun b s hb=>by cases hb) (fun st' E S a w hev hhp hs _ _=>?_),ai⟩
 ·rcases hb with⟨e,hb⟩|⟨e,hb⟩|⟨s,hb⟩ <;> cases hb
 ·have hop:o.op.operands= #[fx]++as:=by rw[h3];rfl
  have ha':evs st' as.toList=some ao:=by rw[jB (fun x hx=>hev x (by rw[hop];simp at hx;simp[hx]))];exact ha
  obtain⟨hall,hids⟩:=nL hs ha';have hcl:=(hs.ev ((hev fx (by rw[hop];simp)).trans hf)).1
  obtain⟨f,us,vs,bs,cs,hv,g1,g2,hent,hcall⟩:=hc S w _ hcl;refine⟨⟨fun i hi=>(by rw[hr]at hi;cases hi),fun b e hb=>by cases hb⟩,fun K Q hK=>?_⟩
  have hcalls:=hcall E S w (us++as.toList.map a.eval++vs) hs.lt hs.gl (((g1 E).append hall).append (g2 E)) (fun b e hb=>by cases hb) (fun b e k hb=>by cases hb) (fun b b' e e' k _ hb=>by cases hb)
  unfold Oper.wp;rw[akc h3 hv hent w];have harr:us.toArray++as.map a.eval++vs.toArray=(us++as.toList.map a.eval++vs).toArray:=by
   apply Array.ext';simp
  show Calls P f _ w _;rw[harr];exact hcalls.mono fun e w' ⟨v,E',S',he,hE⟩=>by subst he;exact hK v w' E' S' hE
end
def FnV.const(h:ah P f ao r):FnV P (.sat (jR f [] [])) ao r:=FnV.clo (by simpa using h)
end
section
def hdrs(s:Value):List Value:=match s with| .agg a=>a.toList|v=>[v]
def cK(s:Value)(j:Nat):Value:=(hdrs s).getD j undef
def ahT(j:Nat):Nat->Value->Value->Prop:=fun _ s v=>v=cK s j
def uO(j off:Nat):Nat->Value->Value->Prop:=fun _ s v=>∃g n am,cK s j= .slice (some ⟨g,0,none⟩) n am/\v= .pointer (some ⟨g,off,none⟩)
abbrev wm(b j:Nat):Atom:= .rel b (ahT j)
section
variable{α:Type}
structure nC(tO tI:TypeId)(size:Nat)(enc:α->List CA)(js:List Nat)(c:List (List α))(v:Value)(X S:Nat->Prop)(w:World):Prop where
 out:w.ownsRow 0 tO 1 (cK v 0) js.length (js.map fun j=>cK v (j+1))
 lt:∀j∈js,j < c.length
 inn:∀j l,c[j]? =some l->∃vs,w.ownsRow 0 tI size (cK v (j+1)) l.length vs/\aM (CA.has S w) (l.flatMap enc) vs
 sep:∀i j k,i < c.length+1->j < c.length+1->i≠j->(cK v i).ownBlock=some k->(cK v j).ownBlock≠some k
 X:∀k,X k↔∃i,i < c.length+1/\(cK v i).ownBlock=some k
def iK(tO tI:TypeId)(size:Nat)(enc:α->List CA)(js:List Nat)(c:List (List α)):kL where
 has _ v X S w:=nC tO tI size enc js c v X S w
 step:=fun {b v X S S' w w'} h ho hs hX=>by
  refine⟨eD h.out fun k hk=>hX k ((h.X k).2 ⟨0,zE,hk⟩),h.lt,fun j l hj=>?_,h.sep,h.X⟩
  have hjl:j < c.length:=by
   rcases zyd j c.length with h|h
   ·exact h
   ·rw[zqe h]at hj;cases hj
  obtain⟨vs,h1,h2⟩:=h.inn j l hj;exact⟨vs,eD h1 fun k hk=>hX k ((h.X k).2 ⟨j+1,zE,hk⟩),h2.mono fun a u _ ha=>ha.step ho hs⟩
def nk(A:kL)(i:Nat)(e:TypeId)(size n:Nat):Prop:=∀b v X S w,A.has b v X S w->∃vs,w.ownsRow 0 e size (cK v i) n vs
def nk.out{tO tI:TypeId}{size:Nat}{enc:α->List CA}{js:List Nat}{c:List (List α)}:nk (iK tO tI size enc js c) 0 tO 1 js.length:=fun b v X S w h=>⟨_,h.out⟩
def nk.inn{tO tI:TypeId}{size:Nat}{enc:α->List CA}{js:List Nat}{c:List (List α)}{j:Nat}{l:List α}(hj:c[j]? =some l):nk (iK tO tI size enc js c) (j+1) tI size l.length:=fun b v X S w h=>let⟨vs,h1,_⟩:=h.inn j l hj;⟨vs,h1⟩
def abo{v:Value}(h:w.ownsRow 0 e size v n vs):v.oneCell'=true:=by
 rcases h.2 with⟨rfl,_⟩|⟨_,_,_,rfl,_⟩ <;> rfl
end
section
variable{P:Program}{C:Ctx}{st:St}{α:Type}
variable{ae aa:List Oper}{ab:List (List Nat×List Nat)}{K:List (List Nat×List Nat)->St->Prop}{an:Option Tmp}{d:Tmp}{op:Op}{ty t t':TypeId}{x y z:Operand}{k:IntKind}
def Go1.aly{b:Nat}{enc:α->List CA}{c:List (List α)}[ht:iT P t](hd:aC an C.nt=true)(hx:st.ev x=some (.it (.one (.rel b (uO 0 off)))))(hb:st.hp b= .ent (.abs (iK tO tI size enc js c)))(hj:js[off]? =some j)(ai:Reg P C ae aa (st.app an ⟨.it (.one (wm b (j+1))),[]⟩) (([b],[])::ab) K):Go1 P C ae an (.load t x) ty aa st ab K:=
 Go1.dz [(b,.abs (iK tO tI size enc js c))] [b] (fun c e' hc=>by simp at hc;simp[hc.1]) hd (fun c e' hc=>by simp at hc;obtain⟨rfl,rfl⟩:=hc;exact hb) (fun o ho _ st' E S a w hev hs hrd=>by
  obtain⟨⟨⟨g,n',am,h1,hv⟩,_⟩,aq⟩:=hs.ev ((hev x (by simp[ho,Op.operands])).trans hx)
  have hh:nC tO tI size enc js c (E.sl b) (E.fp b) S w:=hs.hp b _ (hrd b _ zq9);have hown:=hh.out;rw[h1]at hown;have hcell:=hown.cells (g:=g) rfl;have g2:=hcell off (cK (E.sl b) (j+1)) (by rw[zqa,hj];rfl)
  have hjl:=hh.lt j (zq4 hj);obtain⟨vs,hi,_⟩:=hh.inn j (c[j]'hjl) (zyh hjl)
  refine⟨fun i hi=>aq i hi,cK (E.sl b) (j+1),?_,rfl,abo hi⟩
  unfold execOp;rw[ho];have g2':w.cell? ⟨g,off,none⟩=some (cK (E.sl b) (j+1)):=by simpa[Addr.add_lit]using g2
  simp[hv,Instr.loadAt,Instr.sureAddr,loadVar,ig ht.h,g2']) ai
def Go1.ajS{b m:Nat}{enc:α->List CA}{c:List (List α)}{r:List α}{l:List CA}[ht:gZ P t m](hd:aC an C.nt=true)(hx:st.ev x=some (.it (.one (.rel b (uO (j+1) off)))))(hb:st.hp b= .ent (.abs (iK tO tI size enc js c)))(hj:c[j]? =some r)(hc:((r.flatMap enc).drop off).take m=l)(hl:l.length=m)(ai:Reg P C ae aa (st.app an ⟨.agg (l.map Atom.c),[]⟩) (([b],[])::ab) K):Go1 P C ae an (.load t x) ty aa st ab K:=
 Go1.dz [(b,.abs (iK tO tI size enc js c))] [b] (fun c e' hc=>by simp at hc;simp[hc.1]) hd (fun c e' hc=>by simp at hc;obtain⟨rfl,rfl⟩:=hc;exact hb) (fun o ho _ st' E S a w hev hs hrd=>by
  obtain⟨⟨⟨g,n',am,h1,hv⟩,_⟩,_⟩:=hs.ev ((hev x (by simp[ho,Op.operands])).trans hx)
  have hh:nC tO tI size enc js c (E.sl b) (E.fp b) S w:=hs.hp b _ (hrd b _ zq9);obtain⟨vs,hown,hvs⟩:=hh.inn j r hj;rw[h1]at hown;have hcell:=hown.cells (g:=g) rfl;have hall0:aM (CA.has S w) l ((vs.drop off).take m):=by rw[<-hc];exact(hvs.drop off).take m
  obtain⟨us,hus,hall⟩:∃us,us=(vs.drop off).take m/\aM (CA.has S w) l us:=⟨_,rfl,hall0⟩;have hlen:=hall.length;have hrun:=run_loadCells_list (P:=P) w ⟨g,off,none⟩ us (fun j u hj=>by
   rw[hus,zy9]at hj
   split at hj
   ·rw[zv1]at hj
    have:=hcell (off+j) u hj;simpa[Addr.add_lit]using this
   ·cases hj)
  have hsz:(P.info? t).map (·.size)=some us.length:=by rw[ht.s,<-hlen,hl]
  refine⟨fun j hj=>?_,.agg us.toArray,?_,us,rfl,afw hall⟩
  ·simp only[AV.ids,AV0.ids,zx9]at hj;obtain⟨c,hc,hj⟩:=hj;obtain⟨c',_,rfl⟩:=zqg.1 hc;cases hj
  ·unfold execOp;rw[ho];simp[hv,Instr.loadAt,Instr.sureAddr,loadVar,ig ht.h,run_sizeOf hsz,hrun]) ai
def aav{m n' am:Nat}{v u:Value}{us:List Value}(hs:(P.info? t).map (·.size)=some m)(hown:w.ownsRow 0 e size v n vs)(hv:v= .slice (some ⟨g,0,none⟩) n' am)(hc:u.cells=us.toArray)(hm:us.length=m)(h1:∀x∈us,x.oneCell'=true)(hl:off+m<=n*size):
  ∃cs:Array Value,(storeVar t ⟨g,off,none⟩ u).run P w= .ok () (w.setRow g cs)/\(w.setRow g cs).ownsRow 0 e size v n (spl vs off us)/\g < w.heap.size:=by
 obtain⟨hxl,⟨he,_⟩|⟨g2,cap2,cur,he,_,hg,hnc,hcm,hcs,htk⟩⟩:=hown
 ·rw[hv]at he;cases he
 rw[hv]at he;cases he;subst hv;have hlen:off+us.length<=cur.toList.length:=by
  have:n*size<=am*size:=zx1 _ hnc;have hcz:cur.toList.length=cur.size:=zw6;omega
 have hrun:=run_store (P:=P) (off:=off) (n:=m) (cs:=cur.toList) (T:=e) (g:=g) hs hc hm w (by simpa using hg) zE h1
 have hsp:=iX cur.toList off us hlen;have hcz:cur.toList.length=cur.size:=zw6;refine⟨_,hrun,?_,?_⟩
 ·have hvl:vs.length=n*size:=hxl;refine⟨?_,.inr ⟨g,am,(spl cur.toList off us).toArray,rfl,zq8 _,?_,hnc,hcm,?_,?_⟩⟩
  ·rw[iX _ _ _ zE];simp;omega
  ·exact setRow_heap w g _ _ _ _ hg
  ·rw[hsp];simp;omega
  ·rw[iX vs off us zE,hsp,<-htk]
   simp only[List.take_append,zx3,zqi,zxe,zw6,List.drop_take,List.take_take];have e1:min (n*size) off=off:=zE
   have e2:min off cur.size=off:=by rw[zw6]at hlen;omega
   have e3:min off (n*size)=off:=zE
   rw[e1,e2,e3];rw[zxc (l:=us) zE]
 ·rw[Array.getElem?_eq_some_iff]at hg;exact hg.1
def Eff.tX{b:Nat}{A A':kL}{cs:Array Value}(hl:∀k,S k->k < w.heap.size)(hS:∀k,E.fp b k->S k)(hg:E.fp b g)(hA:A'.has (E.blk b) (E.sl b) (E.fp b) S (w.setRow g cs)):
  Eff E S w [(b,.abs A)] ⟨.v undef,[(b,.ent (.abs A'))]⟩ undef (w.setRow g cs) E S:=by
 have ho:Off S w (w.setRow g cs):=Off.setRow w _ _ (hS g hg);refine
  {env:=fun i hi=>⟨rfl,rfl⟩,fpe:=fun _ _=>rfl,sub:=fun k hk=>hk,new:=fun k hk=> .inl hk,lt:=fun k hk=>zqf (hl k hk) ho.size,off:=Off.setRow w _ _ ⟨b,_,zq9,hg⟩,
   res:=rfl,ents:=fun i e' hi=>?_,blk:=fun i e' k hi hk=>?_,sep:=fun i i' e' e2 k hne h1 h2=>?_}
 ·simp at hi;obtain⟨rfl,rfl⟩:=hi
  exact hA
 ·simp at hi;obtain⟨rfl,rfl⟩:=hi
  exact⟨hS k hk,.inl ⟨i,_,zq9,hk⟩⟩
 ·simp at h1 h2;exact absurd (h1.1.trans h2.1.symm) hne
def Go1.tX{A A':kL}{b i off m:Nat}{v:AV0}(hs:(P.info? t).map (·.size)=some m)(hx:st.ev x=some (.it (.one (.rel b (uO i off)))))(hy:st.ev y=some (.it v))(hb:st.hp b= .ent (.abs A))(hn:v.cells.length=m)(h1:v.cells.all Atom.dN=true)
  (hA:∀(E:Env) S w u us g n am,A.has (E.blk b) (E.sl b) (E.fp b) S w->aM (Atom.has E S w) v.cells us->u.cells=us.toArray->us.length=m->(∀x∈us,x.oneCell'=true)->cK (E.sl b) i= .slice (some ⟨g,0,none⟩) n am->(∀k,E.fp b k->S k)->
   ∃cs:Array Value,(storeVar t ⟨g,off,none⟩ u).run P w= .ok () (w.setRow g cs)/\A'.has (E.blk b) (E.sl b) (E.fp b) S (w.setRow g cs)/\E.fp b g)
  (ai:Reg P C ae aa (st.app none ⟨.v undef,[(b,.ent (.abs A'))]⟩) (([b],[b])::ab) K):Go1 P C ae none (.store t x y) ty aa st ab K:=by
 refine⟨[b],⟨.v undef,[(b,.ent (.abs A'))]⟩,fun o h2 h3 h4=>aT.eff [] [(b,.abs A)] (fun i hi=>?_) (h2▸(fun x hx=>by cases hx)) (fun b e hb=>by cases hb) (fun i e hi=>?_) (fun i s hi=>?_) (fun i s hi=>?_) (fun st' E S a w hev hhp hse _ hpre=>?_),ai⟩
 ·rcases hi with⟨e,hi⟩|⟨e,hi⟩|⟨s,hi⟩
  ·cases hi
  ·simp at hi;simp[hi.1]
  ·simp at hi;simp[hi.1]
 ·simp at hi
  obtain⟨rfl,rfl⟩:=hi;exact⟨hb,_,by simp;rfl⟩
 ·simp at hi;obtain⟨rfl,_⟩:=hi;exact .inl ⟨_,by simp;rfl⟩
 ·simp at hi;rw[hi.2];rfl
 ·obtain⟨⟨⟨g,n',cap',hE1,hv⟩,_⟩,_⟩:=hse.ev ((hev x (by simp[h3,Op.operands])).trans hx)
  obtain⟨hu,hids⟩:=hse.ev ((hev y (by simp[h3,Op.operands])).trans hy)
  have hb':=hpre b (.abs A) zp
  obtain⟨us,hc',hallu,hone⟩:=AV0.has.cells hu h1;have hX:∀k,E.fp b k->S k:=fun k hk=>(hse.blk b _ k hb' hk).1
  obtain⟨cs,hrun,hA',hg⟩:=hA E S w _ us g n' cap' (hse.hp b _ hb') hallu hc' (by rw[<-hallu.length,hn]) hone hE1 hX
  refine⟨⟨fun i hi=>(by cases hi),fun i e hi j hj=>?_⟩,fun K Q hK=>?_⟩
  ·simp at hi
   obtain⟨rfl,rfl⟩:=hi;cases hj
  ·unfold Oper.wp execOp;rw[h3];simp only[show a.eval x=_ from hv,Instr.storeAt,Instr.sureAddr,Sem.run_bind,Sem.run_pure,Result.andThen_ok,hrun]
   exact hK undef _ _ _ (Eff.tX hse.lt hX hg hA')
def yj{β:Type}(f:Nat->β):∀(l:List Nat) (i j:Nat),i < l.length->spl (l.map f) i [f j]=(l.set i j).map f
 |[],i,j,h=>by simp at h
 |x::l,0,j,h=>by cases l <;> simp[spl]
 |x::l,i+1,j,h=>by simp only[zy6,spl,List.set_cons_succ];rw[yj f l i j (by simpa using h)]
def acf{v:Value}{cs:Array Value}(h:w.ownsRow 0 e size v n vs)(hne:v.ownBlock≠some g):(w.setRow g cs).ownsRow 0 e size v n vs:=
 eD h fun k hk=>setRow_other w g k _ fun e=>hne (by rw[hk,e])
def Go1.afK{b:Nat}{enc:α->List CA}{c:List (List α)}(hs:(P.info? t).map (·.size)=some 1)(hx:st.ev x=some (.it (.one (.rel b (uO 0 off)))))(hy:st.ev y=some (.it (.one (wm b (j+1)))))(hb:st.hp b= .ent (.abs (iK tO tI size enc js c)))(ho:off < js.length)(hj:j < c.length)(ai:Reg P C ae aa (st.app none ⟨.v undef,[(b,.ent (.abs (iK tO tI size enc (js.set off j) c)))]⟩) (([b],[b])::ab) K):Go1 P C ae none (.store t x y) ty aa st ab K:=by
 refine Go1.tX (i:=0) (off:=off) (v:= .one (wm b (j+1))) hs hx hy hb rfl rfl (fun E S w u us g n am hh hu hc hm h1 hg hX=>?_) ai
 have hh:nC tO tI size enc js c (E.sl b) (E.fp b) S w:=hh;have hus:us=[cK (E.sl b) (j+1)]:=by
  match us,hu with
  |[u'],h=>exact congrArg (fun x=>[x]) h.1.1
 obtain⟨cs,hrun,hown,hlt⟩:=aav (P:=P) (t:=t) (m:=1) (size:=1) (off:=off) hs hh.out hg hc hm h1 zE
 have hgX:E.fp b g:=(hh.X g).2 ⟨0,zE,by rw[hg];rfl⟩
 have ho':Off S w (w.setRow g cs):=Off.setRow w _ _ (hX g hgX);refine⟨cs,hrun,?_,hgX⟩;show nC tO tI size enc (js.set off j) c (E.sl b) (E.fp b) S (w.setRow g cs);refine⟨?_,fun i hi=>?_,fun i l hi=>?_,hh.sep,hh.X⟩
 ·rw[hus,yj (fun j=>cK (E.sl b) (j+1)) js off j ho]at hown
  rw[zvf];exact hown
 ·rcases List.mem_or_eq_of_mem_set hi with h|h
  ·exact hh.lt i h
  ·rw[h];exact hj
 ·obtain⟨vs,g1,g2⟩:=hh.inn i l hi;have hil:i < c.length:=by
   rcases zyd i c.length with h|h
   ·exact h
   ·rw[zqe h]at hi;cases hi
  exact⟨vs,acf g1 (hh.sep 0 (i+1) g zE zE zE (by rw[hg];rfl)),g2.mono fun a u _ ha=>ha.step ho' (fun k hk=> .inl hk)⟩
def Go1.abn{b m:Nat}{enc:α->List CA}{c:List (List α)}{v:AV0}{r r':List α}{cells2:List CA}(hs:(P.info? t).map (·.size)=some m)(hx:st.ev x=some (.it (.one (.rel b (uO (j+1) off)))))(hy:st.ev y=some (.it v))(hb:st.hp b= .ent (.abs (iK tO tI size enc js c)))(hn:v.cells.length=m)(h1:v.cells.all Atom.dN=true)(hcl:aV v.cells=some cells2)(hj:c[j]? =some r)(hr:r'.length=r.length)(hl:off+m<=r.length*size)(hr':spl (r.flatMap enc) off cells2=r'.flatMap enc)(ai:Reg P C ae aa (st.app none ⟨.v undef,[(b,.ent (.abs (iK tO tI size enc js (c.set j r'))))]⟩) (([b],[b])::ab) K):Go1 P C ae none (.store t x y) ty aa st ab K:=by
 refine Go1.tX (i:=j+1) (off:=off) (v:=v) hs hx hy hb hn h1 (fun E S w u us g n am hh hu hc hm h1 hg hX=>?_) ai
 have hh:nC tO tI size enc js c (E.sl b) (E.fp b) S w:=hh;have hjl:j < c.length:=by
  rcases zyd j c.length with h|h
  ·exact h
  ·rw[zqe h]at hj;cases hj
 obtain⟨vs,hown0,hvs⟩:=hh.inn j r hj;obtain⟨cs,hrun,hown,hlt⟩:=aav (P:=P) (t:=t) (m:=m) (size:=size) (off:=off) hs hown0 hg hc hm h1 hl;have hgX:E.fp b g:=(hh.X g).2 ⟨j+1,zE,by rw[hg];rfl⟩
 have ho':Off S w (w.setRow g cs):=Off.setRow w _ _ (hX g hgX);rw[dU hcl]at hu;have hu':=jq hu;refine⟨cs,hrun,?_,hgX⟩;show nC tO tI size enc js (c.set j r') (E.sl b) (E.fp b) S (w.setRow g cs);refine⟨acf hh.out (hh.sep (j+1) 0 g zE zE zE (by rw[hg];rfl)),fun i hi=>by rw[zvf];exact hh.lt i hi,fun i l hi=>?_,by rw[zvf];exact hh.sep,by rw[zvf];exact hh.X⟩
 rw[zv2]at hi
 by_cases hij:j=i
 ·subst hij;rw[if_pos rfl,if_pos hjl]at hi;cases hi;refine⟨_,by rw[hr];exact hown,?_⟩
  rw[<-hr'];exact aM.spl off (hvs.mono fun a u _ ha=>ha.step ho' (fun k hk=> .inl hk)) (hu'.mono fun a u _ ha=>ha.step ho' (fun k hk=> .inl hk))
 ·rw[if_neg hij]at hi;have hil:i < c.length:=by
   rcases zyd i c.length with h|h
   ·exact h
   ·rw[zqe h]at hi;cases hi
  obtain⟨vs',g1,g2⟩:=hh.inn i l hi;exact⟨vs',acf g1 (hh.sep (j+1) (i+1) g zE zE zE (by rw[hg];rfl)),g2.mono fun a u _ ha=>ha.step ho' (fun k hk=> .inl hk)⟩
end
def aeM{l:List Value}:cK (.agg l.toArray) j=l.getD j undef:=rfl
def wW{v:Value}(h:w.ownsRow 0 e size v n vs)(hk:v.ownBlock=some k):k < w.heap.size:=by
 rcases h.2 with⟨rfl,_⟩|⟨g,_,_,rfl,_,hg,_⟩
 ·cases hk
 ·simp[Value.ownBlock]at hk;subst hk
  rw[Array.getElem?_eq_some_iff]at hg;exact hg.1
def Eff.apQ{X:Nat->Prop}{w':World}{b:Nat}{A:kL}{sV v:Value}{R:Nat->Value->Value->Prop}{pre:List (Nat×Ent)}{gones:List (Nat×Slot)}(hl:∀k,S k->k < w.heap.size)(hS:∀c e k,(c,e)∈pre->e.at E c k->S k)(hnot:∀e,(b,e)∉pre)(hg:∀c s,(c,s)∈gones->s= .gone/\∃e,(c,e)∈pre)(ho:Off (fun k=>∃c e,(c,e)∈pre/\e.at E c k) w w')(hA:A.has (E.blk b) sV X (fun k=>S k\/X k) w')(hX:∀k,X k->(∃c e,(c,e)∈pre/\e.at E c k)\/w.heap.size<=k)(hXl:∀k,X k->k < w'.heap.size)(hR:R (E.blk b) sV v)(hone:v.oneCell'=true):
  Eff E S w pre ⟨.it (.one (.rel b R)),gones++[(b,.ent (.abs A))]⟩ v w' ⟨E.blk,upd E.sl b sV,upd E.fp b X⟩ (fun k=>S k\/X k):=by
 have hSS:∀k,(S k\/X k)->S k\/w.heap.size<=k:=fun k hk=>hk.elim .inl fun hk=>(hX k hk).imp (fun⟨c,e,h1,h2⟩=>hS c e k h1 h2) id
 have hoS:Off S w w':=ho.mono fun k ⟨c,e,h1,h2⟩=>hS c e k h1 h2
 have hent:∀i e,(i,Slot.ent e)∈gones++[(b,Slot.ent (Ent.abs A))]->i=b/\e= .abs A:=by
  intro i e hi;rcases zyg.1 hi with hi|hi
  ·have:=(hg _ _ hi).1;cases this
  ·simp at hi;exact hi
 refine
  {env:=fun i hi=>?_,fpe:=fun i hi=>?_,sub:=fun k hk=> .inl hk,new:=hSS,lt:=fun k hk=>?_,off:=ho,res:=⟨by show R (E.blk b) (upd E.sl b sV b) v;rw[upd_same];exact hR,hone⟩,
   ents:=fun i e hi=>?_,blk:=fun i e k hi hk=>?_,sep:=fun i i' e e' k hne h1 h2=>?_}
 ·by_cases e:i=b
  ·subst e;obtain⟨e,he⟩:=hi ⟨_,by simp;exact .inr rfl⟩
   exact absurd he (hnot e)
  ·exact⟨rfl,upd_ne _ _ e⟩
 ·exact upd_ne _ _ fun e=>hi (.ent (.abs A)) (by simp[e])
 ·rcases hk with hk|hk
  ·exact zqf (hl k hk) ho.size
  ·exact hXl k hk
 ·obtain⟨rfl,rfl⟩:=hent i e hi;show A.has (E.blk i) (upd E.sl i sV i) (upd E.fp i X i) _ w';rw[upd_same,upd_same];exact hA
 ·obtain⟨rfl,rfl⟩:=hent i e hi;have hk':upd E.fp i X i k:=hk;rw[upd_same]at hk';exact⟨.inr hk',hX k hk'⟩
 ·obtain⟨rfl,_⟩:=hent _ _ h1;obtain⟨rfl,_⟩:=hent _ _ h2;exact absurd rfl hne
section
variable{α:Type}
structure apT(tI:TypeId)(size:Nat)(enc:α->List CA)(l:List α)(v:Value)(X S:Nat->Prop)(w:World):Prop where
 lit:(aP 1 1 [.val (cK v 1)]).has S w (cK v 0)
 row:∃vs,w.ownsRow 0 tI size (cK v 1) l.length vs/\aM (CA.has S w) (l.flatMap enc) vs
 X:∀k,X k↔(cK v 1).ownBlock=some k
def alh(tI:TypeId)(size:Nat)(enc:α->List CA)(l:List α):kL where
 has _ v X S w:=apT tI size enc l v X S w
 step:=fun {b v X S S' w w'} h ho hs hX=>by
  obtain⟨vs,h1,h2⟩:=h.row;exact⟨(aP 1 1 [.val (cK v 1)]).step h.lit ho hs,⟨vs,eD h1 fun k hk=>hX k ((h.X k).2 hk),h2.mono fun a u _ ha=>ha.step ho hs⟩,h.X⟩
end
def nZ.retm{a:Act}(hs:nZ C st E S a w){t:Nat}{v:AV}(hv:v.has E S w (a.tmps.getD t undef))(aq:∀b∈v.ids,(st.hp b).used=true):nZ C ⟨upd st.tm t (some v),st.hp⟩ E S a w:=
 {dfr:=hs.dfr,nt:=hs.nt,cT:=hs.cT,cT0:=hs.cT0,cS:=hs.cS,lt:=hs.lt
  tm:=fun i u hu=>by
   have hu':upd st.tm t (some v) i=some u:=hu;by_cases h:i=t
   ·subst h;rw[upd_same]at hu';cases hu';exact hv
   ·rw[upd_ne _ _ h]at hu';exact hs.tm i u hu'
  tid:=fun i u hu=>by
   have hu':upd st.tm t (some v) i=some u:=hu;by_cases h:i=t
   ·subst h;rw[upd_same]at hu';cases hu';exact aq
   ·rw[upd_ne _ _ h]at hu';exact hs.tid i u hu'
  hp:=hs.hp,aq:=hs.aq,blk:=hs.blk,sep:=hs.sep,off:=hs.off,env:=hs.env,gl:=hs.gl}
section
variable{P:Program}{C:Ctx}{st:St}{α:Type}
variable{ae aa:List Oper}{ab:List (List Nat×List Nat)}{K:List (List Nat×List Nat)->St->Prop}{an:Option Tmp}{d:Tmp}{op:Op}{ty t t':TypeId}{x y z:Operand}{k:IntKind}
def Go1.litH{r b:Nat}{enc:α->List CA}{l:List α}[ht:bF P t e 1][he:eZ P e [z0] bytes](hd:aC (some d) C.nt=true)(hx:st.tm r=some (.own b))(hb:st.hp b= .ent (.row tI size n ag))(hf:st.hp d= .free)(hn:n=l.length)(hc:ag=l.flatMap enc)(ai:Reg P C ae aa (st.app (some d) ⟨.it (.one (wm d 0)),[(b,.gone),(d,.ent (.abs (alh tI size enc l)))]⟩) (([b,d],[b,d])::ab) K):Go1 P C ae (some d) (.buildSlice t 1 #[(0,.tmp r)]) ty aa st ab K:=by
 subst hn hc;have hbd:d≠b:=by rintro rfl;rw[hf]at hb;cases hb
 refine⟨[b,d],_,fun o h2 h3 h4=>aT.eff [] [(b,.row tI size l.length (l.flatMap enc))] (fun c hc=>?_) (h2▸dP hd) (fun c e hc=>by cases hc) (fun c e hc=>?_) (fun c s hc=>?_) (fun c s hc=>?_) (fun st' E S a w hev hhp hs _ hpre=>?_),ai⟩
 ·rcases hc with⟨e,hc⟩|⟨e,hc⟩|⟨s,hc⟩
  ·cases hc
  ·simp at hc;simp[hc.1]
  ·simp at hc;rcases hc with hc|hc <;> simp[hc.1]
 ·simp at hc;obtain⟨rfl,rfl⟩:=hc;exact⟨hb,_,zq9⟩
 ·simp at hc;rcases hc with⟨rfl,rfl⟩|⟨rfl,rfl⟩
  ·exact .inl ⟨_,zq9⟩
  ·exact .inr hf
 ·simp at hc;rcases hc with⟨rfl,rfl⟩|⟨rfl,rfl⟩ <;> rfl
 ·have hx':st'.tm r=some (.own b):=(hev (.tmp r) (by rw[h3];simp[Op.operands])).trans hx
  obtain⟨hxv,h1⟩:AV.has E S w (.own b) (a.tmps.getD r undef):=hs.tm r _ hx';have hbe:=hpre b _ zq9;obtain⟨vs,hown,hvs⟩:=hs.hp b _ hbe;have hS:∀k,(E.sl b).ownBlock=some k->S k:=fun k hk=>(hs.blk b _ k hbe hk).1
  have hs2:=hs.retm (t:=r) (v:= .v (E.sl b)) hxv (fun i hi=>by cases hi)
  have hp:evp ⟨upd st'.tm r (some (AV.v (E.sl b))),st'.hp⟩ (#[(0,Operand.tmp r)]:Array (Nat×Operand)).toList=some [(0,.one (.c (.val (E.sl b))))]:=by
   show (match upd st'.tm r (some (AV.v (E.sl b))) r,some []with|some (.it v),some ps=>some ((0,v)::ps)|_,_=>none)=_
   rw[upd_same]
  have hone:(E.sl b).oneCell'=true:=abo hown;obtain⟨us,hrun,hlen,hall,hmx⟩:=run_parts (P:=P) (t:=t) (ht:=ht) (he:=he) (n:=1) (l:=[.c (.val (E.sl b))]) (m:=[.val (E.sl b)]) hs2 h3 hp (by simp[AV0.cells,Atom.dN,hone]) zc (by simp[gq,placesOf,madeCells,AV0.cells,spl]) rfl rfl
  have hus:us=[E.sl b]:=by
   match us,hall with
   |[u],h=>rw[show u=E.sl b from h.1]
  subst hus;have hsz:w.heap.size < (w.alloc (.cells #[E.sl b] e)).heap.size:=by simp
  refine⟨⟨fun i hi=>?_,fun c e hc i hi=>?_⟩,fun K Q hK=>?_⟩
  ·simp[AV.ids,AV0.ids,Atom.ids]at hi;subst hi;simp[fH,Slot.used]
  ·simp at hc
   obtain⟨rfl,rfl⟩:=hc;cases hi
  ·unfold Oper.wp;rw[hrun];have ho:=Off.alloc (fun k=>∃c e',(c,e')∈[(b,Ent.row tI size l.length (l.flatMap enc))]/\e'.at E c k) w (.cells #[E.sl b] e)
   refine hK _ _ _ _ (Eff.apQ (A:=alh tI size enc l) (sV:= .agg #[.slice (some ⟨w.heap.size,0,none⟩) 1 1,E.sl b]) (X:=fun k=>(E.sl b).ownBlock=some k) (R:=ahT 0) (gones:=[(b,.gone)]) hs.lt
    (fun c e' k hc hk=>by simp at hc;obtain⟨rfl,rfl⟩:=hc;exact hS k hk) (fun e' hc=>by simp at hc;exact hbd hc.1) (fun c s hc=>by simp at hc;obtain⟨rfl,rfl⟩:=hc;exact⟨rfl,_,zq9⟩) ho ?_ (fun k hk=> .inl ⟨b,_,zq9,hk⟩) (fun k hk=>Nat.lt_trans (wW hown hk) hsz) rfl rfl)
   have ho':=Off.alloc S w (.cells #[E.sl b] e);have hsub:∀k,(S k\/(E.sl b).ownBlock=some k)->S k\/w.heap.size<=k:=fun k hk=> .inl (hk.elim id (hS k))
   refine⟨?_,⟨vs,?_,hvs.mono fun a u _ ha=>ha.step ho' hsub⟩,fun k=>Iff.rfl⟩
   ·refine bQ.2 ⟨_,_,rfl,zq6 _,hmx,(fun h=>by cases h),rfl,fun i c hc=>?_⟩
    have hi:i=0:=by
     rcases i with _|i
     ·rfl
     ·simp at hc
    subst hi;cases hc;refine⟨w.heap.size,0,E.sl b,rfl,fun hS2=>absurd (hs.lt _ (hS2.elim id (hS _))) (Nat.lt_irrefl _),?_,rfl⟩
    exact cells_of_block (cs:=[E.sl b]) (heap_alloc_new w (.cells #[E.sl b] e)) 0 0 (E.sl b) rfl
   ·exact eD hown fun k hk=>Below.heap_alloc w _ k (wW hown hk)
def getD_lt{β:Type}{l m:List β}{u:β}(h:j < l.length):(l++m).getD j u=l.getD j u:=by
 rw[zx7,zx7,zyj h]
end
end
section
section
variable{ι:Type}
structure acZ(φ:ι->Prop)(t:TypeId)(ag:ι->List Atom)(R:ι->List (Nat×Ent))(bk:Nat)(X S:Nat->Prop)(w:World)(p:ι)(E:Env):Prop where
 φ:φ p
 box:∃cs:List Value,w.heap[bk]? =some (.cells cs.toArray t (0,0))/\aM (Atom.has E S w) (ag p) cs
 ents:∀i e,(i,e)∈R p->e.has E S w i
 sep:∀i i' e e' k,i≠i'->(i,e)∈R p->(i',e')∈R p->e.at E i k->¬e'.at E i' k
 sepb:∀i e,(i,e)∈R p->¬e.at E i bk
 X:∀k,X k↔k=bk\/∃i e,(i,e)∈R p/\e.at E i k
def oO(b:Nat)(φ:ι->Prop)(t:TypeId)(ag:ι->List Atom)(R:ι->List (Nat×Ent)):kL where
 has bk v X S w:=∃p E,(E.blk b=bk/\E.sl b=v)/\acZ φ t ag R bk X S w p E
 step:=fun {bk v X S S' w w'} ⟨p,E,hself,h⟩ ho hs hX=>by
  refine⟨p,E,hself,h.φ,?_,fun i e hi=>?_,h.sep,h.sepb,h.X⟩
  ·obtain⟨cs,h1,h2⟩:=h.box;exact⟨cs,by rw[hX bk ((h.X bk).2 (.inl rfl))];exact h1,h2.mono fun a u _ ha=>ha.step (fun _ _=>⟨rfl,rfl⟩) ho hs⟩
  ·exact(h.ents i e hi).step (fun _ _=>⟨rfl,rfl⟩) ⟨rfl,rfl⟩ ho hs (fun k hk=>hX k ((h.X k).2 (.inr ⟨i,e,hi,hk⟩))) rfl
def xG(st:St)(b:Nat)(t:TypeId)(ag:List Atom)(R:List (Nat×Ent)):St:=⟨st.tm,fH st.hp ((b,.ent (.box t ag))::R.map fun q=>(q.1,.ent q.2))⟩
def arS{b c:Nat}{ag:List Atom}{R:List (Nat×Ent)}{e:Ent}(h:(c,Slot.ent e)∈((b,Slot.ent (.box t ag))::R.map fun q=>(q.1,Slot.ent q.2))):(c=b/\e= .box t ag)\/(c,e)∈R:=by
 rcases zy3.1 h with h|h
 ·cases h;exact .inl ⟨rfl,rfl⟩
 ·obtain⟨q,hq,he⟩:=zqg.1 h;cases he;exact .inr hq
def Sat.aiZ{a:Act}{b:Nat}{φ:ι->Prop}{ag:ι->List Atom}{R:ι->List (Nat×Ent)}(ns:List Nat)(h:Sat C st a w)(hb:st.hp b= .ent (.abs (oO b φ t ag R)))(hns:∀p,(R p).map (·.1)=ns)(hfree:∀i∈ns,st.hp i= .free)(hfix:∀i∈ns,C.fix i=false)(aq:∀p,∀i∈(ag p).flatMap Atom.ids,i∈ns\/i=b)(hRid:∀p i e,(i,e)∈R p->e.ids=[]):∃p,φ p/\Sat C (xG st b t (ag p) (R p)) a w:=by
 obtain⟨E,S,hs⟩:=h;obtain⟨p,Ep,⟨hself1,hself2⟩,hB⟩:∃(p:ι) (Ep:Env),(Ep.blk b=E.blk b/\Ep.sl b=E.sl b)/\acZ φ t ag R (E.blk b) (E.fp b) S w p Ep:=hs.hp b _ hb;refine⟨p,hB.φ,?_⟩;generalize hcp:ag p=cs0 at*;have hnsR:∀i e,(i,e)∈R p->i∈ns:=fun i e hi=>by rw[<-hns p];exact zqg.2 ⟨_,hi,rfl⟩
 have hun:∀i,(st.hp i).used=true->i∉ns:=fun i hi hin=>by rw[hfree i hin]at hi;cases hi
 have hbn:b∉ns:=hun b (by rw[hb];rfl)
 let E':Env:=⟨fun i=>if i∈ns then Ep.blk i else E.blk i,fun i=>if i∈ns then Ep.sl i else E.sl i,fun i=>if i∈ns then Ep.fp i else E.fp i⟩
 have at1:∀i,i∉ns->E.at' E' i:=fun i hi=>⟨if_neg hi,if_neg hi⟩
 have fp1:∀i,i∉ns->E'.fp i=E.fp i:=fun i hi=>if_neg hi
 have at2:∀i,i∈ns->Ep.at' E' i:=fun i hi=>⟨if_pos hi,if_pos hi⟩
 have fp2:∀i,i∈ns->E'.fp i=Ep.fp i:=fun i hi=>if_pos hi
 have at3:∀i,i∈ns\/i=b->Ep.at' E' i:=fun i hi=>by
  rcases hi with hi|rfl
  ·exact at2 i hi
  ·exact⟨(at1 i hbn).1.trans hself1.symm,(at1 i hbn).2.trans hself2.symm⟩
 have hids:∀i∈cs0.flatMap Atom.ids,i∈ns\/i=b:=fun i hi=>aq p i (by rw[hcp];exact hi)
 have hbox:=hB.box;rw[hcp]at hbox;have hused:∀i,((st.hp i).used=true\/i∈ns)->((xG st b t cs0 (R p)).hp i).used=true:=by
  intro i hi;show (fH st.hp _ i).used=true;rcases gY i ((b,.ent (.box t cs0))::(R p).map fun q=>(q.1,.ent q.2)) st.hp with⟨s,g1,g2⟩|⟨g1,g2⟩
  ·rw[g2];rcases zy3.1 g1 with h|h
   ·cases h;rfl
   ·obtain⟨q,_,he⟩:=zqg.1 h;cases he;rfl
  ·rw[g2];rcases hi with hi|hi
   ·exact hi
   ·rw[<-hns p]at hi;obtain⟨q,hq,rfl⟩:=zqg.1 hi;exact absurd (zy2 _ (zqg.2 ⟨q,hq,rfl⟩)) (g1 _)
 have hcase:∀c e,(xG st b t cs0 (R p)).hp c= .ent e->((c=b/\e= .box t cs0)\/(c,e)∈R p)\/(c≠b/\c∉ns/\st.hp c= .ent e):=by
  intro c e hc;rcases gY c ((b,.ent (.box t cs0))::(R p).map fun q=>(q.1,.ent q.2)) st.hp with⟨s,g1,g2⟩|⟨g1,g2⟩
  ·have:s= .ent e:=g2.symm.trans hc;subst this;exact .inl (arS g1)
  ·have h3:st.hp c= .ent e:=g2.symm.trans hc;refine .inr ⟨?_,hun c (by rw[h3];rfl),h3⟩
   rintro rfl;exact g1 _ zq9
 have hX:∀(c:Nat) (e:Ent) (k:Nat),((c=b/\e= .box t cs0)\/(c,e)∈R p)->e.at E' c k->E.fp b k:=by
  intro c e k hc hk;rcases hc with⟨rfl,rfl⟩|hc
  ·have hk':some (E'.blk c)=some k:=hk;rw[(at1 c hbn).1]at hk';exact(hB.X k).2 (.inl (zy7 hk').symm)
  ·rw[Ent.gV (at2 c (hnsR c e hc)) (fp2 c (hnsR c e hc))]at hk;exact(hB.X k).2 (.inr ⟨c,e,hc,hk⟩)
 have hother:∀(c:Nat) (e:Ent) (k:Nat),c∉ns->e.at E' c k->e.at E c k:=fun c e k hc hk=>by rw[Ent.gV (at1 c hc) (fp1 c hc)]at hk;exact hk
 refine⟨E',S,{dfr:=hs.dfr,nt:=hs.nt,cT:=hs.cT,cT0:=hs.cT0,cS:=hs.cS,lt:=hs.lt,tm:=fun i v hv=>?_,tid:=fun i v hv j hj=>hused j (.inl (hs.tid i v hv j hj)),hp:=fun c e hc=>?_,aq:=fun c e hc i hi=>?_,blk:=fun c e k hc hk=>?_,sep:=fun c c' e e' k hne hc hc' hk hk'=>?_,off:=hs.off,env:=fun c hc=>?_,gl:=hs.gl}⟩
 ·exact(hs.tm i v hv).step (fun j hj=>at1 j (hun j (hs.tid i v hv j hj))) (Off.refl S w) (fun k hk=> .inl hk)
 ·rcases hcase c e hc with(⟨rfl,rfl⟩|hR)|⟨_,hcn,h3⟩
  ·obtain⟨cs,h1,h2⟩:=hbox;refine⟨cs,by rw[(at1 c hbn).1];exact h1,h2.mono fun x u hx ha=>ha.step (fun j hj=>at3 j (hids j (zx9.2 ⟨x,hx,hj⟩))) (Off.refl S w) (fun k hk=> .inl hk)⟩
  ·have hin:=hnsR c e hR;exact(hB.ents c e hR).step (fun j hj=>by rw[hRid p c e hR]at hj;cases hj) (at2 c hin) (Off.refl S w) (fun k hk=> .inl hk) (fun _ _=>rfl) (fp2 c hin)
  ·exact(hs.hp c e h3).step (fun j hj=>at1 j (hun j (hs.aq c e h3 j hj))) (at1 c hcn) (Off.refl S w) (fun k hk=> .inl hk) (fun _ _=>rfl) (fp1 c hcn)
 ·rcases hcase c e hc with(⟨rfl,rfl⟩|hR)|⟨_,hcn,h3⟩
  ·rcases hids i hi with h|rfl
   ·exact hused i (.inr h)
   ·exact hused i (.inl (by rw[hb];rfl))
  ·rw[hRid p c e hR]at hi;cases hi
  ·exact hused i (.inl (hs.aq c e h3 i hi))
 ·rcases hcase c e hc with hL|⟨_,hcn,h3⟩
  ·exact hs.blk b _ k hb (hX c e k hL hk)
  ·exact hs.blk c e k h3 (hother c e k hcn hk)
 ·rcases hcase c e hc with hL|⟨hcb,hcn,h3⟩
  ·rcases hcase c' e' hc' with hL'|⟨hcb',hcn',h3'⟩
   ·rcases hL with⟨rfl,rfl⟩|hR
    ·rcases hL' with⟨rfl,_⟩|hR'
     ·exact hne rfl
     ·have hk1:some (E'.blk c)=some k:=hk;rw[(at1 c hbn).1]at hk1;cases hk1;rw[Ent.gV (at2 c' (hnsR c' e' hR')) (fp2 c' (hnsR c' e' hR'))]at hk';exact hB.sepb c' e' hR' hk'
    ·rw[Ent.gV (at2 c (hnsR c e hR)) (fp2 c (hnsR c e hR))]at hk;rcases hL' with⟨rfl,rfl⟩|hR'
     ·have hk1:some (E'.blk c')=some k:=hk';rw[(at1 c' hbn).1]at hk1;cases hk1;exact hB.sepb c e hR hk
     ·rw[Ent.gV (at2 c' (hnsR c' e' hR')) (fp2 c' (hnsR c' e' hR'))]at hk';exact hB.sep c c' e e' k hne hR hR' hk hk'
   ·exact hs.sep b c' _ e' k (fun e=>hcb' e.symm) hb h3' (hX c e k hL hk) (hother c' e' k hcn' hk')
  ·rcases hcase c' e' hc' with hL'|⟨hcb',hcn',h3'⟩
   ·exact hs.sep c b e _ k hcb h3 hb (hother c e k hcn hk) (hX c' e' k hL' hk')
   ·exact hs.sep c c' e e' k hne h3 h3' (hother c e k hcn hk) (hother c' e' k hcn' hk')
 ·obtain⟨g1,g2,g3⟩:=hs.env c hc;have hcn:c∉ns:=fun h=>by rw[hfix c h]at hc;cases hc
  exact⟨(at1 c hcn).1.trans g1,(at1 c hcn).2.trans g2,hused c (.inl g3)⟩
end
def aB(ρ:List (Nat×Option Nat))(x y:Atom):Prop:=∀E S w v,x.has E S w v->y.has (dX ρ E) S w v
def pF(ρ:List (Nat×Option Nat)):List Atom->List Atom->Prop
 |[],[]=>True
 |a::l,b::m=>aB ρ a b/\pF ρ l m
 |_,_=>False
def aB.same{ρ:List (Nat×Option Nat)}{x:Atom}(h:fresh ρ x.ids=true):aB ρ x x:=fun E S w v hv=>hv.env (xZ h E)
def aB.own{ρ:List (Nat×Option Nat)}{o b:Nat}(h:lk ρ b=some (some o)):aB ρ (.own o) (.own b):=fun E S w v hv=>by
 obtain⟨h1,h2⟩:=hv;exact⟨by simp only[dX,h];exact h1,h2⟩
def aB.rel{ρ:List (Nat×Option Nat)}{o b:Nat}{R:Nat->Value->Value->Prop}(h:lk ρ b=some (some o)):aB ρ (.rel o R) (.rel b R):=fun E S w v hv=>by
 obtain⟨h1,h2⟩:=hv;exact⟨by simp only[dX,h];exact h1,h2⟩
def aB.nil{ρ:List (Nat×Option Nat)}{b:Nat}(h:lk ρ b=some none):aB ρ (.c (.val (.slice none 0 0))) (.own b):=fun E S w v hv=>by
 have hv':v= .slice none 0 0:=hv;subst hv';exact⟨by simp only[dX,h],rfl⟩
def aB.azi{ρ:List (Nat×Option Nat)}{b:Nat}(h:lk ρ b=some none):aB ρ (.c (.val (.slice none 0 0))) (.rel b (ahT 0)):=fun E S w v hv=>by
 have hv':v= .slice none 0 0:=hv;subst hv';exact⟨by simp only[dX,h];rfl,rfl⟩
def pF.all{ρ:List (Nat×Option Nat)}{E:Env}{S:Nat->Prop}{w:World}:∀{l m:List Atom} {vs:List Value},pF ρ l m->aM (Atom.has E S w) l vs->aM (Atom.has (dX ρ E) S w) m vs
 |[],[],[],_,_=>trivial
 |a::l,b::m,v::vs,h,k=>⟨h.1 E S w v k.1,h.2.all k.2⟩
 |[],[],_::_,_,k=>k.elim
 |_::_,_::_,[],_,k=>k.elim
 |[],_::_,_,h,_=>h.elim
 |_::_,[],_,h,_=>h.elim
def ay.jE{ρ:List (Nat×Option Nat)}{b:Nat}{ag:List Atom}(h:st.hp b= .ent (.box t cells0))(hf:fresh ρ [b]=true)(hi:pF ρ cells0 ag):ay st ρ b (.box t ag):=by
 have ha:=xZ hf;refine .old b _ h (.inr ⟨?_,rfl⟩) (fun E S w hh=>?_) (fun E=>by funext k;simp only[Ent.at,(ha E b zq9).1])
 ·have:=zqh.1 hf b zq9;simpa using this
 ·obtain⟨cs,h1,h2⟩:=hh;exact⟨cs,by rw[(ha E b zq9).1];exact h1,hi.all h2⟩
def ay.av4{α:Type}{ρ:List (Nat×Option Nat)}{b:Nat}{enc:α->List CA}(hb:lk ρ b=some none):ay st ρ b (.abs (iK tO tI size enc [] [])):=by
 have e0:cK (.slice none 0 0) 0= .slice none 0 0:=rfl;refine .nil hb (fun E S w=>?_) (fun E k=>?_)
 ·show nC tO tI size enc [] [] ((dX ρ E).sl b) ((dX ρ E).fp b) S w;simp only[dX,hb];refine⟨World.ownsRow_nil ..,(fun j hj=>by cases hj),(fun j l hj=>by simp at hj),fun i j k hi hj hij h=>?_,fun k=>⟨fun h=>h.elim,fun⟨i,hi,h⟩=>?_⟩⟩
  ·have h0:i=0:=by simpa using hi
   subst h0;rw[e0]at h;cases h
  ·have h0:i=0:=by simpa using hi
   subst h0;rw[e0]at h;cases h
 ·simp only[Ent.at,dX,hb];intro h;cases h
structure Hide(p:Prop):Prop where
 out:p
def nP(st:St)(b:Nat)(A:kL)(os:List Nat):St:=⟨st.tm,fH st.hp ((b,.ent (.abs A))::os.map fun o=>(o,.gone))⟩
def St.acL{ι:Type}{b:Nat}{φ:ι->Prop}{ag:ι->List Atom}{R:ι->List (Nat×Ent)}(p:ι)(ρ:List (Nat×Option Nat))(os:List Nat)(hφ:φ p)(hb:st.hp b= .ent (.box t cells0))(hc:pF ρ cells0 (ag p))(hR:acQ st ρ (R p))(hos:((R p).all fun q=>match SX.src ρ q.1 with|some o=>jw os o|none=>true)=true)(hbo:jw os b=false)(hdi:((R p).all fun q=>(R p).all fun q'=>Nat.beq q.1 q'.1||!(eqO (SX.src ρ q.1) (SX.src ρ q'.1)))=true)(hfb:lk ρ b=none:=by rfl):St.le C st (nP st b (oO b φ t ag R) os):=by
 intro a w ⟨E,S,hs⟩
 let X:Nat->Prop:=fun k=>k=E.blk b\/∃i e,(i,e)∈R p/\Ent.at e (dX ρ E) i k
 have hbox:Ent.has E S w b (.box t cells0):=hs.hp b _ hb;have hsrc:∀i e k,(i,e)∈R p->e.at (dX ρ E) i k->∃o e0,SX.src ρ i=some o/\o∈os/\st.hp o= .ent e0/\e0.at E o k:=by
  intro i e k hi hk;rcases(hR.mem i e hi).src with⟨o,e0,so,ho,hk0⟩|hk0
  ·have:=zqh.1 hos _ hi;simp only[so]at this;rw[hk0]at hk;exact⟨o,e0,so,fD.1 this,ho,hk⟩
  ·exact absurd hk (hk0 E k)
 have hbn:b∉os:=fun h=>by rw[fD.2 h]at hbo;cases hbo
 have hB:acZ φ t ag R (E.blk b) X S w p (dX ρ E):=by
  refine⟨hφ,?_,fun i e hi=>?_,fun i i' e e' k hne hi hi' hk hk'=>?_,fun i e hi hk=>?_,fun k=>Iff.rfl⟩
  ·obtain⟨cs,h1,h2⟩:=hbox;exact⟨cs,h1,hc.all h2⟩
  ·cases hR.mem i e hi with
   |old o e0 ho _ hh hk=>exact hh _ _ _ (hs.hp o e0 ho)
   |nil _ hh _=>exact hh _ _ _
  ·obtain⟨o,e0,so,_,ho,g1⟩:=hsrc i e k hi hk;obtain⟨o',e0',so',_,ho',g1'⟩:=hsrc i' e' k hi' hk';have:=zqh.1 (zqh.1 hdi _ hi) _ hi';rw[so,so']at this;have hno:o≠o':=by
    intro e;subst e;simp[eqO,hne]at this
   exact hs.sep o o' e0 e0' k hno ho ho' g1 g1'
  ·obtain⟨o,e0,so,hoo,ho,g1⟩:=hsrc i e _ hi hk;exact hs.sep o b e0 _ _ (fun h=>hbn (h▸hoo)) ho hb g1 rfl
 let E':Env:=⟨E.blk,E.sl,upd E.fp b X⟩
 have hat:∀i,E.at' E' i:=fun i=>⟨rfl,rfl⟩
 have hfp:∀i,i≠b->E'.fp i=E.fp i:=fun i hi=>upd_ne _ _ hi
 have hcase:∀c e,(nP st b (oO b φ t ag R) os).hp c= .ent e->(c=b/\e= .abs (oO b φ t ag R))\/(c≠b/\c∉os/\st.hp c= .ent e):=by
  intro c e hc;rcases gY c ((b,.ent (.abs (oO b φ t ag R)))::os.map fun o=>(o,.gone)) st.hp with⟨s,g1,g2⟩|⟨g1,g2⟩
  ·have:s= .ent e:=g2.symm.trans hc;subst this;rcases zy3.1 g1 with h|h
   ·cases h;exact .inl ⟨rfl,rfl⟩
   ·obtain⟨q,_,he⟩:=zqg.1 h;cases he
  ·refine .inr ⟨?_,fun h=>g1 .gone (zy2 _ (zqg.2 ⟨c,h,rfl⟩)),g2.symm.trans hc⟩
   rintro rfl;exact g1 _ zq9
 have hused:∀i,(st.hp i).used=true->((nP st b (oO b φ t ag R) os).hp i).used=true:=by
  intro i hi;show (fH st.hp _ i).used=true;rcases gY i ((b,.ent (.abs (oO b φ t ag R)))::os.map fun o=>(o,.gone)) st.hp with⟨s,g1,g2⟩|⟨g1,g2⟩
  ·rw[g2];rcases zy3.1 g1 with h|h
   ·cases h;rfl
   ·obtain⟨q,_,he⟩:=zqg.1 h;cases he;rfl
  ·rw[g2];exact hi
 have hXS:∀k,X k->S k/\(C.B k\/C.w0.heap.size<=k):=by
  intro k hk;rcases hk with rfl|⟨i,e,hi,hk⟩
  ·exact hs.blk b _ _ hb rfl
  ·obtain⟨o,e0,_,_,ho,g1⟩:=hsrc i e k hi hk;exact hs.blk o e0 k ho g1
 have hXo:∀c e k,c≠b->c∉os->st.hp c= .ent e->X k->¬e.at E c k:=by
  intro c e k hcb hco hc hk;rcases hk with rfl|⟨i,e',hi,hk⟩
  ·exact fun h=>hs.sep c b e _ _ hcb hc hb h rfl
  ·obtain⟨o,e0,_,hoo,ho,g1⟩:=hsrc i e' k hi hk;exact hs.sep o c e0 e k (fun h=>hco (h▸hoo)) ho hc g1
 have hother:∀(c:Nat) (e:Ent) (k:Nat),c≠b->e.at E' c k->e.at E c k:=fun c e k hc hk=>by rw[Ent.gV (hat c) (hfp c hc)]at hk;exact hk
 have hmine:∀k,(Ent.abs (oO b φ t ag R)).at E' b k->X k:=fun k hk=>by
  have hk':upd E.fp b X b k:=hk;rw[upd_same]at hk';exact hk'
 refine⟨E',S,{dfr:=hs.dfr,nt:=hs.nt,cT:=hs.cT,cT0:=hs.cT0,cS:=hs.cS,lt:=hs.lt,tm:=fun i v hv=>?_,tid:=fun i v hv j hj=>hused j (hs.tid i v hv j hj),hp:=fun c e hc=>?_,aq:=fun c e hc i hi=>?_,blk:=fun c e k hc hk=>?_,sep:=fun c c' e e' k hne hc hc' hk hk'=>?_,off:=hs.off,env:=fun c hc=>?_,gl:=hs.gl}⟩
 ·exact(hs.tm i v hv).step (fun j hj=>hat j) (Off.refl S w) (fun k hk=> .inl hk)
 ·rcases hcase c e hc with⟨rfl,rfl⟩|⟨hcb,_,h3⟩
  ·show∃(p':ι) (Ep:Env),(Ep.blk c=E.blk c/\Ep.sl c=E.sl c)/\acZ φ t ag R (E.blk c) (upd E.fp c X c) S w p' Ep;rw[upd_same];exact⟨p,_,⟨by simp only[dX,hfb],by simp only[dX,hfb]⟩,hB⟩
  ·exact(hs.hp c e h3).step (fun j hj=>hat j) (hat c) (Off.refl S w) (fun k hk=> .inl hk) (fun _ _=>rfl) (hfp c hcb)
 ·rcases hcase c e hc with⟨rfl,rfl⟩|⟨hcb,_,h3⟩
  ·cases hi
  ·exact hused i (hs.aq c e h3 i hi)
 ·rcases hcase c e hc with⟨rfl,rfl⟩|⟨hcb,_,h3⟩
  ·exact hXS k (hmine k hk)
  ·exact hs.blk c e k h3 (hother c e k hcb hk)
 ·rcases hcase c e hc with⟨rfl,rfl⟩|⟨hcb,hco,h3⟩
  ·rcases hcase c' e' hc' with⟨rfl,rfl⟩|⟨hcb',hco',h3'⟩
   ·exact hne rfl
   ·exact hXo c' e' k hcb' hco' h3' (hmine k hk) (hother c' e' k hcb' hk')
  ·rcases hcase c' e' hc' with⟨rfl,rfl⟩|⟨hcb',hco',h3'⟩
   ·exact hXo c e k hcb hco h3 (hmine k hk') (hother c e k hcb hk)
   ·exact hs.sep c c' e e' k hne h3 h3' (hother c e k hcb hk) (hother c' e' k hcb' hk')
 ·obtain⟨g1,g2,g3⟩:=hs.env c hc;exact⟨g1,g2,hused c g3⟩
def WP.aiZ{ι:Type}{P:Program}{C:Ctx}{st:St}{Q:Exit->St->Prop}{c:Code}{b:Nat}{φ:ι->Prop}{t:TypeId}{ag:ι->List Atom}{R:ι->List (Nat×Ent)}(ns:List Nat)(hb:st.hp b= .ent (.abs (oO b φ t ag R)))(hns:∀p,(R p).map (·.1)=ns)(hfree:∀i∈ns,st.hp i= .free)(hfix:∀i∈ns,C.fix i=false)
  (aq:∀p,∀i∈(ag p).flatMap Atom.ids,i∈ns\/i=b) (hRid:∀p i e,(i,e)∈R p->e.ids=[]) (h:∀p,φ p->WP P C c (xG st b t (ag p) (R p)) Q):WP P C c st Q:=fun a w hs=>by
 obtain⟨p,hp,hs'⟩:=Sat.aiZ ns hs hb hns hfree hfix aq hRid;exact h p hp a w hs'
end
section
section
variable{P:Program}{C:Ctx}{st:St}{α:Type}
variable{ae aa:List Oper}{ab:List (List Nat×List Nat)}{K:List (List Nat×List Nat)->St->Prop}{an:Option Tmp}{d:Tmp}{op:Op}{ty t t':TypeId}{x y z:Operand}{k:IntKind}
end
end
section
def aaN:∀m:List CA,aV (m.map Atom.c)=some m
 |[]=>rfl
 |c::m=>by simp[aV,aaN m]
def ah6{ag:List Atom}(h:ag=m.map Atom.c):aV ag=some m:=by rw[h];exact aaN m
section
variable{P:Program}{C:Ctx}{st:St}{α:Type}
variable{ae aa:List Oper}{ab:List (List Nat×List Nat)}{K:List (List Nat×List Nat)->St->Prop}{an:Option Tmp}{d:Tmp}{op:Op}{ty t t':TypeId}{x y z:Operand}{k:IntKind}
def G.lenH{A:kL}{b sz:Nat}[ht:bF P t e sz](ai:Reg P C ae aa (st.app an ⟨.v (.int .i64 (n:Int)),[]⟩) (([b],[])::ab) K)(hd:aC an C.nt=true:=by rfl)(hx:st.ev x=some (.it (.one (.rel b (ahT i)))):=by rfl)(hb:st.hp b= .ent (.abs A):=by rfl)(hA:nk A i e size n:=by first|exact SX.nk.out|exact SX.nk.inn (by assumption)):Go1 P C ae an (.call ⟨.builtin .len,#[x],#[t]⟩) ty aa st ab K:=
 Go1.dz [(b,.abs A)] [b] (fun c e' hc=>by simp at hc;simp[hc.1]) hd (fun c e' hc=>by simp at hc;obtain⟨rfl,rfl⟩:=hc;exact hb) (fun o ho _ st' E S a w hev hs hrd=>by
  obtain⟨⟨hxv,_⟩,_⟩:=hs.ev ((hev x (by simp[ho,Op.operands,Call.operands])).trans hx)
  obtain⟨vs,hown⟩:=hA _ _ _ _ _ (hs.hp b _ (hrd b _ zq9));have hxv':a.eval x=cK (E.sl b) i:=hxv;refine⟨fun i hi=>(by cases hi),.int .i64 (n:Int),?_,rfl⟩
  unfold execOp;rw[ho];rcases hown.2 with⟨hv,rfl⟩|⟨g,am,cur,hv,_⟩
  ·simp[resolve,invoke,builtin,Builtin.len_,run_underlying ht.h,hxv',hv,goInt]
  ·simp[resolve,invoke,builtin,Builtin.len_,run_underlying ht.h,hxv',hv,goInt]) ai
def G.rG{A:kL}{b:Nat}[ht:bF P t e size](ai:Reg P C ae aa (st.app an ⟨.it (.one (.rel b (uO j (i*size)))),[]⟩) (([b],[])::ab) K)(hd:aC an C.nt=true:=by rfl)(hx:st.ev x=some (.it (.one (.rel b (ahT j)))):=by rfl)(hb:st.hp b= .ent (.abs A):=by rfl)(hA:nk A j e size n:=by first|exact SX.nk.out|exact SX.nk.inn (by assumption))(hy:st.ev y=some (.v (.int k (i:Int))):=by rfl)(hi:i < n:=by omega):Go1 P C ae an (.indexAddr t x y) ty aa st ab K:=
 Go1.dz [(b,.abs A)] [b] (fun c e' hc=>by simp at hc;simp[hc.1]) hd (fun c e' hc=>by simp at hc;obtain⟨rfl,rfl⟩:=hc;exact hb) (fun o ho _ st' E S a w hev hs hrd=>by
  obtain⟨⟨hxv,_⟩,aq⟩:=hs.ev ((hev x (by simp[ho,Op.operands])).trans hx)
  have hxv':a.eval x=cK (E.sl b) j:=hxv;have hyv:a.eval y= .int k (i:Int):=(hs.ev ((hev y (by simp[ho,Op.operands])).trans hy)).1
  obtain⟨vs,hown⟩:=hA _ _ _ _ _ (hs.hp b _ (hrd b _ zq9));have hsz:=run_sizeOf ht.s w;rcases hown.2 with⟨_,h0⟩|⟨g,am,cur,hv,_⟩
  ·omega
  ·refine⟨aq,.pointer (some ⟨g,i*size,none⟩),?_,⟨g,n,am,hv,rfl⟩,rfl⟩;unfold execOp;rw[ho];simp[hxv',hv,hyv,Instr.indexAt,asIntOf,run_underlying ht.h,hsz,Addr.add_lit,hi]) ai
def G.aly{tO tI:TypeId}{b size i j:Nat}{enc:α->List CA}{js:List Nat}{c:List (List α)}[ht:iT P t](ai:Reg P C ae aa (st.app an ⟨.it (.one (wm b (j+1))),[]⟩) (([b],[])::ab) K)(hd:aC an C.nt=true:=by rfl)(hx:st.ev x=some (.it (.one (.rel b (uO 0 (i*1))))):=by rfl)(hb:st.hp b= .ent (.abs (iK tO tI size enc js c)):=by rfl)(hj:js[i]? =some j:=by assumption):Go1 P C ae an (.load t x) ty aa st ab K:=
 Go1.aly hd hx hb (by rw[Nat.mul_one];exact hj) ai
def G.afK{tO tI:TypeId}{b size i j:Nat}{enc:α->List CA}{js:List Nat}{c:List (List α)}(ai:Reg P C ae aa (st.app none ⟨.v undef,[(b,.ent (.abs (iK tO tI size enc (js.set i j) c)))]⟩) (([b],[b])::ab) K)(hs:(P.info? t).map (·.size)=some 1:=by kernel_rfl)(hx:st.ev x=some (.it (.one (.rel b (uO 0 (i*1))))):=by rfl)(hy:st.ev y=some (.it (.one (wm b (j+1)))):=by rfl)(hb:st.hp b= .ent (.abs (iK tO tI size enc js c)):=by rfl)(ho:i < js.length:=by first|omega|(rw[zvf];omega))(hj:j < c.length:=by first|assumption|omega):Go1 P C ae none (.store t x y) ty aa st ab K:=
 Go1.afK hs hx hy hb (off:=i*1) (by rw[Nat.mul_one];exact ho) hj (by rw[Nat.mul_one];exact ai)
def G.abn{tO tI:TypeId}{b size i j:Nat}{enc:α->List CA}{js:List Nat}{c:List (List α)}{v:AV0}{r:List α}{a:α}[he:dY enc size](ai:Reg P C ae aa (st.app none ⟨.v undef,[(b,.ent (.abs (iK tO tI size enc js (c.set j (r.set i a)))))]⟩) (([b],[b])::ab) K)(hs:(P.info? t).map (·.size)=some size:=by kernel_rfl)(hx:st.ev x=some (.it (.one (.rel b (uO (j+1) (i*size))))):=by rfl)(hy:st.ev y=some (.it v):=by rfl)(hb:st.hp b= .ent (.abs (iK tO tI size enc js c)):=by rfl)
  (hv:v.cells=(enc a).map Atom.c:=by rfl) (h1:v.cells.all Atom.dN=true:=by rfl) (hj:c[j]? =some r:=by assumption) (hi:i < r.length:=by omega):Go1 P C ae none (.store t x y) ty aa st ab K:=
 Go1.abn hs hx hy hb (by rw[hv,zq5];exact he.h a) h1 (ah6 hv) hj (zvf ..) (by have:=zx1 size (show i+1<=r.length from hi);rw[zv8]at this;exact this) (tN r i a hi) ai
def G.qJ{enc:α->List CA}{l:List α}{a:α}{v:AV0}{b:Nat}[he:dY enc size](ai:Reg P C ae aa (st.app none ⟨.v undef,[(b,.ent (.row e size n ((l.set i a).flatMap enc)))]⟩) (([b],[b])::ab) K)(hs:(P.info? t).map (·.size)=some size:=by kernel_rfl)(hx:st.ev x=some (.it (.one (.rptr b (i*size)))):=by rfl)(hy:st.ev y=some (.it v):=by rfl)(hb:st.hp b= .ent (.row e size n (l.flatMap enc)):=by rfl)(hv:v.cells=(enc a).map Atom.c:=by rfl)(h1:v.cells.all Atom.dN=true:=by rfl)(hi:i < l.length:=by omega)(hn:n=l.length:=by first|rfl|omega):Go1 P C ae none (.store t x y) ty aa st ab K:=
 Go1.aaz hs hx hy hb (by rw[hv,zq5];exact he.h a) (by subst hn;have:=zx1 size (show i+1<=l.length from hi);rw[zv8]at this;exact this) h1 (ah6 hv) (tN l i a hi) ai
def G.abz{b b2:Nat}{enc:α->List CA}{c:List (List α)}{l:List α}[ht:bF P t tO 1][he:eZ P tO [z0] bytes](ai:Reg P C ae aa (st.app (some d) ⟨.it (.one (wm d 0)),[(b,.gone),(b2,.gone),(d,.ent (.abs (iK tO tI size enc (js++[c.length]) (c++[l]))))]⟩) (([b,b2,d],[b,b2,d])::ab) K)(hd:aC (some d) C.nt=true:=by rfl)(hx:st.ev x=some (.it (.one (wm b 0))):=by rfl)(hy:st.ev y=some (.it (.one (wm b2 0))):=by rfl)(hb:st.hp b= .ent (.abs (iK tO tI size enc js c)):=by rfl)(hb2:st.hp b2= .ent (.abs (alh tI size enc l)):=by rfl)(hbb:b≠b2:=by decide)(hf:st.hp d= .free:=by rfl)(h63:js.length+1<=9223372036854775807:=by omega)(hbytes:(js.length+1)*bytes<=140737488355328:=by omega):Go1 P C ae (some d) (.call ⟨.builtin .append,#[x,y],#[t,t]⟩) ty aa st ab K:=by
 have hbd:d≠b:=by rintro rfl;rw[hf]at hb;cases hb
 have hbd2:d≠b2:=by rintro rfl;rw[hf]at hb2;cases hb2
 refine⟨[b,b2,d],_,fun o h2 h3 h4=>aT.eff [] [(b,.abs (iK tO tI size enc js c)),(b2,.abs (alh tI size enc l))] (fun i hi=>?_) (h2▸dP hd) (fun c e hc=>by cases hc) (fun i e hi=>?_) (fun i s hi=>?_) (fun i s hi=>?_) (fun st' E S a w hev hhp hs _ hpre=>?_),ai⟩
 ·rcases hi with⟨e,hi⟩|⟨e,hi⟩|⟨s,hi⟩
  ·cases hi
  ·simp at hi;rcases hi with hi|hi <;> simp[hi.1]
  ·simp at hi;rcases hi with hi|hi|hi <;> simp[hi.1]
 ·simp at hi;rcases hi with⟨rfl,rfl⟩|⟨rfl,rfl⟩
  ·exact⟨hb,.gone,by simp⟩
  ·exact⟨hb2,.gone,by simp⟩
 ·simp at hi;rcases hi with⟨rfl,rfl⟩|⟨rfl,rfl⟩|⟨rfl,rfl⟩
  ·exact .inl ⟨_,zq9⟩
  ·exact .inl ⟨_,zy2 _ zq9⟩
  ·exact .inr hf
 ·simp at hi;rcases hi with⟨rfl,rfl⟩|⟨rfl,rfl⟩|⟨rfl,rfl⟩ <;> rfl
 ·obtain⟨⟨hxv,_⟩,_⟩:=hs.ev ((hev x (by simp[h3,Op.operands,Call.operands])).trans hx)
  obtain⟨⟨hyv,_⟩,_⟩:=hs.ev ((hev y (by simp[h3,Op.operands,Call.operands])).trans hy)
  have hxv:a.eval x=cK (E.sl b) 0:=hxv;have hyv:a.eval y=cK (E.sl b2) 0:=hyv;have hbe:=hpre b (.abs (iK tO tI size enc js c)) zp
  have hbe2:=hpre b2 (.abs (alh tI size enc l)) zp
  have hR:nC tO tI size enc js c (E.sl b) (E.fp b) S w:=hs.hp b _ hbe;have hL:apT tI size enc l (E.sl b2) (E.fp b2) S w:=hs.hp b2 _ hbe2;have hsep:∀k,E.fp b k->¬E.fp b2 k:=fun k hk=>hs.sep b b2 _ _ k hbb hbe hbe2 hk
  have hS:∀k,E.fp b k->S k:=fun k hk=>(hs.blk b _ k hbe hk).1
  have hS2:∀k,E.fp b2 k->S k:=fun k hk=>(hs.blk b2 _ k hbe2 hk).1
  obtain⟨lvs,hlown,hlvs⟩:=hL.row;obtain⟨v',w',news,h5,h6,h7,h8,h9⟩:=uj (P:=P) w t o.type tO [z0] 1 bytes ht.h he ht.s rfl (cK (E.sl b) 0) js.length _ hR.out (u:=cK (E.sl b2) 0) hL.lit (by simp[CA.dN,abo hlown]) (by simp only[maxLen];omega) hbytes
  have hnews:news=[cK (E.sl b2) 1]:=by
   match news,h9 with
   |[u],h=>rw[show u=cK (E.sl b2) 1 from h.1]
  subst hnews;refine⟨⟨fun i hi=>?_,fun c e hc i hi=>?_⟩,fun K Q hK=>?_⟩
  ·simp[AV.ids,AV0.ids,Atom.ids]at hi;subst hi;simp[fH,Slot.used]
  ·simp at hc
   obtain⟨rfl,rfl⟩:=hc;cases hi
  ·have hfp0:∀i k,i < c.length+1->(cK (E.sl b) i).ownBlock=some k->E.fp b k:=fun i k hi hk=>(hR.X k).2 ⟨i,hi,hk⟩
   have hfpL:∀k,(cK (E.sl b2) 1).ownBlock=some k->E.fp b2 k:=fun k hk=>(hL.X k).2 hk
   have hltI:∀j k,j < c.length->(cK (E.sl b) (j+1)).ownBlock=some k->k < w.heap.size:=fun j k hj hk=>by
    obtain⟨vs,g1,_⟩:=hR.inn j _ (zyh hj)
    exact wW g1 hk
   generalize hsV:(Value.agg (v'::((List.range c.length).map (fun j=>cK (E.sl b) (j+1))++[cK (E.sl b2) 1])).toArray)=sV
   have e0:cK sV 0=v':=by rw[<-hsV];rfl
   have e1:∀j,j < c.length->cK sV (j+1)=cK (E.sl b) (j+1):=by
    intro j hj;rw[<-hsV,aeM,List.getD_cons_succ,getD_lt (by simpa using hj),zx7,zqa,zvb hj];rfl
   have e2:cK sV (c.length+1)=cK (E.sl b2) 1:=by
    rw[<-hsV,aeM,List.getD_cons_succ,zx7,zv6 zp];simp
   have hstay:∀{e:TypeId} {size n:Nat} {u:Value} {vs:List Value},w.ownsRow 0 e size u n vs->(∀k,u.ownBlock=some k->(cK (E.sl b) 0).ownBlock≠some k)->w'.ownsRow 0 e size u n vs:=fun hu hne=>
    eD hu fun k hk=>h7.block k (wW hu hk) (fun e=>hne k hk e.symm)
   have hneI:∀j k,j < c.length->(cK (E.sl b) (j+1)).ownBlock=some k->(cK (E.sl b) 0).ownBlock≠some k:=fun j k hj hk=>hR.sep (j+1) 0 k zE zE zE hk
   have hneL:∀k,(cK (E.sl b2) 1).ownBlock=some k->(cK (E.sl b) 0).ownBlock≠some k:=fun k hk h0=>hsep k (hfp0 0 k zE h0) (hfpL k hk)
   have ho:Off (fun k=>∃i e,(i,e)∈[(b,Ent.abs (iK tO tI size enc js c)),(b2,Ent.abs (alh tI size enc l))]/\e.at E i k) w w':=nS h7 (fun k hk=>⟨b,_,zq9,hfp0 0 k zE hk⟩)
   have hoS:Off S w w':=nS h7 (fun k hk=>hS k (hfp0 0 k zE hk))
   have hXin:∀i k,i < c.length+2->(cK sV i).ownBlock=some k->E.fp b k\/E.fp b2 k\/w.heap.size<=k:=by
    intro i k hi hk;rcases i with _|i
    ·rw[e0]at hk;rcases h8 k hk with h|h
     ·exact .inl (hfp0 0 k zE h)
     ·exact .inr (.inr h)
    ·by_cases hic:i < c.length
     ·rw[e1 i hic]at hk;exact .inl (hfp0 (i+1) k zE hk)
     ·have:i=c.length:=zE
      subst this;rw[e2]at hk;exact .inr (.inl (hfpL k hk))
   have hXS:∀k,(∃i,i < c.length+2/\(cK sV i).ownBlock=some k)->S k\/w.heap.size<=k:=fun k ⟨i,hi,hk⟩=>(hXin i k hi hk).elim (fun h=> .inl (hS k h)) (fun h=>h.imp (hS2 k) id)
   have hin:∀j r,(c++[l])[j]? =some r->∃vs,w'.ownsRow 0 tI size (cK sV (j+1)) r.length vs/\aM (CA.has (fun k=>S k\/∃i,i < c.length+2/\(cK sV i).ownBlock=some k) w') (r.flatMap enc) vs:=by
    intro j r hj;have hsub:∀k,(S k\/∃i,i < c.length+2/\(cK sV i).ownBlock=some k)->S k\/w.heap.size<=k:=fun k hk=>hk.elim .inl (hXS k)
    by_cases hjc:j < c.length
    ·rw[zyj hjc]at hj
     obtain⟨vs,g1,g2⟩:=hR.inn j r hj;rw[e1 j hjc];exact⟨vs,hstay g1 (fun k hk=>hneI j k hjc hk),g2.mono fun a u _ ha=>ha.step hoS hsub⟩
    ·have hlt:j < (c++[l]).length:=by
      rcases zyd j (c++[l]).length with h|h
      ·exact h
      ·rw[zqe h]at hj;cases hj
     have hjc':j=c.length:=by rw[zqi,zw1]at hlt;omega
     subst hjc';rw[zv6 (zq6 _),Nat.sub_self]at hj
     cases hj;rw[e2];exact⟨lvs,hstay hlown hneL,hlvs.mono fun a u _ ha=>ha.step hoS hsub⟩
   have hltX:∀i k,i < c.length+2->(cK sV i).ownBlock=some k->k < w'.heap.size:=by
    intro i k hi hk;rcases i with _|i
    ·rw[e0]at hk;exact wW h6 hk
    ·obtain⟨vs,g1,_⟩:=hin i ((c++[l])[i]'(by simp;omega)) (zyh (by simp;omega))
     exact wW g1 hk
   unfold Oper.wp;have hrun:(execOp a.eval o).run P w= .ok (.value v') w':=by
    unfold execOp;rw[h3];simp[resolve,invoke,builtin,hxv,hyv,h5]
   rw[hrun];refine hK _ _ _ _ (Eff.apQ (A:=iK tO tI size enc (js++[c.length]) (c++[l])) (sV:=sV) (X:=fun k=>∃i,i < c.length+2/\(cK sV i).ownBlock=some k) (R:=ahT 0) (gones:=[(b,.gone),(b2,.gone)]) hs.lt
    (fun i e k hi hk=>?_) (fun e hi=>?_) (fun i s hi=>?_) ho ?_ (fun k ⟨i,hi,hk⟩=>?_) (fun k ⟨i,hi,hk⟩=>hltX i k hi hk) e0.symm (abo h6))
   ·simp at hi;rcases hi with⟨rfl,rfl⟩|⟨rfl,rfl⟩
    ·exact hS k hk
    ·exact hS2 k hk
   ·simp at hi;rcases hi with⟨h,_⟩|⟨h,_⟩
    ·exact hbd h
    ·exact hbd2 h
   ·simp at hi;rcases hi with⟨rfl,rfl⟩|⟨rfl,rfl⟩
    ·exact⟨rfl,_,zq9⟩
    ·exact⟨rfl,_,zy2 _ zq9⟩
   ·refine⟨?_,fun j hj=>?_,hin,fun i j k hi hj hij h1 h2=>?_,fun k=>by rw[zqi,zw1]⟩
    ·rw[e0,zqi,zw1,List.map_append];have hm:js.map (fun j=>cK sV (j+1))=js.map fun j=>cK (E.sl b) (j+1):=zvg fun j hj=>e1 j (hR.lt j hj)
     rw[hm];simpa[e2]using h6
    ·rw[zqi,zw1];rcases zyg.1 hj with h|h
     ·exact Nat.lt_succ_of_lt (hR.lt j h)
     ·simp at h;omega
    ·rw[zqi,zw1]at hi hj;have key:∀i j,i < c.length+2->j < c.length+2->i < j->(cK sV i).ownBlock=some k->(cK sV j).ownBlock=some k->False:=by
      intro i j hi hj hlt h1 h2;rcases j with _|j
      ·omega
      have hkl:k < w.heap.size:=by
       by_cases hjc:j < c.length
       ·rw[e1 j hjc]at h2;exact hltI j k hjc h2
       ·have:j=c.length:=zE
        subst this;rw[e2]at h2;exact wW hlown h2
      have g1:i < c.length+1/\(cK (E.sl b) i).ownBlock=some k:=by
       rcases i with _|i
       ·rw[e0]at h1;rcases h8 k h1 with h|h
        ·exact⟨zE,h⟩
        ·omega
       ·rw[e1 i zE]at h1;exact⟨zE,h1⟩
      by_cases hjc:j < c.length
      ·rw[e1 j hjc]at h2;exact hR.sep i (j+1) k g1.1 zE zE g1.2 h2
      ·have:j=c.length:=zE
       subst this;rw[e2]at h2;exact hsep k (hfp0 i k g1.1 g1.2) (hfpL k h2)
     rcases Nat.lt_or_gt_of_ne hij with h|h
     ·exact key i j zE zE h h1 h2
     ·exact key j i zE zE h h2 h1
   ·rcases hXin i k hi hk with h|h|h
    ·exact .inl ⟨b,_,zq9,h⟩
    ·exact .inl ⟨b2,_,zy2 _ zq9,h⟩
    ·exact .inr h
end
def ak.fnA{fn:Func}{c:Code}{pre:List (Nat×Ent)}{out:Out}{rs:List ResultVar}(hf:P.funcs[f]? =some fn)(hres:fn.results=rs.toArray)(hnt:fn.ntmps=nt)(hb:fn.body=some c)(hn:(fn.name== "runtime.NumGoroutine")=false)(hna:Nat.ble ao.length nt=true)(p1:nodupB (pre.map (·.1))=true)(p3:(ao.all fun v=>v.ids.all (jw (pre.map (·.1))))=true)(p4:(pre.all fun p=>p.2.ids.all (jw (pre.map (·.1))))=true)(p5:((pre.map (·.1)).all (jw (out.hp.map (·.1))))=true)(p6:((out.res.ids++out.hp.flatMap fun p=>p.2.ids).all fun i=>jw (pre.map (·.1)) i||jw (out.hp.map (·.1)) i)=true)(h:∀(w0:World) (T B:Nat->Prop) (E0:Env),(pre=[]->∀k,¬B k)->WP P ⟨w0,T,B,nt,E0,fun b=>(lk pre b).isSome⟩ c ⟨fun t=>ao[t]?,fun b=>match lk pre b with|some e=> .ent e|none=> .free⟩ (aZ ⟨w0,T,B,nt,E0,fun b=>(lk pre b).isSome⟩ P rs out)):ak P f ao pre out:=by
 have e1:(fun b=>(pre.lookup b).isSome)=fun b=>(lk pre b).isSome:=funext fun b=>by rw[gF]
 have e2:jA ao pre=⟨fun t=>ao[t]?,fun b=>match lk pre b with|some e=> .ent e|none=> .free⟩:=by
  unfold jA
  congr 1
  funext b
  rw[gF];cases lk pre b <;> rfl
 have key:∀i,jw (pre.map (·.1)) i=true->(pre.lookup i).isSome=true:=fun i hi=>by rw[gF];exact nX (fD.1 hi)
 refine ak.fn hf hres hnt hb hn hna (fun b e hb=>by rw[gF];exact agR p1 hb) (fun v hv i hi=>key i (zqh.1 (zqh.1 p3 v hv) i hi)) (fun b e hb i hi=>key i (zqh.1 (zqh.1 p4 (b,e) hb) i hi)) (fun b e hb=>?_) (fun i hi=>?_) fun w0 T B E0 hB=>?_
 ·have:=fD.1 (zqh.1 p5 b (zqg.2 ⟨(b,e),hb,rfl⟩));obtain⟨⟨b',s⟩,hs,rfl⟩:=zqg.1 this;exact⟨s,hs⟩
 ·have hi':i∈out.res.ids++out.hp.flatMap fun p=>p.2.ids:=by
   rw[zyg];rcases hi with hi|⟨b,e,hb,hi⟩
   ·exact .inl hi
   ·exact .inr (zx9.2 ⟨(b,.ent e),hb,hi⟩)
  have:=zqh.1 p6 i hi';rw[Bool.or_eq_true]at this;rcases this with h|h
  ·exact .inl (key i h)
  ·obtain⟨⟨b',s⟩,hs,rfl⟩:=zqg.1 (fD.1 h);exact .inr ⟨s,hs⟩
 ·rw[e1,e2];refine WP.aZ (h w0 T B E0 fun hp k hk=>?_)
  subst hp;obtain⟨b,e,hb,_⟩:=hB k hk;cases hb
def aJ.le{rs:List ResultVar}{out:Out}{st':St}(h:St.le C st st')(k:aJ C P rs out st'):aJ C P rs out st:=by
 obtain⟨s,h1,h2⟩:=k;exact⟨s,fun a w hs=>h1 a w (h a w hs),h2⟩
end
section
def mkOne:Op->Bool
 | .makeFunc _ a c=>Nat.beq a.size 0&&Nat.beq c.size 0
 |_=>true
def noMk:List Oper->Bool
 |[]=>true
 |o::l=>match mkOne o.op with|true=>noMk l|false=>false
section
variable{P:Program}{C:Ctx}{st:St}{Q:Exit->St->Prop}
def WP.ame{id:Nat}{l:List Oper}(hn:noMk l=true)(h:Reg P C l l st [] (fun _ st'=>Q .normal st')):WP P C (.region id l.toArray false) st Q:=WP.aG h
def WP.aiQ{id:Nat}{l:List Oper}(hn:noMk l=true)(hm:P.follows .mixedOrders=true)(h:Reg P C l l st [] (fun feet st'=>check l.toArray feet=true/\Q .normal st')):WP P C (.region id l.toArray true) st Q:=WP.adr hm h
end
section
variable{P:Program}{C:Ctx}{st:St}
variable{ae aa:List Oper}{ab:List (List Nat×List Nat)}{K:List (List Nat×List Nat)->St->Prop}{an:Option Tmp}{ty t e:TypeId}{x y:Operand}{k:IntKind}{n size:Nat}
end
end
section
section
variable{P:Program}{C:Ctx}{st:St}
variable{ae aa:List Oper}{ab:List (List Nat×List Nat)}{K:List (List Nat×List Nat)->St->Prop}{an:Option Tmp}{d:Tmp}{op:Op}{ty t t' t'' e:TypeId}{x y:Operand}{k:IntKind}{n size:Nat}
class aiW(P:Program)(t:TypeId)(e:outParam TypeId):Prop where
 h:P.underlying t=some (.pointer e)
 s:(P.info? e).map (fun j=>Nat.beq j.size 0)=some false
def G.ax9[hp:aiW P t e](ai:Reg P C ae aa (st.app an ⟨.v (.bool true),[]⟩) (([],[])::ab) K)(hd:aC an C.nt=true:=by rfl)(hx:st.ev x=some (.v (.pointer none)):=by rfl)(hy:st.ev y=some (.v (.pointer none)):=by rfl):Go1 P C ae an (.binOp .eql t x y t') ty aa st ab K:=
 Go1.tF hd rfl hx hy (fun ρ o w ho h1 h2=>by
  unfold execOp;rw[ho];have h:∀d:Nat,(Op.equalIn (d+1) t (.pointer none) (.pointer none)).run P w= .ok true w:=fun d=>by
   simp[Op.equalIn,run_underlying hp.h]
  simp[h1,h2,eqGuard,binOp,Op.equal,Op.maxDepth,h 9999]) ai
def G.axO{b:Nat}[hp:aiW P t e](ai:Reg P C ae aa (st.app an ⟨.v (.bool false),[]⟩) (([],[])::ab) K)(hd:aC an C.nt=true:=by rfl)(hx:st.ev x=some (.ptr b off):=by rfl)(hy:st.ev y=some (.v (.pointer none)):=by rfl):Go1 P C ae an (.binOp .eql t x y t') ty aa st ab K:=
 Go1.dz [] [] zp hd zp (fun o ho _ st' E S a w hev hs _=>by
  have hv':a.eval x= .pointer (some ⟨E.blk b,off,none⟩):=(hs.ev ((hev x (by simp[ho,Op.operands])).trans hx)).1
  have hyv:a.eval y= .pointer none:=(hs.ev ((hev y (by simp[ho,Op.operands])).trans hy)).1
  refine⟨fun j hj=>(by cases hj),.bool false,?_,rfl⟩
  unfold execOp;rw[ho];have h:∀d:Nat,(Op.equalIn (d+1) t (.pointer (some ⟨E.blk b,off,none⟩)) (.pointer none)).run P w= .ok false w:=fun d=>by
   simp[Op.equalIn,run_underlying hp.h]
  simp[hv',hyv,eqGuard,binOp,Op.equal,Op.maxDepth,h 9999]) ai
def G.ax6{b:Nat}[hp:aiW P t e](ai:Reg P C ae aa (st.app an ⟨.v (.bool false),[]⟩) (([],[])::ab) K)(hd:aC an C.nt=true:=by rfl)(hx:st.ev x=some (.ptr b off):=by rfl)(hy:st.ev y=some (.ptr b off):=by rfl):Go1 P C ae an (.binOp .neq t x y t') ty aa st ab K:=
 Go1.dz [] [] zp hd zp (fun o ho _ st' E S a w hev hs _=>by
  have hv':a.eval x= .pointer (some ⟨E.blk b,off,none⟩):=(hs.ev ((hev x (by simp[ho,Op.operands])).trans hx)).1
  have hyv:a.eval y= .pointer (some ⟨E.blk b,off,none⟩):=(hs.ev ((hev y (by simp[ho,Op.operands])).trans hy)).1
  obtain⟨j,hj,_⟩:=zya.1 hp.s;refine⟨fun j hj=>(by cases hj),.bool false,?_,rfl⟩
  have h:=Lib.run_neq_ptr_same (P:=P) w ⟨E.blk b,off,none⟩ hp.h hj;unfold execOp;rw[ho];simp[hv',hyv,eqGuard,h]) ai
class TUns(P:Program)(t:TypeId):Prop where
 h:P.underlying t=some .unsafePointer
def afl{cs:List Value}(h:w.heap[g]? =some (.cells cs.toArray T (0,0))):w.shape? g=some (T,cs.length):=by
 simp[World.shape?,h]
def G.ar8{b:Nat}{ag:List Atom}[hp:aiW P t e][hu:TUns P t'](ai:Reg P C ae aa (st.app an ⟨.ptr b off,[]⟩) (([b],[])::ab) K)(hd:aC an C.nt=true:=by rfl)(hx:st.ev x=some (.ptr b off):=by rfl)(hb:st.hp b= .ent (.box T ag):=by rfl)(ho:Nat.blt off ag.length=true:=by rfl):Go1 P C ae an (.convert t t' x) ty aa st ab K:=
 Go1.dz [(b,.box T ag)] [b] (fun c e' hc=>by simp at hc;simp[hc.1]) hd (fun c e' hc=>by simp at hc;rw[hc.1,hc.2];exact hb) (fun o ho' _ st' E S a w hev hs hrd=>by
  obtain⟨hv,hids⟩:=hs.ev ((hev x (by simp[ho',Op.operands])).trans hx)
  have hv':a.eval x= .pointer (some ⟨E.blk b,off,none⟩):=hv;obtain⟨j,hj,hjs⟩:=zya.1 hp.s;obtain⟨cs,hcs,hall⟩:=hs.hp b _ (hrd b _ zq9);have hlen:=hall.length;have hlt:off < cs.length:=by rw[<-hlen];simpa using ho
  have h:=Lib.run_to_unsafe (P:=P) w (dst:=t') ⟨E.blk b,off,none⟩ hp.h hu.h hj (fun h0=>by rw[h0]at hjs;cases hjs) (afl hcs) hlt
  refine⟨fun i hi=>hids i hi,_,?_,rfl⟩
  unfold execOp;rw[ho'];simp[hv',h]) ai
def Go1.azZ{b m:Nat}{ag:List Atom}[hu:TUns P t][hp:aiW P t' e](hd:aC an C.nt=true)(hx:st.ev x=some (.ptr b off))(hb:st.hp b= .ent (.box T ag))(hl:ag.length=m)(hlies:liesAt P P.depth T (m / P.cellsOf T) off e 1=true)(ai:Reg P C ae aa (st.app an ⟨.ptr b off,[]⟩) (([b],[])::ab) K):Go1 P C ae an (.convert t t' x) ty aa st ab K:=
 Go1.dz [(b,.box T ag)] [b] (fun c e' hc=>by simp at hc;simp[hc.1]) hd (fun c e' hc=>by simp at hc;rw[hc.1,hc.2];exact hb) (fun o ho' _ st' E S a w hev hs hrd=>by
  obtain⟨hv,hids⟩:=hs.ev ((hev x (by simp[ho',Op.operands])).trans hx)
  have hv':a.eval x= .pointer (some ⟨E.blk b,off,none⟩):=hv;obtain⟨j,hj,hjs⟩:=zya.1 hp.s;obtain⟨cs,hcs,hall⟩:=hs.hp b _ (hrd b _ zq9);have hlen:=hall.length;have h:=Lib.run_from_unsafe (P:=P) w (src:=t) ⟨E.blk b,off,none⟩ hu.h hp.h hj (afl hcs) (by rw[<-hlen,hl];exact hlies)
  refine⟨fun i hi=>hids i hi,_,?_,rfl⟩
  unfold execOp;rw[ho'];simp[hv',h]) ai
def Go1.aq5{b:Nat}{as:Array Operand}{tys:Array TypeId}(ha:evs st as.toList=some [.ptr b off])(hc:∀v w,(callFunc f #[v]).run P w= .ok (.value v) w)(hd:aC an C.nt=true)(ai:Reg P C ae aa (st.app an ⟨.ptr b off,[]⟩) (([],[])::ab) K):Go1 P C ae an (.call ⟨.value (.func f),as,tys⟩) ty aa st ab K:=
 Go1.dz [] [] zp hd zp (fun o ho _ st' E S a w hev hs _=>by
  have hop:o.op.operands= #[.func f]++as:=by rw[ho];rfl
  have ha':evs st' as.toList=some [.ptr b off]:=by rw[jB (fun x hx=>hev x (by rw[hop];simp at hx;simp[hx]))];exact ha
  obtain⟨hall,hids⟩:=nL hs ha'
  match hm:as.toList.map a.eval,hall with
  |[v],hh=>
   have hv:v= .pointer (some ⟨E.blk b,off,none⟩):=hh.1;have har:as.map a.eval= #[v]:=by apply Array.ext';simpa using hm
   refine⟨fun i hi=>hids _ zq9 i hi,v,?_,hv⟩
   unfold execOp;rw[ho];have he:a.eval (.func f)= .func (.func f) #[] #[]:=rfl;have:=hc v w;simp[resolve,he,Deferred.ofValue,invoke,har,this]) ai
def aiu{S:Nat->Prop}{w:World}:∀l:List UInt8,aM (CA.has S w) (l.flatMap kY) (Lib.strCells ⟨⟨l⟩⟩)
 |[]=>trivial
 |b::l=>⟨rfl,aiu l⟩
def ajd{S:Nat->Prop}{w:World}:∀{l:List UInt8} {vs:List Value},aM (CA.has S w) (l.flatMap kY) vs->vs=l.map fun b=>Value.int .u8 b.toNat
 |[],[],_=>rfl
 |b::l,v::vs,h=>by
  have h1:v= .int .u8 b.toNat:=h.1;rw[h1,ajd (l:=l) h.2];rfl
 |[],_::_,h=>h.elim
 |_::_,[],h=>h.elim
class arZ(P:Program)(e:TypeId):Prop where
 h:(P.info? e).map (fun i=>(i.zero,i.size,i.bytes))=some (some (.int .u8 0),1,1)
def abh(w:World)(t u ty e:TypeId)(ht:P.underlying t=some (.slice e))(hu:P.underlying u=some .string)(he:arZ P e)(v:Value)(n:Nat)(xs:List Value)(hown:w.ownsRow 0 e 1 v n xs)(s:ByteArray)(hbytes:n+s.size<=140737488355328):
  ∃v' w',(Builtin.append_ #[t,u] ty #[v,.string s]).run P w= .ok v' w'/\w'.ownsRow 0 e 1 v' (n+s.size) (xs++Lib.strCells s)/\w.grownBy w' v.ownBlock/\∀k,v'.ownBlock=some k->v.ownBlock=some k\/w.heap.size<=k:=by
 obtain⟨i,hi,hn⟩:=zya.1 he.h;simp only[Prod.mk.injEq]at hn;obtain⟨hz,hsize,hby⟩:=hn;have hbase:0<=w.heap.size:=zq8 _;obtain⟨v',w',hr,h1,h2,h3⟩:=Lib.run_append_own_string (P:=P) w 0 t u ty e i ht hu hi hz hsize hby v n xs hown s (by unfold maxLen;omega) hbytes hbase
 refine⟨v',w',hr,h1,h2,fun k hk=>?_⟩
 have hxl:xs.length=n:=by simpa using hown.1
 rcases hown.2 with⟨rfl,rfl⟩|⟨g,am,cur,rfl,hbg,hg,hnc,hcm,hcs,htake⟩
 ·by_cases hm:s.size=0
  ·have hf:=Lib.run_firstCells_string (P:=P) w 1 s;rw[hm]at hf;have hr':(Builtin.append_ #[t,u] ty #[.slice none 0 0,.string s]).run P w= .ok (.slice none 0 0) w:=by
    simp[Builtin.append_,run_underlying ht,run_underlying hu,Go.sizeOf,typeInfo,hi,hsize,Builtin.lenOf,hm,hf]
   rw[hr']at hr;cases hr;cases hk
  ·have hr':=run_append_nil_string (P:=P) w t u ty e i (.int .u8 0) ht hu hi hz s zE zE (by rw[hby];omega)
   rw[hr']at hr;cases hr;simp[Value.ownBlock]at hk;right;omega
 ·by_cases hroom:n+s.size<=am
  ·have hcs':cur.size=am:=by simpa using hcs
   have hr':=Lib.run_append_room_string (P:=P) w t u ty e i ht hu hi hsize g n am cur hg s hroom zE
   rw[hr']at hr;cases hr;exact .inl hk
  ·have holds:∀j u,xs[j]? =some u->w.cell? ((⟨g,0,none⟩:Addr).add j)=some u:=hown.cells (g:=g) rfl;have hr':=Lib.run_append_grow_string (P:=P) w t u ty e i (.int .u8 0) ht hu hi hz ⟨g,0,none⟩ n am xs (by rw[hsize];simpa using hxl) holds s zE (by unfold maxLen at hcm;omega) (by rw[hby];exact growslice_fits zE zE)
   rw[hr']at hr;cases hr;simp[Value.ownBlock]at hk;right;omega
def G.anz{b n:Nat}[ht:bF P t e 1][hu:acN P t'][he:arZ P e](ai:Reg P C ae aa (st.app (some d) ⟨.own d,[(b,.gone),(d,.ent (.row e 1 (n+l.length) (ag++l.flatMap kY)))]⟩) (([b,d],[b,d])::ab) K)(hd:aC (some d) C.nt=true:=by rfl)(hx:st.ev x=some (.own b):=by rfl)(hy:st.ev y=some (.v (str l)):=by rfl)(hb:st.hp b= .ent (.row e 1 n ag):=by rfl)(hf:st.hp d= .free:=by rfl)(hbytes:n+l.length<=140737488355328:=by omega):Go1 P C ae (some d) (.call ⟨.builtin .append,#[x,y],#[t,t']⟩) ty aa st ab K:=by
 have hbd:d≠b:=by rintro rfl;rw[hf]at hb;cases hb
 refine⟨[b,d],_,fun o h2 h3 h4=>aT.eff [] [(b,.row e 1 n ag)] (fun c hc=>?_) (h2▸dP hd) (fun c e hc=>by cases hc) (fun c e hc=>?_) (fun c s hc=>?_) (fun c s hc=>?_) (fun st' E S a w hev hhp hs _ hpre=>?_),ai⟩
 ·rcases hc with⟨e,hc⟩|⟨e,hc⟩|⟨s,hc⟩
  ·cases hc
  ·simp at hc;simp[hc.1]
  ·simp at hc;rcases hc with hc|hc <;> simp[hc.1]
 ·simp at hc;obtain⟨rfl,rfl⟩:=hc;exact⟨hb,_,zq9⟩
 ·simp at hc;rcases hc with⟨rfl,rfl⟩|⟨rfl,rfl⟩
  ·exact .inl ⟨_,zq9⟩
  ·exact .inr hf
 ·simp at hc;rcases hc with⟨rfl,rfl⟩|⟨rfl,rfl⟩ <;> rfl
 ·obtain⟨⟨hxv,_⟩,_⟩:=hs.ev ((hev x (by simp[h3,Op.operands,Call.operands])).trans hx)
  have hyv:a.eval y=str l:=(hs.ev ((hev y (by simp[h3,Op.operands,Call.operands])).trans hy)).1
  have hbe:=hpre b _ zq9;obtain⟨vs,hown,hvs⟩:=hs.hp b _ hbe;have hsz:(⟨⟨l⟩⟩:ByteArray).size=l.length:=rfl;obtain⟨v',w',h5,h6,h7,h8⟩:=abh (P:=P) w t t' o.type e ht.h hu.h he (E.sl b) n vs hown ⟨⟨l⟩⟩ (by rw[hsz];exact hbytes)
  rw[hsz]at h6;refine⟨⟨fun i hi=>?_,fun c e hc i hi=>?_⟩,fun K Q hK=>?_⟩
  ·simp[AV.ids,AV0.ids,Atom.ids]at hi;subst hi;simp[fH,Slot.used]
  ·simp at hc
   obtain⟨rfl,rfl⟩:=hc;cases hi
  ·have hE:=Eff.row (E:=E) (S:=S) (b:=d) (pre:=[(b,.row e 1 n ag)]) (gones:=[(b,.gone)]) hs.lt
    (fun c e' k hc hk=>by simp at hc;obtain⟨rfl,rfl⟩:=hc;exact(hs.blk _ _ k hbe hk).1)
    (fun e' hc=>by simp at hc;exact hbd hc.1)
    (fun c s hc=>by simp at hc;obtain⟨rfl,rfl⟩:=hc;exact⟨rfl,_,zq9⟩)
    (nS h7 (fun k hk=>⟨b,_,zq9,hk⟩)) h6 (aib hvs (aiu l))
    (fun k hk=>(h8 k hk).imp (fun h=>⟨b,_,zq9,h⟩) id)
   unfold Oper.wp;have hrun:(execOp a.eval o).run P w= .ok (.value v') w':=by
    unfold execOp;rw[h3];simp[resolve,invoke,builtin,hxv,hyv,h5]
   rw[hrun];exact hK _ _ _ _ hE
def G.adp{b n:Nat}(ai:Reg P C ae aa (st.app an ⟨.it (.one (.rptr b 0)),[]⟩) (([b],[])::ab) K)(hd:aC an C.nt=true:=by rfl)(hx:st.ev x=some (.own b):=by rfl)(hb:st.hp b= .ent (.row e size n ag):=by rfl)(h0:0 < n:=by omega):Go1 P C ae an (.call ⟨.builtin .unsafeSliceData,#[x],#[t]⟩) ty aa st ab K:=
 Go1.dz [(b,.row e size n ag)] [b] (fun c e' hc=>by simp at hc;simp[hc.1]) hd (fun c e' hc=>by simp at hc;rw[hc.1,hc.2];exact hb) (fun o ho _ st' E S a w hev hs hrd=>by
  obtain⟨⟨hv,_⟩,hids⟩:=hs.ev ((hev x (by simp[ho,Op.operands,Call.operands])).trans hx)
  obtain⟨vs,hown,hvs⟩:=hs.hp b _ (hrd b _ zq9);rcases hown.2 with⟨_,hz⟩|⟨g,am,cur,hsl,_,hg,hnc,_⟩
  ·omega
  ·have h:=Lib.run_unsafeSliceData_row (P:=P) w #[t] o.type ⟨g,0,none⟩ n am zE
   refine⟨fun j hj=>hids j hj,.pointer (some ⟨g,0,none⟩),?_,⟨g,n,am,hsl,rfl⟩⟩
   unfold execOp;rw[ho];simp[resolve,invoke,builtin,hv,hsl,h]) ai
class arT(P:Program)(e:TypeId):Prop where
 c:P.cellsOf e=1
def G.acu{b n:Nat}[hp:aiW P t e][hc:arT P e](ai:Reg P C ae aa (st.app an ⟨.v (str l),[(b,.gone)]⟩) (([b],[b])::ab) K)(hd:aC an C.nt=true:=by rfl)(hx:st.ev x=some (.it (.one (.rptr b 0))):=by rfl)(hy:st.ev y=some (.v (.int .i64 (n:Int))):=by rfl)(hb:st.hp b= .ent (.row e 1 n (l.flatMap kY)):=by rfl)(h0:0 < n:=by omega):Go1 P C ae an (.call ⟨.builtin .unsafeString,#[x,y],#[t,t']⟩) ty aa st ab K:=by
 refine⟨[b],_,fun o h2 h3 h4=>aT.eff [] [(b,.row e 1 n (l.flatMap kY))] (fun c hc=>?_) (h2▸dP hd) (fun c e hc=>by cases hc) (fun c e hc=>?_) (fun c s hc=>?_) (fun c s hc=>?_) (fun st' E S a w hev hhp hs _ hpre=>?_),ai⟩
 ·rcases hc with⟨e,hc⟩|⟨e,hc⟩|⟨s,hc⟩
  ·cases hc
  ·simp at hc;simp[hc.1]
  ·simp at hc;simp[hc.1]
 ·simp at hc;obtain⟨rfl,rfl⟩:=hc;exact⟨hb,_,zq9⟩
 ·simp at hc;obtain⟨rfl,rfl⟩:=hc;exact .inl ⟨_,zq9⟩
 ·simp at hc;obtain⟨rfl,rfl⟩:=hc;rfl
 ·have hx0:∃g n am,E.sl b= .slice (some ⟨g,0,none⟩) n am/\a.eval x= .pointer (some ⟨g,0,none⟩):=(hs.ev ((hev x (by simp[h3,Op.operands,Call.operands])).trans hx)).1
  obtain⟨g',n',cap',hsl',hxv⟩:=hx0;have hyv:a.eval y= .int .i64 (n:Int):=(hs.ev ((hev y (by simp[h3,Op.operands,Call.operands])).trans hy)).1
  have hbe:=hpre b _ zq9;obtain⟨vs,hown,hvs⟩:=hs.hp b _ hbe;have hv:=ajd hvs;subst hv;have hl:l.length=n:=by have:=hown.1;simpa using this
  rcases hown.2 with⟨_,hz⟩|⟨g,am,cur,hsl,_,hg,hnc,hcm,hcs,htk⟩
  ·omega
  ·have hgg:g'=g:=by rw[hsl]at hsl';injection hsl' with q1 q2 q3;injection q1 with q1;injection q1 with q1;exact q1.symm
   subst hgg;have hne:l≠[]:=by rintro rfl;simp at hl;omega
   have hcell:∀j x,l[j]? =some x->w.cell? ((⟨g',0,none⟩:Addr).add j)=some (.int .u8 x.toNat):=fun j u hu=>by
    have hown':=hown;rw[hsl]at hown';exact hown'.cells (g:=g') rfl j _ (by simp[hu])
   have h:=Lib.run_unsafeString_row (P:=P) w t t' o.type e hp.h hc.c g' cur.size (by simp[World.shape?,hg]) l hne (by rw[hl];simp at hcs;omega) (by unfold maxLen at hcm;omega) hcell
   rw[hl]at h;refine⟨⟨fun i hi=>(by cases hi),fun c e' hc i hi=>(by simp at hc)⟩,fun K Q hK=>?_⟩
   unfold Oper.wp;have hrun:(execOp a.eval o).run P w= .ok (.value (str l)) (w.freeze ⟨g',0,none⟩ n):=by
    unfold execOp;rw[h3];simp[resolve,invoke,builtin,hxv,hyv,h]
   rw[hrun];have hat:∀k,(Ent.row e 1 n (l.flatMap kY)).at E b k↔k=g':=fun k=>by
    show (E.sl b).ownBlock=some k↔_;rw[hsl];simp[Value.ownBlock];exact eq_comm
   have ho:Off (fun k=>∃c e',(c,e')∈[(b,Ent.row e 1 n (l.flatMap kY))]/\e'.at E c k) w (w.freeze ⟨g',0,none⟩ n):=by
    have hn0:n≠0:=zE
    unfold World.freeze;rw[if_neg hn0];refine⟨rfl,rfl,rfl,by simp,fun k hk hn=>?_⟩
    have hkg:k≠g':=fun e=>hn ⟨b,_,zq9,(hat k).2 e⟩
    simp only[];rw[Array.getElem?_modify,if_neg (fun e=>hkg e.symm)]
   refine hK (str l) _ E S {env:=fun _ _=>⟨rfl,rfl⟩,fpe:=fun _ _=>rfl,sub:=fun _ h=>h,new:=fun _ h=> .inl h,lt:=fun k hk=>zqf (hs.lt k hk) ho.size,off:=ho,res:=rfl,ents:=fun i e hi=>?_,blk:=fun i e k hi hk=>?_,sep:=fun i i' e e' k hne hi=>?_}
   ·simp at hi
   ·simp at hi
   ·simp at hi
end
structure HeldG(q:Prop):Prop where
 out:q
end
